/- A node that counts: counted, join, flag, delim. -/
import Derived.Test.YtnfnjmllgklaaaaGreatKNode
set_option linter.unusedVariables false
set_option linter.unusedSimpArgs false
namespace Go.Proofs.YtnfnjmllgklaaaaGreat
open Go Go.RowKit Go.Shelf Om

def evCells (e : Ev) (D : Option Addr) (c : Nat) : Array Value :=
  #[.int .i64 (e.kind : Nat), .int .i64 (e.err : Nat), .int .i64 e.f.kind, .int .u32 (e.f.id : Nat), .bool e.f.ext, .bool e.f.rtr, .bool e.f.brs, .bool e.f.esi, .bool e.f.sec, .int .u8 (e.f.sdt : Nat), .int .u8 (e.f.vcid : Nat), .int .u32 (e.f.af : Nat), .slice D e.f.data.length c]
def evV (e : Ev) (D : Option Addr) (c : Nat) : Value := .agg (evCells e D c)
def ev0 : Array Value := #[.int .i64 0, .int .i64 0, .int .i64 0, .int .u32 0, .bool false, .bool false, .bool false, .bool false, .bool false, .int .u8 0, .int .u8 0, .int .u32 0, .slice none 0 0]
theorem ev0_eq : .agg ev0 = evV Ev.none none 0 := rfl
/-- What a phase leaves: the event, the node's cells. -/
def PhasePost (b : Nat) (c : NC) (r : Ev × N) (w : World) (e : Ending) (w' : World) : Prop :=
  e = .returned (evV r.1 none 0) ∧ w'.heap[b]? = some (.cells (nCells r.2 c) 120 (0, 0)) ∧ w.grownBy w' (some b)

/-- A block that is new may be written besides. -/
theorem grown_new {w w1 w2 : World} {row : Option Nat} {g : Nat} (h : w.grownBy w1 row) (k : w1.grownBy w2 (some g)) (hg : w.heap.size ≤ g) : w.grownBy w2 row :=
  ⟨k.os.trans h.os, k.tape.trans h.tape, k.output.trans h.output, Nat.le_trans h.size k.size, fun j hj hn => (k.block j (Nat.lt_of_lt_of_le hj h.size) (fun e => by cases e; omega)).trans (h.block j hj hn)⟩
theorem ev0_cells {W : World} {b : Nat} {T : TypeId} (hb : W.heap[b]? = some (.cells ev0 T (0, 0))) :
    W.cell? ⟨b, 0, none⟩ = some (.int .i64 0) ∧ W.cell? ⟨b, 1, none⟩ = some (.int .i64 0) ∧ W.cell? ⟨b, 2, none⟩ = some (.int .i64 0) ∧ W.cell? ⟨b, 3, none⟩ = some (.int .u32 0) ∧ W.cell? ⟨b, 4, none⟩ = some (.bool false) ∧ W.cell? ⟨b, 5, none⟩ = some (.bool false) ∧ W.cell? ⟨b, 6, none⟩ = some (.bool false) ∧ W.cell? ⟨b, 7, none⟩ = some (.bool false) ∧ W.cell? ⟨b, 8, none⟩ = some (.bool false) ∧ W.cell? ⟨b, 9, none⟩ = some (.int .u8 0) ∧ W.cell? ⟨b, 10, none⟩ = some (.int .u8 0) ∧ W.cell? ⟨b, 11, none⟩ = some (.int .u32 0) ∧ W.cell? ⟨b, 12, none⟩ = some (.slice none 0 0) :=
  ⟨blk_cell hb 0, blk_cell hb 1, blk_cell hb 2, blk_cell hb 3, blk_cell hb 4, blk_cell hb 5, blk_cell hb 6, blk_cell hb 7, blk_cell hb 8, blk_cell hb 9, blk_cell hb 10, blk_cell hb 11, blk_cell hb 12⟩
theorem free_13 {W : World} {b : Nat} {cs : Array Value} {T : TypeId} (hb : W.heap[b]? = some (.cells cs T (0, 0))) :
    W.frozen? ⟨b, 0, none⟩ = false ∧ W.frozen? ⟨b, 1, none⟩ = false ∧ W.frozen? ⟨b, 2, none⟩ = false ∧ W.frozen? ⟨b, 3, none⟩ = false ∧ W.frozen? ⟨b, 4, none⟩ = false ∧ W.frozen? ⟨b, 5, none⟩ = false ∧ W.frozen? ⟨b, 6, none⟩ = false ∧ W.frozen? ⟨b, 7, none⟩ = false ∧ W.frozen? ⟨b, 8, none⟩ = false ∧ W.frozen? ⟨b, 9, none⟩ = false ∧ W.frozen? ⟨b, 10, none⟩ = false ∧ W.frozen? ⟨b, 11, none⟩ = false ∧ W.frozen? ⟨b, 12, none⟩ = false :=
  ⟨blk_free hb 0, blk_free hb 1, blk_free hb 2, blk_free hb 3, blk_free hb 4, blk_free hb 5, blk_free hb 6, blk_free hb 7, blk_free hb 8, blk_free hb 9, blk_free hb 10, blk_free hb 11, blk_free hb 12⟩
theorem set13_blk {W : World} {b : Nat} {T : TypeId} {a0 a1 a2 a3 a4 a5 a6 a7 a8 a9 a10 a11 a12 : Value} (hb : W.heap[b]? = some (.cells #[a0, a1, a2, a3, a4, a5, a6, a7, a8, a9, a10, a11, a12] T (0, 0))) (v0 v1 v2 v3 v4 v5 v6 v7 v8 v9 v10 v11 v12 : Value) :
    ((((((((((((((W).setCell ⟨b, 0, none⟩ v0).setCell ⟨b, 1, none⟩ v1).setCell ⟨b, 2, none⟩ v2).setCell ⟨b, 3, none⟩ v3).setCell ⟨b, 4, none⟩ v4).setCell ⟨b, 5, none⟩ v5).setCell ⟨b, 6, none⟩ v6).setCell ⟨b, 7, none⟩ v7).setCell ⟨b, 8, none⟩ v8).setCell ⟨b, 9, none⟩ v9).setCell ⟨b, 10, none⟩ v10).setCell ⟨b, 11, none⟩ v11).setCell ⟨b, 12, none⟩ v12).heap[b]? = some (.cells #[v0, v1, v2, v3, v4, v5, v6, v7, v8, v9, v10, v11, v12] T (0, 0)) := by
  have h := blk_set (blk_set (blk_set (blk_set (blk_set (blk_set (blk_set (blk_set (blk_set (blk_set (blk_set (blk_set (blk_set hb 0 v0) 1 v1) 2 v2) 3 v3) 4 v4) 5 v5) 6 v6) 7 v7) 8 v8) 9 v9) 10 v10) 11 v11) 12 v12
  simpa using h
theorem set13_grown (W : World) (b : Nat) (v0 v1 v2 v3 v4 v5 v6 v7 v8 v9 v10 v11 v12 : Value) : W.grownBy ((((((((((((((W).setCell ⟨b, 0, none⟩ v0).setCell ⟨b, 1, none⟩ v1).setCell ⟨b, 2, none⟩ v2).setCell ⟨b, 3, none⟩ v3).setCell ⟨b, 4, none⟩ v4).setCell ⟨b, 5, none⟩ v5).setCell ⟨b, 6, none⟩ v6).setCell ⟨b, 7, none⟩ v7).setCell ⟨b, 8, none⟩ v8).setCell ⟨b, 9, none⟩ v9).setCell ⟨b, 10, none⟩ v10).setCell ⟨b, 11, none⟩ v11).setCell ⟨b, 12, none⟩ v12) (some b) :=
  World.grownBy.trans (World.grownBy.trans (World.grownBy.trans (World.grownBy.trans (World.grownBy.trans (World.grownBy.trans (World.grownBy.trans (World.grownBy.trans (World.grownBy.trans (World.grownBy.trans (World.grownBy.trans (World.grownBy.trans (grown_set W ⟨b, 0, none⟩ v0) (grown_set _ ⟨b, 1, none⟩ v1)) (grown_set _ ⟨b, 2, none⟩ v2)) (grown_set _ ⟨b, 3, none⟩ v3)) (grown_set _ ⟨b, 4, none⟩ v4)) (grown_set _ ⟨b, 5, none⟩ v5)) (grown_set _ ⟨b, 6, none⟩ v6)) (grown_set _ ⟨b, 7, none⟩ v7)) (grown_set _ ⟨b, 8, none⟩ v8)) (grown_set _ ⟨b, 9, none⟩ v9)) (grown_set _ ⟨b, 10, none⟩ v10)) (grown_set _ ⟨b, 11, none⟩ v11)) (grown_set _ ⟨b, 12, none⟩ v12)
set_option maxRecDepth 100000 in
set_option maxHeartbeats 2000000 in
theorem counted_any (b most next : Nat) (x : Bool) (n : N) (c : NC) (w : World) (h : w.heap[b]? = some (.cells (nCells n c) 120 (0, 0))) (hc : n.count < most) (hm : most ≤ 1000) :
    Calls Tryz.prog 116 #[.pointer (some ⟨b, 0, none⟩), .int .u8 (bi x), .int .i64 most, .int .i64 next] w (PhasePost b c (n.counted x most next) w) := by
  have hlt := lt_of_block h
  have c17 : w.cell? ⟨b, 17, none⟩ = some (.int .i64 (n.count : Nat)) := blk_cell h 17
  have f17 := blk_free h 17
  have H := Lib.hid h
  clear h
  cases x
  · have hne : ((0 : Int) == (most : Int)) = false := beq_eq_false_iff_ne.2 (by omega)
    have hn : n.counted false most next = (Ev.none, { n with count := 0 }) := by
      unfold N.counted; simp; omega
    rw [hn, show bi false = 0 from rfl]
    have hcc : ((n.count : Nat) : Int) ≤ 1000 := by omega
    clear hn hc hm
    go_enter Tryz.func116, Tryz.ntmps116
    go_wp2
    refine bodyPost_ret (v := .agg ev0) (by simp [results, Tryz.results116, go_sem, ev0]) rfl ⟨rfl, ?_, ?_⟩
    · exact blk_alloc (blk_set (blk_set H.out 17 _) 17 _) _
    · exact World.grownBy.trans (World.grownBy.trans (grown_set w ⟨b, 17, none⟩ _) (grown_set _ ⟨b, 17, none⟩ _)) (World.grownBy_alloc _ _ _)
  · rw [show bi true = 1 from rfl]
    have hcc : ((n.count : Nat) : Int) ≤ 1000 := by omega
    by_cases he : n.count + 1 = most
    · have heq : (((n.count : Nat) : Int) + 1 == (most : Int)) = true := by rw [beq_iff_eq]; omega
      have hn : n.counted true most next = (Ev.none, n.to next) := by unfold N.counted; simp [he]
      rw [hn]
      have hb1 := blk_alloc (blk_set H.out 17 (.int .i64 ((n.count : Int) + 1))) (.cells ev0 37)
      have hto := to_any b next { n with count := n.count + 1 } c _ hb1
      have hg1 := World.grownBy.trans (grown_set w ⟨b, 17, none⟩ (.int .i64 ((n.count : Int) + 1))) (World.grownBy_alloc (w.setCell ⟨b, 17, none⟩ (.int .i64 ((n.count : Int) + 1))) (.cells ev0 37) (some b))
      have hz := blk_alloc (W := w.setCell ⟨b, 17, none⟩ (.int .i64 ((n.count : Int) + 1))) (b := b) (blk_set H.out 17 (.int .i64 ((n.count : Int) + 1))) (.cells ev0 37)
      have hnew := heap_alloc_new (w.setCell ⟨b, 17, none⟩ (.int .i64 ((n.count : Int) + 1))) (.cells ev0 37)
      rw [show (w.setCell ⟨b, 17, none⟩ (.int .i64 ((n.count : Int) + 1))).heap.size = w.heap.size by simp] at hnew
      have HG1 := Lib.hid hg1
      have HNEW := Lib.hid hnew
      clear hn hc hm he hb1 hg1 hz hnew
      go_enter Tryz.func116, Tryz.ntmps116
      go_wp2_with fail
      refine hto.mono ?_
      rintro e w1 ⟨rfl, hk1, hg2, -⟩
      have hnew1 := blk_grown HNEW.out hg2 (by intro e; cases e; omega)
      have HK1 := Lib.hid hk1
      have HG2 := Lib.hid hg2
      have HN1 := Lib.hid hnew1
      clear hto hk1 hg2 hnew1
      obtain ⟨d0, d1, d2, d3, d4, d5, d6, d7, d8, d9, d10, d11, d12⟩ := ev0_cells HN1.out
      obtain ⟨g0, g1, g2, g3, g4, g5, g6, g7, g8, g9, g10, g11, g12⟩ := free_13 HN1.out
      go_wp2
      have hs := set13_blk (show w1.heap[w.heap.size]? = some (.cells #[.int .i64 0, .int .i64 0, .int .i64 0, .int .u32 0, .bool false, .bool false, .bool false, .bool false, .bool false, .int .u8 0, .int .u8 0, .int .u32 0, .slice none 0 0] 37 (0, 0)) from HN1.out) (.int .i64 0) (.int .i64 0) (.int .i64 0) (.int .u32 0) (.bool false) (.bool false) (.bool false) (.bool false) (.bool false) (.int .u8 0) (.int .u8 0) (.int .u32 0) (.slice none 0 0)
      have hg := set13_grown w1 w.heap.size (.int .i64 0) (.int .i64 0) (.int .i64 0) (.int .u32 0) (.bool false) (.bool false) (.bool false) (.bool false) (.bool false) (.int .u8 0) (.int .u8 0) (.int .u32 0) (.slice none 0 0)
      refine bodyPost_ret (v := .agg ev0) (results_cell_row rfl _ _ _ _ _ _ _ rfl hs Tryz.underlying37 rfl (by kernel_rfl)) rfl ⟨rfl, ?_, ?_⟩
      · exact (hg.block b (lt_of_block HK1.out) (by intro e; cases e; omega)).trans HK1.out
      · have h12 := World.grownBy.trans HG1.out HG2.out
        exact grown_new h12 hg (Nat.le_refl _)
    · have heq : (((n.count : Nat) : Int) + 1 == (most : Int)) = false := by rw [beq_eq_false_iff_ne]; omega
      have hn : n.counted true most next = (Ev.none, { n with count := n.count + 1 }) := by unfold N.counted; simp [he]
      rw [hn]
      clear hn hc hm he
      go_enter Tryz.func116, Tryz.ntmps116
      go_wp2
      refine bodyPost_ret (v := .agg ev0) (by simp [results, Tryz.results116, go_sem, ev0]) rfl ⟨rfl, ?_, ?_⟩
      · exact blk_alloc (blk_set H.out 17 _) _
      · exact World.grownBy.trans (grown_set w ⟨b, 17, none⟩ _) (World.grownBy_alloc _ _ _)
end Go.Proofs.YtnfnjmllgklaaaaGreat
