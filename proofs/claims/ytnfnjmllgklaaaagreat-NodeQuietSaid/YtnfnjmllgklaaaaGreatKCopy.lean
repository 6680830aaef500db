/- bytes.Clone, frame.Copy. -/
import Derived.Test.YtnfnjmllgklaaaaGreatKSame
import Derived.Test.YtnfnjmllgklaaaaGreatKMixNo
import Derived.Test.YtnfnjmllgklaaaaGreatKCrcAdd
set_option linter.unusedVariables false
set_option linter.unusedSimpArgs false
namespace Go.Proofs.YtnfnjmllgklaaaaGreat
open Go Go.RowKit Go.Shelf Om

theorem own_buildNil (w : World) (e : TypeId) (B : Nat) (hB : B ≤ w.heap.size) : (w.alloc (.cells #[] e)).ownsRow B e 1 (.slice (some ⟨w.heap.size, 0, none⟩) 0 0) 0 [] :=
  ⟨rfl, .inr ⟨w.heap.size, 0, #[], rfl, hB, heap_alloc_new w _, Nat.le_refl _, Nat.zero_le _, rfl, rfl⟩⟩
set_option maxRecDepth 100000 in
set_option maxHeartbeats 1000000 in
theorem clone_any (D : Option Addr) (cap : Nat) (l : List UInt8) (w : World) (hr : Rd w D (bytesV l)) (hl : l.length ≤ 100000000) :
    Calls Tryz.prog 99 #[.slice D l.length cap] w (RowPost 5 w.heap.size (bytesV l) w) := by
  have hn := fun (w : World) (a : Option Addr) => run_eql_slice_nil (P := Tryz.prog) w 23 5 a l.length cap Tryz.underlying23
  cases D with
  | none =>
    have h0 : l = [] := by
      cases l with
      | nil => rfl
      | cons b r => obtain ⟨ad, e, _⟩ := hr 0 (byV b) rfl; cases e
    subst h0
    have hn1 := fun w => hn w none
    simp only [Option.isNone_none, List.length_nil] at hn1 ⊢
    clear hn hr
    go_enter Tryz.func99, Tryz.ntmps99
    go_wp2
    go_ret
    exact ⟨none, 0, rfl, own_nil _ _ _, Below.refl _ _⟩
  | some ad =>
    have hn1 := fun w => hn w (some ad)
    simp only [Option.isNone_some] at hn1
    have HR := Lib.hid hr
    have HL := Lib.hid hl
    clear hn hr hl
    go_enter Tryz.func99, Tryz.ntmps99
    go_wp2_with (at_builtin; go_loud (refine apN w.heap.size rfl _ _ _ _ _ _ rfl Tryz.underlying23 info5 rfl (by decide) (.slice (some ⟨w.heap.size, 0, none⟩) 0 0) [] (bytesV l) (some ad) l.length cap rfl rfl (bytesV_length l) (bytesV_one l) (own_buildNil w _ _ (Nat.le_refl _)) (HR.out.kept ((Below.refl w.heap.size w).alloc (Nat.le_refl _) _)) ((Below.refl w.heap.size w).alloc (Nat.le_refl _) _) (by simp) (by have := HL.out; simp; omega) ?_); intro A1 c1 w1 hO1 hB1 hg1 _)
    have HO := Lib.hid hO1
    clear hO1 hn1
    go_ret
    simp only [List.length_nil, Nat.zero_add, List.nil_append] at HO
    exact ⟨A1, c1, by rw [bytesV_length]; rfl, by rw [bytesV_length]; exact HO.out, hB1⟩

theorem fr_cells {W : World} {b : Nat} {f : Om.Frame} {D : Option Addr} {c : Nat} {T : TypeId} (hb : W.heap[b]? = some (.cells (frCells f D c) T (0, 0))) :
    W.cell? ⟨b, 0, none⟩ = some (.int .i64 f.kind) ∧ W.cell? ⟨b, 1, none⟩ = some (.int .u32 (f.id : Nat)) ∧ W.cell? ⟨b, 2, none⟩ = some (.bool f.ext) ∧ W.cell? ⟨b, 3, none⟩ = some (.bool f.rtr) ∧ W.cell? ⟨b, 4, none⟩ = some (.bool f.brs) ∧ W.cell? ⟨b, 5, none⟩ = some (.bool f.esi) ∧ W.cell? ⟨b, 6, none⟩ = some (.bool f.sec) ∧ W.cell? ⟨b, 7, none⟩ = some (.int .u8 (f.sdt : Nat)) ∧ W.cell? ⟨b, 8, none⟩ = some (.int .u8 (f.vcid : Nat)) ∧ W.cell? ⟨b, 9, none⟩ = some (.int .u32 (f.af : Nat)) ∧ W.cell? ⟨b, 10, none⟩ = some (.slice D f.data.length c) :=
  ⟨blk_cell hb 0, blk_cell hb 1, blk_cell hb 2, blk_cell hb 3, blk_cell hb 4, blk_cell hb 5, blk_cell hb 6, blk_cell hb 7, blk_cell hb 8, blk_cell hb 9, blk_cell hb 10⟩
theorem free_11 {W : World} {b : Nat} {cs : Array Value} {T : TypeId} (hb : W.heap[b]? = some (.cells cs T (0, 0))) :
    W.frozen? ⟨b, 0, none⟩ = false ∧ W.frozen? ⟨b, 1, none⟩ = false ∧ W.frozen? ⟨b, 2, none⟩ = false ∧ W.frozen? ⟨b, 3, none⟩ = false ∧ W.frozen? ⟨b, 4, none⟩ = false ∧ W.frozen? ⟨b, 5, none⟩ = false ∧ W.frozen? ⟨b, 6, none⟩ = false ∧ W.frozen? ⟨b, 7, none⟩ = false ∧ W.frozen? ⟨b, 8, none⟩ = false ∧ W.frozen? ⟨b, 9, none⟩ = false ∧ W.frozen? ⟨b, 10, none⟩ = false :=
  ⟨blk_free hb 0, blk_free hb 1, blk_free hb 2, blk_free hb 3, blk_free hb 4, blk_free hb 5, blk_free hb 6, blk_free hb 7, blk_free hb 8, blk_free hb 9, blk_free hb 10⟩
theorem set11_blk {W : World} {b : Nat} {T : TypeId} {a0 a1 a2 a3 a4 a5 a6 a7 a8 a9 a10 : Value} (hb : W.heap[b]? = some (.cells #[a0, a1, a2, a3, a4, a5, a6, a7, a8, a9, a10] T (0, 0))) (v0 v1 v2 v3 v4 v5 v6 v7 v8 v9 v10 : Value) :
    ((((((((((((W).setCell ⟨b, 0, none⟩ v0).setCell ⟨b, 1, none⟩ v1).setCell ⟨b, 2, none⟩ v2).setCell ⟨b, 3, none⟩ v3).setCell ⟨b, 4, none⟩ v4).setCell ⟨b, 5, none⟩ v5).setCell ⟨b, 6, none⟩ v6).setCell ⟨b, 7, none⟩ v7).setCell ⟨b, 8, none⟩ v8).setCell ⟨b, 9, none⟩ v9).setCell ⟨b, 10, none⟩ v10).heap[b]? = some (.cells #[v0, v1, v2, v3, v4, v5, v6, v7, v8, v9, v10] T (0, 0)) := by
  have h := blk_set (blk_set (blk_set (blk_set (blk_set (blk_set (blk_set (blk_set (blk_set (blk_set (blk_set hb 0 v0) 1 v1) 2 v2) 3 v3) 4 v4) 5 v5) 6 v6) 7 v7) 8 v8) 9 v9) 10 v10
  simpa using h
theorem set11_grown (W : World) (b : Nat) (v0 v1 v2 v3 v4 v5 v6 v7 v8 v9 v10 : Value) : W.grownBy ((((((((((((W).setCell ⟨b, 0, none⟩ v0).setCell ⟨b, 1, none⟩ v1).setCell ⟨b, 2, none⟩ v2).setCell ⟨b, 3, none⟩ v3).setCell ⟨b, 4, none⟩ v4).setCell ⟨b, 5, none⟩ v5).setCell ⟨b, 6, none⟩ v6).setCell ⟨b, 7, none⟩ v7).setCell ⟨b, 8, none⟩ v8).setCell ⟨b, 9, none⟩ v9).setCell ⟨b, 10, none⟩ v10) (some b) :=
  World.grownBy.trans (World.grownBy.trans (World.grownBy.trans (World.grownBy.trans (World.grownBy.trans (World.grownBy.trans (World.grownBy.trans (World.grownBy.trans (World.grownBy.trans (World.grownBy.trans (grown_set W ⟨b, 0, none⟩ v0) (grown_set _ ⟨b, 1, none⟩ v1)) (grown_set _ ⟨b, 2, none⟩ v2)) (grown_set _ ⟨b, 3, none⟩ v3)) (grown_set _ ⟨b, 4, none⟩ v4)) (grown_set _ ⟨b, 5, none⟩ v5)) (grown_set _ ⟨b, 6, none⟩ v6)) (grown_set _ ⟨b, 7, none⟩ v7)) (grown_set _ ⟨b, 8, none⟩ v8)) (grown_set _ ⟨b, 9, none⟩ v9)) (grown_set _ ⟨b, 10, none⟩ v10)
set_option maxRecDepth 100000 in
set_option maxHeartbeats 2000000 in
/-- frame.Copy. -/
theorem copy_any (f : Om.Frame) (D : Option Addr) (cap : Nat) (w : World) (hr : Rd w D (bytesV f.data)) (hl : f.data.length ≤ 100000000) :
    Calls Tryz.prog 60 #[frV f D cap] w fun e w' => ∃ A c, e = .returned (frV f A c) ∧ w'.ownsRow w.heap.size 5 1 (.slice A f.data.length c) f.data.length (bytesV f.data) ∧ Below w.heap.size w w' := by
  have hB := fun o o' : Obj => ((Below.refl w.heap.size w).alloc (Nat.le_refl _) o).alloc (by simp) o'
  have hc := fun o o' : Obj => clone_any D cap f.data ((w.alloc o).alloc o') (hr.kept (hB o o')) hl
  have hk0 := blk_alloc (heap_alloc_new w (.cells (frCells f D cap) 25)) (.cells (frCells Om.Frame.zero none 0) 25)
  have hk1 := heap_alloc_new (w.alloc (.cells (frCells f D cap) 25)) (.cells (frCells Om.Frame.zero none 0) 25)
  have hB0 := hB (.cells (frCells f D cap) 25) (.cells (frCells Om.Frame.zero none 0) 25)
  rw [World.size_alloc] at hk1
  unfold frV
  clear hr hB
  go_enter Tryz.func60, Tryz.ntmps60
  go_wp2_with fail
  refine (hc _ _).mono ?_
  rintro e w1 ⟨A, c, rfl, hO, hB1⟩
  rw [bytesV_length] at hO
  have hb0 := blk_below hk0 hB1 (by simp; omega)
  have hb1 := blk_below hk1 hB1 (by simp)
  have hB2 := hB0.trans (hB1.mono (by simp; omega))
  clear hc hk0 hk1 hB0 hB1
  obtain ⟨c0, c1, c2, c3, c4, c5, c6, c7, c8, c9, c10⟩ := fr_cells hb0
  obtain ⟨d0, d1, d2, d3, d4, d5, d6, d7, d8, d9, d10⟩ := fr_cells hb1
  obtain ⟨-, -, -, -, -, -, -, -, -, -, f10⟩ := free_11 hb0
  obtain ⟨g0, g1, g2, g3, g4, g5, g6, g7, g8, g9, g10⟩ := free_11 hb1
  have HO := Lib.hid hO
  have HB0 := Lib.hid hb0
  have HB1 := Lib.hid hb1
  have HB2 := Lib.hid hB2
  clear hO hb0 hb1 hB2
  rw [bytesV_length]
  go_wp2
  have h1 := set11_blk (blk_other HB1.out ⟨w.heap.size, 10, none⟩ (.slice A f.data.length c) (by simp)) (.int .i64 f.kind) (.int .u32 (f.id : Nat)) (.bool f.ext) (.bool f.rtr) (.bool f.brs) (.bool f.esi) (.bool f.sec) (.int .u8 (f.sdt : Nat)) (.int .u8 (f.vcid : Nat)) (.int .u32 (f.af : Nat)) (.slice A f.data.length c)
  have hg := set11_grown (w1.setCell ⟨w.heap.size, 10, none⟩ (.slice A f.data.length c)) (w.heap.size + 1) (.int .i64 f.kind) (.int .u32 (f.id : Nat)) (.bool f.ext) (.bool f.rtr) (.bool f.brs) (.bool f.esi) (.bool f.sec) (.int .u8 (f.sdt : Nat)) (.int .u8 (f.vcid : Nat)) (.int .u32 (f.af : Nat)) (.slice A f.data.length c)
  refine bodyPost_ret (v := frV f A c) (results_cell_row rfl _ _ _ _ _ _ _ rfl h1 Tryz.underlying25 rfl (by kernel_rfl)) rfl ⟨A, c, rfl, ?_, ?_⟩
  · have hg1 := grown_set w1 ⟨w.heap.size, 10, none⟩ (.slice A f.data.length c)
    exact own_mono ((HO.out.kept hg1 (.inr (own_ne HO.out HB0.out (by decide)))).kept hg (.inr (own_ne (HO.out.kept hg1 (.inr (own_ne HO.out HB0.out (by decide)))) (blk_other HB1.out ⟨w.heap.size, 10, none⟩ (.slice A f.data.length c) (by simp)) (by decide)))) (by simp; omega)
  · exact (HB2.out.setCell (p := ⟨w.heap.size, 10, none⟩) (Nat.le_refl _) _).grown hg (by have := HB2.out.size; simpa using this) (by intro k hk; cases hk; omega)
end Go.Proofs.YtnfnjmllgklaaaaGreat
