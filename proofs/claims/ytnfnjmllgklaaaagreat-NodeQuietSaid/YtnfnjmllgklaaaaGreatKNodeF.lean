/- What a node is: State. -/
import Derived.Test.YtnfnjmllgklaaaaGreatKNodeE
set_option linter.unusedVariables false
set_option linter.unusedSimpArgs false
namespace Go.Proofs.YtnfnjmllgklaaaaGreat
open Go Go.RowKit Go.Shelf Om

def st6 (p k : Nat) (f : Om.Fault) (h : Bool) : Array Value := #[.int .i64 (p : Nat), .int .i64 (k : Nat), .int .i64 (f.tec : Nat), .int .i64 (f.rec_ : Nat), .bool f.off, .bool h]
theorem set6_blk {W : World} {b : Nat} {T : TypeId} {a0 a1 a2 a3 a4 a5 : Value} (hb : W.heap[b]? = some (.cells #[a0, a1, a2, a3, a4, a5] T (0, 0))) (v0 v1 v2 v3 v4 v5 : Value) :
    (((((((W).setCell ⟨b, 0, none⟩ v0).setCell ⟨b, 1, none⟩ v1).setCell ⟨b, 2, none⟩ v2).setCell ⟨b, 3, none⟩ v3).setCell ⟨b, 4, none⟩ v4).setCell ⟨b, 5, none⟩ v5).heap[b]? = some (.cells #[v0, v1, v2, v3, v4, v5] T (0, 0)) := by
  have h := blk_set (blk_set (blk_set (blk_set (blk_set (blk_set hb 0 v0) 1 v1) 2 v2) 3 v3) 4 v4) 5 v5
  simpa using h
theorem set6_grown (W : World) (b : Nat) (v0 v1 v2 v3 v4 v5 : Value) : W.grownBy (((((((W).setCell ⟨b, 0, none⟩ v0).setCell ⟨b, 1, none⟩ v1).setCell ⟨b, 2, none⟩ v2).setCell ⟨b, 3, none⟩ v3).setCell ⟨b, 4, none⟩ v4).setCell ⟨b, 5, none⟩ v5) (some b) :=
  World.grownBy.trans (World.grownBy.trans (World.grownBy.trans (World.grownBy.trans (World.grownBy.trans (grown_set W ⟨b, 0, none⟩ v0) (grown_set _ ⟨b, 1, none⟩ v1)) (grown_set _ ⟨b, 2, none⟩ v2)) (grown_set _ ⟨b, 3, none⟩ v3)) (grown_set _ ⟨b, 4, none⟩ v4)) (grown_set _ ⟨b, 5, none⟩ v5)
set_option maxRecDepth 100000 in
set_option maxHeartbeats 4000000 in
theorem state_plain (b : Nat) (n : N) (c : NC) (w : World) (h : w.heap[b]? = some (.cells (nCells n c) 120 (0, 0))) (h3 : n.phase ≠ 3) :
    Calls Tryz.prog 23 #[.pointer (some ⟨b, 0, none⟩)] w fun e w' => e = .returned (.agg (st6 n.phase n.count n.fault n.has)) ∧ Below w.heap.size w w' := by
  have hB := (Below.refl w.heap.size w).alloc (Nat.le_refl _) (.cells #[.int .i64 0, .int .i64 0, .int .i64 0, .int .i64 0, .bool false, .bool false] 44)
  have h0 := blk_alloc h (.cells #[.int .i64 0, .int .i64 0, .int .i64 0, .int .i64 0, .bool false, .bool false] 44)
  have x1 := ext_cell_of (show (w.alloc (.cells #[.int .i64 0, .int .i64 0, .int .i64 0, .int .i64 0, .bool false, .bool false] 44)).cell? ⟨b, 1, none⟩ = some (.bool n.has) from blk_cell h0 1)
  have x16 := ext_cell_of (show (w.alloc (.cells #[.int .i64 0, .int .i64 0, .int .i64 0, .int .i64 0, .bool false, .bool false] 44)).cell? ⟨b, 16, none⟩ = some (.int .i64 (n.phase : Nat)) from blk_cell h0 16)
  have x17 := ext_cell_of (show (w.alloc (.cells #[.int .i64 0, .int .i64 0, .int .i64 0, .int .i64 0, .bool false, .bool false] 44)).cell? ⟨b, 17, none⟩ = some (.int .i64 (n.count : Nat)) from blk_cell h0 17)
  have x18 := ext_cell_of (show (w.alloc (.cells #[.int .i64 0, .int .i64 0, .int .i64 0, .int .i64 0, .bool false, .bool false] 44)).cell? ⟨b, 18, none⟩ = some (.int .i64 (n.fault.tec : Nat)) from blk_cell h0 18)
  have x19 := ext_cell_of (show (w.alloc (.cells #[.int .i64 0, .int .i64 0, .int .i64 0, .int .i64 0, .bool false, .bool false] 44)).cell? ⟨b, 19, none⟩ = some (.int .i64 (n.fault.rec_ : Nat)) from blk_cell h0 19)
  have x20 := ext_cell_of (show (w.alloc (.cells #[.int .i64 0, .int .i64 0, .int .i64 0, .int .i64 0, .bool false, .bool false] 44)).cell? ⟨b, 20, none⟩ = some (.bool n.fault.off) from blk_cell h0 20)
  have c16 : w.cell? ⟨b, 16, none⟩ = some (.int .i64 (n.phase : Nat)) := blk_cell h 16
  have hlt := lt_of_block h
  have e3 : (((n.phase : Nat) : Int) == 3) = false := by rw [beq_eq_false_iff_ne]; omega
  have hw0 := heap_alloc_new w (.cells #[.int .i64 0, .int .i64 0, .int .i64 0, .int .i64 0, .bool false, .bool false] 44)
  obtain ⟨w0, hw⟩ : ∃ w0, w0 = w.alloc (.cells #[.int .i64 0, .int .i64 0, .int .i64 0, .int .i64 0, .bool false, .bool false] 44) := ⟨_, rfl⟩
  have hz0 : w0.heap.size = w.heap.size + 1 := by rw [hw]; simp
  have c16' : w0.cell? ⟨b, 16, none⟩ = some (.int .i64 (n.phase : Nat)) := by rw [hw]; exact blk_cell h0 16
  rw [← hw] at x1 x16 x17 x18 x19 x20 hB hw0
  have HB := Lib.hid hB
  have HZ := Lib.hid hz0
  have HW0 := Lib.hid hw0
  clear h h0 h3 hB hz0 hw0
  go_enter Tryz.func23, Tryz.ntmps23
  go_wp2
  rw [← hw]
  clear hw c16
  refine wp_region_mix #[[], [0], [0, 1], [0, 1, 2], [], [4], [4, 5], [4, 5, 6], [], [8], [8, 9], [8, 9, 10], [], [12], [12, 13], [12, 13, 14], [0, 1, 2, 3, 4, 5, 6, 7, 8, 9, 10, 11, 12, 13, 14, 15], [], [0, 1, 2, 3, 4, 5, 6, 7, 8, 9, 10, 11, 12, 13, 14, 15, 16, 17]] [(0, 0), (1, 0), (2, 0), (3, 1), (4, 0), (5, 0), (6, 0), (7, 1), (8, 0), (9, 0), (10, 0), (11, 1), (12, 0), (13, 0), (14, 0), (15, 1), (16, 0), (17, 3), (18, 2)] (by kernel_rfl) (by kernel_rfl) ?_
  refine mg_in ?_
  repeat ((first | refine mg_py rfl rfl (fun K hK => ?_) | refine mg_sy rfl rfl (fun K hK => ?_)); go_simp; refine hK _ ?_; clear hK K)
  clear x1 x16 x17 x18 x19 x20
  have d0 : w0.cell? ⟨w.heap.size, 0, none⟩ = some (.int .i64 0) := blk_cell HW0.out 0
  have d1 : w0.cell? ⟨w.heap.size, 1, none⟩ = some (.int .i64 0) := blk_cell HW0.out 1
  have d2 : w0.cell? ⟨w.heap.size, 2, none⟩ = some (.int .i64 0) := blk_cell HW0.out 2
  have d3 : w0.cell? ⟨w.heap.size, 3, none⟩ = some (.int .i64 0) := blk_cell HW0.out 3
  have d4 : w0.cell? ⟨w.heap.size, 4, none⟩ = some (.bool false) := blk_cell HW0.out 4
  have d5 : w0.cell? ⟨w.heap.size, 5, none⟩ = some (.bool false) := blk_cell HW0.out 5
  have f0 := blk_free HW0.out 0
  have f1 := blk_free HW0.out 1
  have f2 := blk_free HW0.out 2
  have f3 := blk_free HW0.out 3
  have f4 := blk_free HW0.out 4
  have f5 := blk_free HW0.out 5
  have hlt0 : b < w0.heap.size := by have := HZ.out; omega
  have hlt1 : w.heap.size < w0.heap.size := by have := HZ.out; omega
  refine mg_kp rfl ?_
  go_wp2
  refine ⟨(Below.refl _ _).alloc (Nat.le_refl _) _, ?_⟩
  refine mg_ef rfl ?_
  go_wp2
  change MixG _ _ _ _ _ _
  refine mg_end ?_
  go_wp2
  have hs := blk_alloc (set6_blk HW0.out (.int .i64 (n.phase : Nat)) (.int .i64 (n.count : Nat)) (.int .i64 (n.fault.tec : Nat)) (.int .i64 (n.fault.rec_ : Nat)) (.bool n.fault.off) (.bool n.has)) (.cells #[.int .i64 (n.phase : Nat), .int .i64 (n.count : Nat), .int .i64 (n.fault.tec : Nat), .int .i64 (n.fault.rec_ : Nat), .bool n.fault.off, .bool n.has] 44)
  have hg := set6_grown w0 w.heap.size (.int .i64 (n.phase : Nat)) (.int .i64 (n.count : Nat)) (.int .i64 (n.fault.tec : Nat)) (.int .i64 (n.fault.rec_ : Nat)) (.bool n.fault.off) (.bool n.has)
  refine bodyPost_ret (v := .agg (st6 n.phase n.count n.fault n.has)) (results_cell_row rfl _ _ _ _ _ _ _ rfl hs Tryz.underlying44 rfl (by kernel_rfl)) rfl ⟨rfl, ?_⟩
  exact (((HB.out.grown hg (by omega) (by intro k hk; cases hk; exact Nat.le_refl _)).alloc (by simp; omega) _)).drew
end Go.Proofs.YtnfnjmllgklaaaaGreat
