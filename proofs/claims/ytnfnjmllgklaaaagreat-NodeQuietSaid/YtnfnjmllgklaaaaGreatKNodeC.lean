/- Phases that count: join, delim, flag. -/
import Derived.Test.YtnfnjmllgklaaaaGreatKNodeB
set_option linter.unusedVariables false
set_option linter.unusedSimpArgs false
namespace Go.Proofs.YtnfnjmllgklaaaaGreat
open Go Go.RowKit Go.Shelf Om

set_option maxRecDepth 100000 in
set_option maxHeartbeats 2000000 in
theorem join_any (b : Nat) (x : Bool) (n : N) (c : NC) (w : World) (h : w.heap[b]? = some (.cells (nCells n c) 120 (0, 0))) (hc : n.count < 11) :
    Calls Tryz.prog 65 #[.pointer (some ⟨b, 0, none⟩), .int .u8 (bi x)] w (PhasePost b c (n.counted x 11 1) w) := by
  have hlt := lt_of_block h
  have hcnt := counted_any b 11 1 x n c (w.alloc (.cells ev0 37)) (blk_alloc h _) (by omega) (by decide)
  have hnew := heap_alloc_new w (.cells ev0 37)
  have HNEW := Lib.hid hnew
  have HG0 := Lib.hid (World.grownBy_alloc w (.cells ev0 37) (some b))
  clear h hnew
  go_enter Tryz.func65, Tryz.ntmps65
  go_wp2_with fail
  refine Calls.mono (show Calls _ _ #[.pointer (some ⟨b, 0, none⟩), .int .u8 (bi x), .int .i64 11, .int .i64 1] _ _ from hcnt) ?_
  rintro e w1 ⟨rfl, hk1, hg1⟩
  have HK1 := Lib.hid hk1
  have HG1 := Lib.hid hg1
  have HN1 := Lib.hid (blk_grown HNEW.out hg1 (by intro e; cases e; omega))
  clear hcnt hk1 hg1
  obtain ⟨d0, d1, d2, d3, d4, d5, d6, d7, d8, d9, d10, d11, d12⟩ := ev0_cells HN1.out
  obtain ⟨g0, g1, g2, g3, g4, g5, g6, g7, g8, g9, g10, g11, g12⟩ := free_13 HN1.out
  rw [show evV (n.counted x 11 1).1 none 0 = .agg #[.int .i64 0, .int .i64 0, .int .i64 0, .int .u32 0, .bool false, .bool false, .bool false, .bool false, .bool false, .int .u8 0, .int .u8 0, .int .u32 0, .slice none 0 0] from rfl]
  go_wp2
  have hs := set13_blk (show w1.heap[w.heap.size]? = some (.cells #[.int .i64 0, .int .i64 0, .int .i64 0, .int .u32 0, .bool false, .bool false, .bool false, .bool false, .bool false, .int .u8 0, .int .u8 0, .int .u32 0, .slice none 0 0] 37 (0, 0)) from HN1.out) (.int .i64 0) (.int .i64 0) (.int .i64 0) (.int .u32 0) (.bool false) (.bool false) (.bool false) (.bool false) (.bool false) (.int .u8 0) (.int .u8 0) (.int .u32 0) (.slice none 0 0)
  have hg := set13_grown w1 w.heap.size (.int .i64 0) (.int .i64 0) (.int .i64 0) (.int .u32 0) (.bool false) (.bool false) (.bool false) (.bool false) (.bool false) (.int .u8 0) (.int .u8 0) (.int .u32 0) (.slice none 0 0)
  refine bodyPost_ret (v := .agg ev0) (results_cell_row rfl _ _ _ _ _ _ _ rfl hs Tryz.underlying37 rfl (by kernel_rfl)) rfl ⟨rfl, ?_, ?_⟩
  · exact (hg.block b (lt_of_block HK1.out) (by intro e; cases e; omega)).trans HK1.out
  · exact grown_new (World.grownBy.trans HG0.out HG1.out) hg (Nat.le_refl _)

set_option maxRecDepth 100000 in
set_option maxHeartbeats 2000000 in
theorem delim_any (b : Nat) (x : Bool) (n : N) (c : NC) (w : World) (h : w.heap[b]? = some (.cells (nCells n c) 120 (0, 0))) (hc : n.count < 8) :
    Calls Tryz.prog 71 #[.pointer (some ⟨b, 0, none⟩), .int .u8 (bi x)] w (PhasePost b c (n.counted x 8 8) w) := by
  have hlt := lt_of_block h
  have hcnt := counted_any b 8 8 x n c (w.alloc (.cells ev0 37)) (blk_alloc h _) (by omega) (by decide)
  have hnew := heap_alloc_new w (.cells ev0 37)
  have HNEW := Lib.hid hnew
  have HG0 := Lib.hid (World.grownBy_alloc w (.cells ev0 37) (some b))
  clear h hnew
  go_enter Tryz.func71, Tryz.ntmps71
  go_wp2_with fail
  refine Calls.mono (show Calls _ _ #[.pointer (some ⟨b, 0, none⟩), .int .u8 (bi x), .int .i64 8, .int .i64 8] _ _ from hcnt) ?_
  rintro e w1 ⟨rfl, hk1, hg1⟩
  have HK1 := Lib.hid hk1
  have HG1 := Lib.hid hg1
  have HN1 := Lib.hid (blk_grown HNEW.out hg1 (by intro e; cases e; omega))
  clear hcnt hk1 hg1
  obtain ⟨d0, d1, d2, d3, d4, d5, d6, d7, d8, d9, d10, d11, d12⟩ := ev0_cells HN1.out
  obtain ⟨g0, g1, g2, g3, g4, g5, g6, g7, g8, g9, g10, g11, g12⟩ := free_13 HN1.out
  rw [show evV (n.counted x 8 8).1 none 0 = .agg #[.int .i64 0, .int .i64 0, .int .i64 0, .int .u32 0, .bool false, .bool false, .bool false, .bool false, .bool false, .int .u8 0, .int .u8 0, .int .u32 0, .slice none 0 0] from rfl]
  go_wp2
  have hs := set13_blk (show w1.heap[w.heap.size]? = some (.cells #[.int .i64 0, .int .i64 0, .int .i64 0, .int .u32 0, .bool false, .bool false, .bool false, .bool false, .bool false, .int .u8 0, .int .u8 0, .int .u32 0, .slice none 0 0] 37 (0, 0)) from HN1.out) (.int .i64 0) (.int .i64 0) (.int .i64 0) (.int .u32 0) (.bool false) (.bool false) (.bool false) (.bool false) (.bool false) (.int .u8 0) (.int .u8 0) (.int .u32 0) (.slice none 0 0)
  have hg := set13_grown w1 w.heap.size (.int .i64 0) (.int .i64 0) (.int .i64 0) (.int .u32 0) (.bool false) (.bool false) (.bool false) (.bool false) (.bool false) (.int .u8 0) (.int .u8 0) (.int .u32 0) (.slice none 0 0)
  refine bodyPost_ret (v := .agg ev0) (results_cell_row rfl _ _ _ _ _ _ _ rfl hs Tryz.underlying37 rfl (by kernel_rfl)) rfl ⟨rfl, ?_, ?_⟩
  · exact (hg.block b (lt_of_block HK1.out) (by intro e; cases e; omega)).trans HK1.out
  · exact grown_new (World.grownBy.trans HG0.out HG1.out) hg (Nat.le_refl _)

set_option maxRecDepth 100000 in
set_option maxHeartbeats 2000000 in
theorem flagp_any (b : Nat) (x : Bool) (n : N) (c : NC) (w : World) (h : w.heap[b]? = some (.cells (nCells n c) 120 (0, 0))) (hc : n.count < 6) :
    Calls Tryz.prog 70 #[.pointer (some ⟨b, 0, none⟩), .int .u8 (bi x)] w (PhasePost b c (n.counted true 6 7) w) := by
  have hlt := lt_of_block h
  have hcnt := counted_any b 6 7 true n c (w.alloc (.cells ev0 37)) (blk_alloc h _) (by omega) (by decide)
  have hnew := heap_alloc_new w (.cells ev0 37)
  have HNEW := Lib.hid hnew
  have HG0 := Lib.hid (World.grownBy_alloc w (.cells ev0 37) (some b))
  clear h hnew
  go_enter Tryz.func70, Tryz.ntmps70
  go_wp2_with fail
  refine Calls.mono (show Calls _ _ #[.pointer (some ⟨b, 0, none⟩), .int .u8 1, .int .i64 6, .int .i64 7] _ _ from hcnt) ?_
  rintro e w1 ⟨rfl, hk1, hg1⟩
  have HK1 := Lib.hid hk1
  have HG1 := Lib.hid hg1
  have HN1 := Lib.hid (blk_grown HNEW.out hg1 (by intro e; cases e; omega))
  clear hcnt hk1 hg1
  obtain ⟨d0, d1, d2, d3, d4, d5, d6, d7, d8, d9, d10, d11, d12⟩ := ev0_cells HN1.out
  obtain ⟨g0, g1, g2, g3, g4, g5, g6, g7, g8, g9, g10, g11, g12⟩ := free_13 HN1.out
  rw [show evV (n.counted true 6 7).1 none 0 = .agg #[.int .i64 0, .int .i64 0, .int .i64 0, .int .u32 0, .bool false, .bool false, .bool false, .bool false, .bool false, .int .u8 0, .int .u8 0, .int .u32 0, .slice none 0 0] from rfl]
  go_wp2
  have hs := set13_blk (show w1.heap[w.heap.size]? = some (.cells #[.int .i64 0, .int .i64 0, .int .i64 0, .int .u32 0, .bool false, .bool false, .bool false, .bool false, .bool false, .int .u8 0, .int .u8 0, .int .u32 0, .slice none 0 0] 37 (0, 0)) from HN1.out) (.int .i64 0) (.int .i64 0) (.int .i64 0) (.int .u32 0) (.bool false) (.bool false) (.bool false) (.bool false) (.bool false) (.int .u8 0) (.int .u8 0) (.int .u32 0) (.slice none 0 0)
  have hg := set13_grown w1 w.heap.size (.int .i64 0) (.int .i64 0) (.int .i64 0) (.int .u32 0) (.bool false) (.bool false) (.bool false) (.bool false) (.bool false) (.int .u8 0) (.int .u8 0) (.int .u32 0) (.slice none 0 0)
  refine bodyPost_ret (v := .agg ev0) (results_cell_row rfl _ _ _ _ _ _ _ rfl hs Tryz.underlying37 rfl (by kernel_rfl)) rfl ⟨rfl, ?_, ?_⟩
  · exact (hg.block b (lt_of_block HK1.out) (by intro e; cases e; omega)).trans HK1.out
  · exact grown_new (World.grownBy.trans HG0.out HG1.out) hg (Nat.le_refl _)
end Go.Proofs.YtnfnjmllgklaaaaGreat
