/- A node at Idle without a frame, at a 1. -/
import Derived.Test.YtnfnjmllgklaaaaGreatKNodeC
set_option linter.unusedVariables false
set_option linter.unusedSimpArgs false
namespace Go.Proofs.YtnfnjmllgklaaaaGreat
open Go Go.RowKit Go.Shelf Om

set_option maxRecDepth 100000 in
set_option maxHeartbeats 2000000 in
theorem idle1_any (b : Nat) (n : N) (c : NC) (w : World) (h : w.heap[b]? = some (.cells (nCells n c) 120 (0, 0))) (hh : n.has = false) :
    Calls Tryz.prog 66 #[.pointer (some ⟨b, 0, none⟩), .int .u8 1] w (PhasePost b c (n.idle true) w) := by
  have hlt := lt_of_block h
  have c1 : w.cell? ⟨b, 1, none⟩ = some (.bool false) := by rw [← hh]; exact blk_cell h 1
  have c23 : w.cell? ⟨b, 23, none⟩ = some (.bool n.sender) := blk_cell h 23
  have f23 := blk_free h 23
  have hi : n.idle true = (Ev.none, { n with sender := false }) := by unfold N.idle; rw [if_neg (by rw [hh]; decide)]; rw [hh]; rfl
  rw [hi]
  have H := Lib.hid h
  clear h hh hi
  go_enter Tryz.func66, Tryz.ntmps66
  go_wp2
  refine bodyPost_ret (v := .agg ev0) (by simp [results, Tryz.results66, go_sem, ev0]) rfl ⟨rfl, ?_, ?_⟩
  · exact blk_alloc (blk_set H.out 23 _) _
  · exact World.grownBy.trans (grown_set w ⟨b, 23, none⟩ _) (World.grownBy_alloc _ _ _)
end Go.Proofs.YtnfnjmllgklaaaaGreat
