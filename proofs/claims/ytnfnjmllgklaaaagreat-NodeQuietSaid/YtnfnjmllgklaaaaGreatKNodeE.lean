/- What a node is asked: Out, Drop, Restart. -/
import Derived.Test.YtnfnjmllgklaaaaGreatKNodeD
set_option linter.unusedVariables false
set_option linter.unusedSimpArgs false
namespace Go.Proofs.YtnfnjmllgklaaaaGreat
open Go Go.RowKit Go.Shelf Om

set_option maxRecDepth 100000 in
set_option maxHeartbeats 4000000 in
theorem out_plain (b : Nat) (n : N) (c : NC) (w : World) (h : w.heap[b]? = some (.cells (nCells n c) 120 (0, 0))) (hp : n.phase ≤ 11) (h2 : n.phase ≠ 2) (h3 : n.phase ≠ 3) :
    Calls Tryz.prog 20 #[.pointer (some ⟨b, 0, none⟩)] w fun e w' => e = .returned (.int .u8 (bi n.out)) ∧ w' = w := by
  have c1 : w.cell? ⟨b, 1, none⟩ = some (.bool n.has) := blk_cell h 1
  have c16 : w.cell? ⟨b, 16, none⟩ = some (.int .i64 (n.phase : Nat)) := blk_cell h 16
  have c22 : w.cell? ⟨b, 22, none⟩ = some (.bool n.quiet) := blk_cell h 22
  have ho : n.out = if n.phase = 1 then !n.has else if n.phase = 5 then n.quiet else if n.phase = 6 then false else true := by
    unfold N.out; rw [if_neg h2, if_neg h3]
  rw [ho]
  generalize n.has = x at *
  generalize n.quiet = q at *
  generalize n.phase = p at *
  clear h ho
  have hp' : p = 0 ∨ p = 1 ∨ p = 4 ∨ p = 5 ∨ p = 6 ∨ p = 7 ∨ p = 8 ∨ p = 9 ∨ p = 10 ∨ p = 11 := by omega
  clear hp h2 h3
  rcases hp' with rfl | rfl | rfl | rfl | rfl | rfl | rfl | rfl | rfl | rfl
  · go_enter Tryz.func20, Tryz.ntmps20
    go_wp2
    go_ret
    exact ⟨rfl, rfl⟩
  · cases x
    all_goals
      go_enter Tryz.func20, Tryz.ntmps20
      go_wp2
      go_ret
      exact ⟨rfl, rfl⟩
  · go_enter Tryz.func20, Tryz.ntmps20
    go_wp2
    go_ret
    exact ⟨rfl, rfl⟩
  · cases q
    all_goals
      go_enter Tryz.func20, Tryz.ntmps20
      go_wp2
      go_ret
      exact ⟨rfl, rfl⟩
  all_goals
    go_enter Tryz.func20, Tryz.ntmps20
    go_wp2
    go_ret
    exact ⟨rfl, rfl⟩
set_option maxRecDepth 100000 in
theorem out_nil (w : World) : Calls Tryz.prog 20 #[.pointer none] w fun e w' => e = .returned (.int .u8 1) ∧ w' = w := by
  go_enter Tryz.func20, Tryz.ntmps20
  go_wp2
  go_ret
  exact ⟨rfl, rfl⟩
set_option maxRecDepth 100000 in
theorem sample_nil (w : World) : Calls Tryz.prog 21 #[.pointer none, .int .u8 0] w fun e w' => e = .returned (.tuple #[.agg ev0, .int .i64 1]) ∧ Below w.heap.size w w' := by
  go_enter Tryz.func21, Tryz.ntmps21
  go_wp2
  exact bodyPost_ret (v := .tuple #[.agg ev0, .int .i64 1]) (by simp [results, Tryz.results21, go_sem, ev0]) rfl ⟨rfl, (Below.refl _ _).alloc (Nat.le_refl _) _⟩
set_option maxRecDepth 100000 in
set_option maxHeartbeats 2000000 in
/-- Drop: the answer, and the node. -/
theorem drop_any (b : Nat) (n : N) (c : NC) (w : World) (h : w.heap[b]? = some (.cells (nCells n c) 120 (0, 0))) :
    Calls Tryz.prog 25 #[.pointer (some ⟨b, 0, none⟩)] w fun e w' => e = .returned (.bool n.drop.1) ∧ w'.heap[b]? = some (.cells (nCells n.drop.2 c) 120 (0, 0)) ∧ w.grownBy w' (some b) := by
  have c1 : w.cell? ⟨b, 1, none⟩ = some (.bool n.has) := blk_cell h 1
  have c16 : w.cell? ⟨b, 16, none⟩ = some (.int .i64 (n.phase : Nat)) := blk_cell h 16
  have f1 := blk_free h 1
  have H := Lib.hid h
  clear h
  cases hh : n.has
  · have hd : n.drop = (false, n) := by unfold N.drop; rw [if_pos (.inl hh)]
    rw [hd]
    rw [hh] at c1
    clear hd hh
    go_enter Tryz.func25, Tryz.ntmps25
    go_wp2
    go_ret
    exact ⟨rfl, H.out, World.grownBy.refl _ _⟩
  · rw [hh] at c1
    by_cases h2 : n.phase = 2
    · have hd : n.drop = (false, n) := by unfold N.drop; rw [if_pos (.inr h2)]
      rw [hd]
      rw [h2] at c16
      clear hd hh h2
      go_enter Tryz.func25, Tryz.ntmps25
      go_wp2
      go_ret
      exact ⟨rfl, H.out, World.grownBy.refl _ _⟩
    · have hd : n.drop = (true, { n with has := false }) := by unfold N.drop; rw [if_neg (by rw [hh]; simp [h2])]
      rw [hd]
      have e2 : (((n.phase : Nat) : Int) == 2) = false := by rw [beq_eq_false_iff_ne]; omega
      clear hd hh h2
      go_enter Tryz.func25, Tryz.ntmps25
      go_wp2
      go_ret
      exact ⟨rfl, blk_set H.out 1 _, grown_set w ⟨b, 1, none⟩ _⟩
set_option maxRecDepth 100000 in
set_option maxHeartbeats 2000000 in
theorem restart_any (b : Nat) (n : N) (c : NC) (w : World) (h : w.heap[b]? = some (.cells (nCells n c) 120 (0, 0))) :
    Calls Tryz.prog 38 #[.pointer (some ⟨b, 0, none⟩)] w fun e w' => e = .returned (.bool n.restart.1) ∧ w'.heap[b]? = some (.cells (nCells n.restart.2 c) 120 (0, 0)) ∧ w.grownBy w' (some b) := by
  have c16 : w.cell? ⟨b, 16, none⟩ = some (.int .i64 (n.phase : Nat)) := blk_cell h 16
  by_cases h10 : n.phase = 10
  · have hd : n.restart = (true, n.to 11) := by unfold N.restart; rw [if_neg (by simp [h10])]
    have ht := to_any b 11 n c w h
    have HD := Lib.hid hd
    rw [h10] at c16
    rw [hd]
    clear hd h10 h
    go_enter Tryz.func38, Tryz.ntmps38
    go_wp2_with fail
    refine Calls.mono (show Calls _ _ #[.pointer (some ⟨b, 0, none⟩), .int .i64 11] _ _ from ht) ?_
    rintro e w1 ⟨rfl, hk, hg, -⟩
    have HK := Lib.hid hk
    have HG := Lib.hid hg
    clear ht hk hg
    go_wp2
    go_ret
    exact ⟨rfl, HK.out, HG.out⟩
  · have hd : n.restart = (false, n) := by unfold N.restart; rw [if_pos h10]
    rw [hd]
    have e2 : (((n.phase : Nat) : Int) == 10) = false := by rw [beq_eq_false_iff_ne]; omega
    have e3 : (((n.phase : Nat) : Int) != 10) = true := by rw [bne_iff_ne]; omega
    have H := Lib.hid h
    clear hd h10 h
    go_enter Tryz.func38, Tryz.ntmps38
    go_wp2
    go_ret
    exact ⟨rfl, H.out, World.grownBy.refl _ _⟩
end Go.Proofs.YtnfnjmllgklaaaaGreat
