/- XMix: an operation whose guard says no. -/
import Derived.Test.YtnfnjmllgklaaaaGreatKMixIn
set_option linter.unusedVariables false
set_option linter.unusedSimpArgs false
namespace Om
open Go Go.RowKit
section
variable {P : Program} {ops : Array Oper} {Q : Exit → Act → World → Prop}
/-- Not wanted: passed, whatever its tag. -/
theorem mix_no {i t : Nat} {r : List (Nat × Nat)} {a : Act} {w : World} {o : Oper} (ho : ops[i]? = some o) (hw : Region.wanted o (yielded ops a.tmps) = false)
    (h : ∀ K : Act → Prop, (∀ a', wpMix P ops Q r a' w → K a') → K (a.put o.dst undef)) : wpMix P ops Q ((i, t) :: r) a w := by
  have h := h (fun a' => wpMix P ops Q r a' w) (fun _ h => h)
  simp only [wpMix, clause, ho]
  by_cases ht : t ≤ 1
  · rw [if_pos ht, if_neg (by rw [hw]; decide)]
    exact h
  · rw [if_neg ht]
    simp only [wpList]
    rw [if_neg (by rw [hw]; decide)]
    exact ⟨fun _ => Below.refl _ _, h⟩
theorem mix_py {i : Nat} {r : List (Nat × Nat)} {a : Act} {w : World} {o : Oper} (ho : ops[i]? = some o) (hw : Region.wanted o (yielded ops a.tmps) = true)
    (h : ∀ K : Act → Prop, (∀ a', wpMix P ops Q r a' w → K a') → ∃ v, (∀ W, (execOp a.eval o).run P W = .ok (.value v) W) ∧ K (a.put o.dst v)) : wpMix P ops Q ((i, 0) :: r) a w :=
  mix_pu ho (fun K hK => by rw [if_pos hw]; exact h K hK)
theorem mix_sy {i : Nat} {r : List (Nat × Nat)} {a : Act} {w : World} {o : Oper} (ho : ops[i]? = some o) (hw : Region.wanted o (yielded ops a.tmps) = true)
    (h : ∀ K : Act → Prop, (∀ a', wpMix P ops Q r a' w → K a') → ∃ v, (∀ hs n, (execOp a.eval o).run P (ext w hs n) = .ok (.value v) (ext w hs n)) ∧ K (a.put o.dst v)) : wpMix P ops Q ((i, 1) :: r) a w :=
  mix_st ho (fun K hK => by rw [if_pos hw]; exact h K hK)
/-- The rest of a region, hidden from unfolding. -/
structure MixG (P : Program) (ops : Array Oper) (Q : Exit → Act → World → Prop) (L : List (Nat × Nat)) (a : Act) (w : World) : Prop where
  out : wpMix P ops Q L a w
theorem mg_in {L : List (Nat × Nat)} {a : Act} {w : World} (h : MixG P ops Q L a w) : wpMix P ops Q L a w := h.out
theorem mg_end {a : Act} {w : World} (h : Q .normal a w) : MixG P ops Q [] a w := ⟨mix_end h⟩
theorem mg_no {i t : Nat} {r : List (Nat × Nat)} {a : Act} {w : World} {o : Oper} (ho : ops[i]? = some o) (hw : Region.wanted o (yielded ops a.tmps) = false)
    (h : ∀ K : Act → Prop, (∀ a', MixG P ops Q r a' w → K a') → K (a.put o.dst undef)) : MixG P ops Q ((i, t) :: r) a w :=
  ⟨mix_no ho hw fun _ hK => h _ fun a' h' => hK a' h'.out⟩
theorem mg_py {i : Nat} {r : List (Nat × Nat)} {a : Act} {w : World} {o : Oper} (ho : ops[i]? = some o) (hw : Region.wanted o (yielded ops a.tmps) = true)
    (h : ∀ K : Act → Prop, (∀ a', MixG P ops Q r a' w → K a') → ∃ v, (∀ W, (execOp a.eval o).run P W = .ok (.value v) W) ∧ K (a.put o.dst v)) : MixG P ops Q ((i, 0) :: r) a w :=
  ⟨mix_py ho hw fun _ hK => h _ fun a' h' => hK a' h'.out⟩
theorem mg_sy {i : Nat} {r : List (Nat × Nat)} {a : Act} {w : World} {o : Oper} (ho : ops[i]? = some o) (hw : Region.wanted o (yielded ops a.tmps) = true)
    (h : ∀ K : Act → Prop, (∀ a', MixG P ops Q r a' w → K a') → ∃ v, (∀ hs n, (execOp a.eval o).run P (ext w hs n) = .ok (.value v) (ext w hs n)) ∧ K (a.put o.dst v)) : MixG P ops Q ((i, 1) :: r) a w :=
  ⟨mix_sy ho hw fun _ hK => h _ fun a' h' => hK a' h'.out⟩
theorem wpList_only {F F' : Act → World → Prop} (hF : ∀ a w, F a w → F' a w) {o : Oper} {a : Act} {w : World} (h : wpList P ops (Only F) [o] a w) : wpList P ops (Only F') [o] a w := by
  simp only [wpList] at h ⊢
  by_cases hw : Region.wanted o (yielded ops a.tmps) = true
  · rw [if_pos hw] at h ⊢
    rcases h with h | ⟨_, _, _, hq⟩
    · left
      unfold Oper.wp at h ⊢
      exact upon_only (dst := none) (v := undef) (fun d hd => by cases hd) (fun u w' ds hN => hF _ _ hN) h
    · exact hq.elim
  · rw [if_neg hw] at h ⊢
    exact hF _ _ h
theorem mg_ef {i : Nat} {r : List (Nat × Nat)} {a : Act} {w : World} {o : Oper} (ho : ops[i]? = some o)
    (h : wpList P ops (Only fun a' w' => MixG P ops Q r a' w') [o] a w) : MixG P ops Q ((i, 2) :: r) a w :=
  ⟨mix_ef ho (wpList_only (fun _ _ h => h.out) h)⟩
theorem mg_kp {i : Nat} {r : List (Nat × Nat)} {a : Act} {w : World} {o : Oper} (ho : ops[i]? = some o)
    (h : wpList P ops (Only fun a' w' => Below w.heap.size w w' ∧ MixG P ops Q r a' w') [o] a w) : MixG P ops Q ((i, 3) :: r) a w :=
  ⟨mix_kp ho (wpList_only (fun _ _ h => ⟨h.1, h.2.out⟩) h)⟩
end
end Om
