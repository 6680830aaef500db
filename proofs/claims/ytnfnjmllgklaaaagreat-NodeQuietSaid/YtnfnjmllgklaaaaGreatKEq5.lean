/- [5]bool compared. -/
import Derived.Test.YtnfnjmllgklaaaaGreatKFrame
import Derived.Laws.StructEq
set_option linter.unusedVariables false
set_option linter.unusedSimpArgs false
namespace Go.Proofs.YtnfnjmllgklaaaaGreat
open Go Go.RowKit Go.Shelf Om
theorem isAgg_bool (w : World) : (isAgg 4).run Tryz.prog w = .ok false w := by simp [isAgg, run_underlying Tryz.underlying4, Sem.run_bind]
set_option maxHeartbeats 4000000 in
theorem eq5 (a1 a2 a3 a4 a5 b1 b2 b3 b4 b5 : Bool) (w : World) : (Op.equalIn 10000 127 (.agg #[.bool a1, .bool a2, .bool a3, .bool a4, .bool a5]) (.agg #[.bool b1, .bool b2, .bool b3, .bool b4, .bool b5])).run Tryz.prog w =
    .ok (decide (a1 = b1 ∧ a2 = b2 ∧ a3 = b3 ∧ a4 = b4 ∧ a5 = b5)) w := by
  rw [show (10000 : Nat) = 9998 + 1 + 1 from rfl]
  unfold Op.equalIn
  rw [Sem.run_bind, run_underlying Tryz.underlying127]
  simp only [Result.andThen_ok]
  have hs : ∀ w, (sizeOf 4).run Tryz.prog w = .ok 1 w := fun w => by kernel_rfl
  have hb : ∀ (a b : Bool) w, (Op.equalIn 9999 4 (.bool a) (.bool b)).run Tryz.prog w = .ok (a == b) w := fun a b w => run_equalIn_bool' (w := w) 9998 4 a b Tryz.underlying4
  simp only [Std.Legacy.Range.forIn_eq_forIn_range', Std.Legacy.Range.size]
  by_cases h1 : a1 = b1 <;> by_cases h2 : a2 = b2 <;> by_cases h3 : a3 = b3 <;> by_cases h4 : a4 = b4 <;> by_cases h5 : a5 = b5 <;>
    simp [List.range', Sem.run_bind, hs, hb, part, isAgg_bool, h1, h2, h3, h4, h5]
end Go.Proofs.YtnfnjmllgklaaaaGreat
