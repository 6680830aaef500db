/- slices.Grow of nil, slices.Concat. -/
import Derived.Test.YtnfnjmllgklaaaaGreatKCrcB
import Derived.Lib.AppendZerosOnto
import Derived.Lib.Walk
import Derived.Lib.SliceRun
set_option linter.unusedVariables false
set_option linter.unusedSimpArgs false
namespace Go.Proofs.YtnfnjmllgklaaaaGreat
open Go Go.RowKit Go.Shelf Om

set_option maxRecDepth 100000 in
set_option maxHeartbeats 1000000 in
theorem grow_nil (n : Nat) (w : World) (hn : n ≤ 100000000) :
    Calls Tryz.prog 203 #[.slice none 0 0, .int .i64 n] w fun e w' => ∃ A c, e = .returned (.slice A 0 c) ∧ w'.ownsRow w.heap.size 5 1 (.slice A 0 c) 0 [] ∧ Below w.heap.size w w' := by
  have h1 : ¬ ((n : Int) < 0) := by omega
  rcases Nat.eq_zero_or_pos n with h0 | h0
  · subst h0
    go_enter Tryz.func203, Tryz.ntmps203
    go_wp2
    go_ret
    exact ⟨none, 0, rfl, own_nil _ _ _, Below.refl _ _⟩
  · obtain ⟨i0, hi, hzz⟩ := Option.map_eq_some_iff.1 info5
    simp only [Prod.mk.injEq] at hzz
    have h4 : (n : Int) > 0 := by omega
    have hfit : Builtin.nextslicecap (0 + n) 0 * i0.bytes ≤ 281474976710656 := growslice_fits (by omega) (by rw [hzz.2.2]; omega)
    have hold : (Builtin.firstCells i0.size 0 (.slice none 0 0)).run Tryz.prog w.drew = .ok ([] : List Value).toArray w.drew := run_firstCells_none w.drew i0.size 0 0 0
    have hrz := fun ty => Lib.run_append_grow_zeros w 23 3 ty 5 i0 (.int .u8 0) .i64 .i64 Tryz.underlying23 Tryz.underlying3 hi hzz.1 none 0 0 [] hold n h0 (by rw [hzz.2.1]; decide) (by omega) (by omega) (by rw [hzz.2.2]; omega) hfit
    have hge : n ≤ grownCap w (0 + n) 0 5 := by have := grownCap_ge w (0 + n) 0 5; omega
    have hle : grownCap w (0 + n) 0 5 ≤ maxLen := grownCap_le_maxLen w (0 + n) 0 5 (by unfold maxLen; omega)
    rw [Nat.zero_add] at hrz hge hle
    generalize grownCap w n 0 5 = G at *
    have hrow : ∀ cs, cs = ([] : List Value).toArray ++ Builtin.zeroCells (Value.int .u8 0).cells n ++ Builtin.zeroCells (Value.int .u8 0).cells (G - n) → (w.drew.alloc (.cells cs 5)).ownsRow w.heap.size 5 1 (.slice (some ⟨w.heap.size, 0, none⟩) 0 G) 0 [] := by
      intro cs hcs
      refine ⟨rfl, .inr ⟨w.heap.size, G, cs, rfl, Nat.le_refl _, heap_alloc_new w.drew _, Nat.zero_le _, hle, ?_, by simp⟩⟩
      rw [hcs]
      simp [Builtin.zeroCells, Value.cells]
      omega
    have HROW := Lib.hid hrow
    have hG63 : (G : Int) ≤ 9223372036854775807 := by unfold maxLen at hle; omega
    clear hi hzz hfit hold hrow
    go_enter Tryz.func203, Tryz.ntmps203
    go_wp2_with (at_builtin; refine Lib.wpList_append_run _ rfl _ _ _ _ rfl _ _ rfl rfl _ _ (hrz _) ?_)
    go_ret
    refine ⟨_, G, rfl, HROW.out _ ?_, ((Below.refl _ _).alloc (Nat.le_refl _) _).drew⟩
    simp [Value.cells]

/-- Rows that are put together: each with its address and its capacity. -/
def catV (rows : List (Option Addr × Nat × List Value)) : List Value := rows.map fun r => .slice r.1 r.2.2.length r.2.1
def catOf (rows : List (Option Addr × Nat × List Value)) : List Value := rows.flatMap (·.2.2)
theorem catOf_succ (rows : List (Option Addr × Nat × List Value)) (k : Nat) (hk : k < rows.length) : catOf (rows.take (k + 1)) = catOf (rows.take k) ++ rows[k].2.2 := by
  unfold catOf
  rw [List.take_succ_eq_append_getElem hk, List.flatMap_append]
  simp
theorem catOf_le (rows : List (Option Addr × Nat × List Value)) (k : Nat) : (catOf (rows.take k)).length ≤ (catOf rows).length := by
  unfold catOf
  conv => rhs; rw [← List.take_append_drop k rows, List.flatMap_append]
  simp

set_option maxRecDepth 100000 in
set_option maxHeartbeats 1000000 in
theorem concat_any (rows : List (Option Addr × Nat × List Value)) (ad : Addr) (w : World) (hr : Rd w (some ad) (catV rows)) (hrs : ∀ r ∈ rows, Rd w r.1 r.2.2 ∧ ∀ u ∈ r.2.2, u.oneCell' = true)
    (hl : (catOf rows).length ≤ 10000000) (hn : rows.length ≤ 100) :
    Calls Tryz.prog 155 #[.slice (some ad) rows.length rows.length] w (RowPost 5 w.heap.size (catOf rows) w) := by
  have HR := Lib.hid hr
  have HS := Lib.hid hrs
  clear hr hrs
  go_enter Tryz.func155, Tryz.ntmps155
  go_wp2
  go_loopw [3, 11] (fun s i W => ∃ k : Nat, k ≤ rows.length ∧ i = .int .i64 k ∧ s = .int .i64 ((catOf (rows.take k)).length : Nat) ∧ W = w) (fun _ i _ => rows.length - (intOf i).toNat)
  case atStart => exact ⟨0, Nat.zero_le _, rfl, by simp [catOf], rfl⟩
  case round =>
    obtain ⟨k, hk, rfl, rfl, hw⟩ := hrel
    have hw' := hw.symm
    subst hw'
    clear hw
    by_cases hlt : k < rows.length
    · have hsucc := catOf_succ rows k hlt
      have hle := catOf_le rows (k + 1)
      obtain ⟨ad', e, hc⟩ := HR.out k (.slice rows[k].1 rows[k].2.2.length rows[k].2.1) (by simp [catV, hlt])
      cases e
      rw [hsucc, List.length_append] at hle
      have HSU := Lib.hid hsucc
      clear hsucc
      generalize rows[k] = r at *
      obtain ⟨A, c, ys⟩ := r
      simp only at hc hle HSU
      have hle' : ((catOf (rows.take k)).length : Int) + (ys.length : Int) ≤ 10000000 := by omega
      go_wp2
      go_roundw
      case rel => exact ⟨k + 1, by omega, by go_num, by rw [HSU.out, List.length_append]; simp, trivial⟩
      case measure => simp [intOf]; omega
    · obtain rfl : k = rows.length := by omega
      have hg := grow_nil (catOf rows).length w (by omega)
      rw [List.take_length]
      clear hk hlt
      go_wp2_with fail
      refine hg.mono ?_
      rintro e w1 ⟨A0, c0, rfl, hO0, hB0⟩
      clear hg
      go_wp2
      go_loopw [6, 27] (fun s i W => ∃ (k : Nat) (A : Option Addr) (c : Nat), k ≤ rows.length ∧ i = .int .i64 k ∧ s = .slice A (catOf (rows.take k)).length c ∧ W.ownsRow w.heap.size 5 1 (.slice A (catOf (rows.take k)).length c) (catOf (rows.take k)).length (catOf (rows.take k)) ∧ Below w.heap.size w W) (fun _ i _ => rows.length - (intOf i).toNat)
      case atStart => exact ⟨0, A0, c0, Nat.zero_le _, rfl, rfl, hO0, hB0⟩
      case round =>
        obtain ⟨k, A, c, hk, rfl, rfl, hO, hB⟩ := hrel
        by_cases hlt : k < rows.length
        · have hsucc := catOf_succ rows k hlt
          have hle := catOf_le rows (k + 1)
          obtain ⟨ad', e, hc⟩ := (HR.out.kept hB) k (.slice rows[k].1 rows[k].2.2.length rows[k].2.1) (by simp [catV, hlt])
          cases e
          obtain ⟨hrk, hone⟩ := HS.out rows[k] (List.getElem_mem hlt)
          have hrk2 := hrk.kept hB
          rw [hsucc, List.length_append] at hle
          have HSU := Lib.hid hsucc
          clear hsucc hrk
          generalize rows[k] = r at *
          obtain ⟨A2, c2, ys⟩ := r
          simp only at hc hle HSU hrk2 hone
          generalize catOf (rows.take k) = xs at *
          have HO := Lib.hid hO
          have HY := Lib.hid hrk2
          clear hO hrk2
          go_wp2_with (at_builtin; (refine apN w.heap.size rfl _ _ _ _ _ _ rfl Tryz.underlying23 info5 rfl (by decide) (.slice A xs.length c) xs ys A2 ys.length c2 rfl rfl rfl hone HO.out HY.out hB hB.size (by omega) ?_; intro A3 c3 w3 hO3 hB3 hg3 _))
          have HO3 := Lib.hid hO3
          clear hO3
          go_wp2
          go_roundw
          case rel =>
            refine ⟨k + 1, A3, c3, by omega, by go_num, ?_, ?_, hB3⟩
            · rw [HSU.out, List.length_append]
            · rw [HSU.out, List.length_append]; exact HO3.out
          case measure => simp [intOf]; omega
        · obtain rfl : k = rows.length := by omega
          rw [List.take_length] at hO ⊢
          go_wp2
          go_ret
          exact ⟨A, c, rfl, hO, hB⟩
end Go.Proofs.YtnfnjmllgklaaaaGreat
