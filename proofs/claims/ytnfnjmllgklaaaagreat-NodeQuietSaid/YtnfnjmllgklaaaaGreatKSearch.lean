/- slices.BinarySearch over a rising row of ints. -/
import Derived.Test.YtnfnjmllgklaaaaGreatKTally
set_option linter.unusedVariables false
set_option linter.unusedSimpArgs false
namespace Go.Proofs.YtnfnjmllgklaaaaGreat
open Go Go.RowKit Go.Shelf Om

set_option maxRecDepth 100000 in
theorem nan1_any (x : Int) (w : World) : Calls Tryz.prog 228 #[.int .i64 x] w fun e w' => e = .returned (.bool false) ∧ w' = w := by
  go_enter Tryz.func228, Tryz.ntmps228
  go_wp2
  go_ret
  exact ⟨rfl, rfl⟩
set_option maxRecDepth 100000 in
theorem nan2_any (x : Int) (w : World) : Calls Tryz.prog 190 #[.int .i64 x] w fun e w' => e = .returned (.bool false) ∧ w' = w := by
  go_enter Tryz.func190, Tryz.ntmps190
  go_wp2
  go_ret
  exact ⟨rfl, rfl⟩
set_option maxRecDepth 100000 in
theorem less_any (x y : Int) (w : World) : Calls Tryz.prog 189 #[.int .i64 x, .int .i64 y] w fun e w' => e = .returned (.bool (decide (x < y))) ∧ w' = w := by
  have h1 := nan1_any x w
  go_enter Tryz.func189, Tryz.ntmps189
  go_wp2_with fail
  refine h1.mono ?_
  rintro e w1 ⟨rfl, rfl⟩
  go_wp2
  go_ret
  exact ⟨rfl, rfl⟩

/-- Where a number stands in a rising row. -/
structure FindAt (tb : List Nat) (x i : Nat) : Prop where
  le : i ≤ tb.length
  lo : ∀ k, k < i → tb.getD k 0 < x
  hi : ∀ k, i ≤ k → k < tb.length → x ≤ tb.getD k 0

def isAt (tb : List Nat) (x i : Nat) : Bool := decide (i < tb.length ∧ tb.getD i 0 = x)
set_option maxRecDepth 100000 in
set_option maxHeartbeats 1000000 in
theorem search_any (tb : List Nat) (x : Nat) (ad : Addr) (cap : Nat) (w : World) (hr : ∀ k, k < tb.length → w.cell? (ad.add k) = some (.int .i64 (tb.getD k 0 : Nat))) (hup : ∀ i k, i ≤ k → k < tb.length → tb.getD i 0 ≤ tb.getD k 0) (hl : tb.length ≤ 1000) :
    Calls Tryz.prog 148 #[.slice (some ad) tb.length cap, .int .i64 x] w fun e w' => (∃ i, FindAt tb x i ∧ e = .returned (.tuple #[.int .i64 (i : Nat), .bool (isAt tb x i)])) ∧ w' = w := by
  have HR := Lib.hid hr
  have HU := Lib.hid hup
  clear hr hup
  generalize hn : tb.length = n at *
  go_enter Tryz.func148, Tryz.ntmps148
  go_wp2
  go_loopw [7, 8] (fun a b W => ∃ (i j : Nat), i ≤ j ∧ j ≤ n ∧ a = .int .i64 i ∧ b = .int .i64 j ∧ (∀ k, k < i → tb.getD k 0 < x) ∧ (∀ k, j ≤ k → k < n → x ≤ tb.getD k 0) ∧ W = w) (fun a b _ => (intOf b - intOf a).toNat)
  case atStart => exact ⟨0, n, Nat.zero_le _, Nat.le_refl _, rfl, rfl, by omega, by omega, rfl⟩
  case round =>
    obtain ⟨i, j, hij, hj, rfl, rfl, hlo, hhi, hw⟩ := hrel
    have hw' := hw.symm
    subst hw'
    clear hw
    have HLO := Lib.hid hlo
    have HHI := Lib.hid hhi
    clear hlo hhi
    by_cases hlt : i < j
    · obtain ⟨m, hm⟩ : ∃ m, m = (i + j) / 2 := ⟨_, rfl⟩
      have hm1 : i ≤ m := by omega
      have hm2 : m < j := by omega
      have hmi : ((i : Int) + (j : Int)) / 2 = (m : Int) := by omega
      have hc := HR.out m (by omega)
      have hls := less_any (tb.getD m 0 : Nat) x w
      have HM := Lib.hid hm
      obtain ⟨v, hv⟩ : ∃ v, v = tb.getD m 0 := ⟨_, rfl⟩
      rw [← hv] at hc hls
      have HV := Lib.hid hv
      have hlt' : (i : Int) < (j : Int) := by omega
      have hmn : (m : Int) < (n : Int) := by omega
      clear hm hv
      go_wp2_with fail
      refine hls.mono ?_
      rintro e w1 ⟨rfl, rfl⟩
      by_cases hvx : v < x
      · have hvx' : (v : Int) < (x : Int) := by omega
        have hd : decide ((v : Int) < (x : Int)) = true := decide_eq_true hvx'
        clear hls hc
        go_wp2
        go_roundw
        case rel =>
          refine ⟨m + 1, j, by omega, by omega, by go_num, rfl, fun k hk => ?_, HHI.out, trivial⟩
          have := HU.out k m (by omega) (by omega)
          have := HV.out
          omega
        case measure => simp [intOf]; omega
      · have hvx' : ¬ (v : Int) < (x : Int) := by omega
        have hd : decide ((v : Int) < (x : Int)) = false := decide_eq_false hvx'
        clear hls hc
        go_wp2
        go_roundw
        case rel =>
          refine ⟨i, m, by omega, by omega, rfl, rfl, HLO.out, fun k hk hk2 => ?_, trivial⟩
          have := HU.out m k hk hk2
          have := HV.out
          omega
        case measure => simp [intOf]; omega
    · obtain rfl : i = j := by omega
      have hf : FindAt tb x i := ⟨by omega, HLO.out, fun k h1 h2 => HHI.out k h1 (by omega)⟩
      have HF := Lib.hid hf
      clear hf
      by_cases hin : i < n
      · have hin' : (i : Int) < (n : Int) := by omega
        have hc := HR.out i hin
        have hn2 := nan2_any (tb.getD i 0 : Nat) w
        obtain ⟨v, hv⟩ : ∃ v, v = tb.getD i 0 := ⟨_, rfl⟩
        rw [← hv] at hc hn2
        have HV := Lib.hid hv
        clear hv
        by_cases hvx : v = x
        · subst hvx
          clear hn2
          go_wp2
          go_ret2
          refine ⟨⟨i, HF.out, ?_⟩, rfl⟩
          rw [show isAt tb v i = true from decide_eq_true ⟨hn ▸ hin, HV.out.symm⟩]
          rfl
        · have hvx' : ((v : Int) == (x : Int)) = false := beq_eq_false_iff_ne.2 (by omega)
          go_wp2_with fail
          refine hn2.mono ?_
          rintro e w1 ⟨rfl, rfl⟩
          go_wp2
          go_ret2
          refine ⟨⟨i, HF.out, ?_⟩, rfl⟩
          rw [show isAt tb x i = false from decide_eq_false (fun h => hvx (HV.out.trans h.2))]
          rfl
      · have hin' : ¬ (i : Int) < (n : Int) := by omega
        go_wp2
        go_ret2
        refine ⟨⟨i, HF.out, ?_⟩, rfl⟩
        rw [show isAt tb x i = false from decide_eq_false (fun h => hin (hn ▸ h.1))]
        rfl
end Go.Proofs.YtnfnjmllgklaaaaGreat
