/- frame.Code. -/
import Derived.Test.YtnfnjmllgklaaaaGreatKSearch
set_option linter.unusedVariables false
set_option linter.unusedSimpArgs false
namespace Go.Proofs.YtnfnjmllgklaaaaGreat
open Go Go.RowKit Go.Shelf Om

def sizesV (sm : Value) (lo hi : Int) : Value := .agg #[sm, .int .i64 lo, .int .i64 hi]
def fdV : List Value := fdSizes.map fun n => .int .i64 (n : Nat)

set_option maxRecDepth 100000 in
theorem sizes_of (kind : Int) (w : World) (hk : kind ≠ 2) :
    Calls Tryz.prog 147 #[.int .i64 kind] w fun e w' => e = .returned (sizesV (.slice none 0 0) (if kind = 1 then 0 else 1) (if kind = 1 then 8 else if kind = 3 then 2048 else 0)) ∧ Below w.heap.size w w' := by
  have hB : ∀ o, Below w.heap.size w (w.alloc o) := fun o => (Below.refl _ _).alloc (Nat.le_refl _) _
  by_cases h1 : kind = 1
  · subst h1
    go_enter Tryz.func147, Tryz.ntmps147
    go_wp2
    exact bodyPost_ret (v := sizesV (.slice none 0 0) 0 8) (by simp [results, Tryz.results147, go_sem, sizesV]) rfl ⟨rfl, hB _⟩
  · by_cases h3 : kind = 3
    · subst h3
      go_enter Tryz.func147, Tryz.ntmps147
      go_wp2
      exact bodyPost_ret (v := sizesV (.slice none 0 0) 1 2048) (by simp [results, Tryz.results147, go_sem, sizesV]) rfl ⟨rfl, hB _⟩
    · have e1 : (kind == 1) = false := beq_eq_false_iff_ne.2 h1
      have e2 : (kind == 2) = false := beq_eq_false_iff_ne.2 hk
      have e3 : (kind == 3) = false := beq_eq_false_iff_ne.2 h3
      rw [if_neg h1, if_neg h1, if_neg h3]
      clear h1 hk h3
      go_enter Tryz.func147, Tryz.ntmps147
      go_wp2
      exact bodyPost_ret (v := sizesV (.slice none 0 0) 1 0) (by simp [results, Tryz.results147, go_sem, sizesV]) rfl ⟨rfl, hB _⟩

set_option maxRecDepth 100000 in
theorem sizes_fd (w : World) :
    Calls Tryz.prog 147 #[.int .i64 2] w fun e w' => e = .returned (sizesV (.slice (some ⟨w.heap.size + 1, 0, none⟩) 16 16) 0 0) ∧ Below w.heap.size w w' ∧ Rd w' (some ⟨w.heap.size + 1, 0, none⟩) fdV := by
  go_enter Tryz.func147, Tryz.ntmps147
  go_wp2
  refine bodyPost_ret (v := sizesV (.slice (some ⟨w.heap.size + 1, 0, none⟩) 16 16) 0 0) (by simp [results, Tryz.results147, go_sem, sizesV]) rfl ⟨rfl, ?_, ?_⟩
  · exact ((Below.refl _ _).alloc (Nat.le_refl _) _).alloc (by simp) _
  · have h := rd_block (W := w.alloc (.cells #[.slice (some ⟨w.heap.size + 1, 0, none⟩) 16 16, .int .i64 0, .int .i64 0] 154)) (cs := #[.int .i64 0, .int .i64 1, .int .i64 2, .int .i64 3, .int .i64 4, .int .i64 5, .int .i64 6, .int .i64 7, .int .i64 8, .int .i64 12, .int .i64 16, .int .i64 20, .int .i64 24, .int .i64 32, .int .i64 48, .int .i64 64]) (e := 3)
    rw [World.size_alloc] at h
    exact h

set_option maxRecDepth 100000 in
set_option maxHeartbeats 1000000 in
theorem code_plain (lo hi n : Int) (w : World) (h0 : 0 ≤ lo) (h1 : lo ≤ 1) (h2 : 0 ≤ hi) (h3 : hi ≤ 2048) (h4 : 0 ≤ n) (h5 : n ≤ 1000000000000000) :
    Calls Tryz.prog 95 #[sizesV (.slice none 0 0) lo hi, .int .i64 n] w fun e w' => e = .returned (.tuple #[.int .i64 (n - lo), .bool (decide (lo ≤ n) && decide (n ≤ hi))]) ∧ Below w.heap.size w w' := by
  have hB : ∀ o, Below w.heap.size w (w.alloc o) := fun o => (Below.refl _ _).alloc (Nat.le_refl _) _
  have hk := heap_alloc_new w (.cells #[.slice none 0 0, .int .i64 lo, .int .i64 hi] 154)
  obtain ⟨w0, hw0⟩ : ∃ w0, w0 = w.alloc (.cells #[.slice none 0 0, .int .i64 lo, .int .i64 hi] 154) := ⟨_, rfl⟩
  rw [← hw0] at hk
  have c0 : w0.cell? ⟨w.heap.size, 0, none⟩ = some (.slice none 0 0) := by rw [blk_cell hk]; rfl
  have c1 : w0.cell? ⟨w.heap.size, 1, none⟩ = some (.int .i64 lo) := by rw [blk_cell hk]; rfl
  have c2 : w0.cell? ⟨w.heap.size, 2, none⟩ = some (.int .i64 hi) := by rw [blk_cell hk]; rfl
  have x1 := ext_cell_of c1
  have x2 := ext_cell_of c2
  have hw : IntKind.i64.wrap (n - lo) = n - lo := wrapI _ (by omega) (by omega)
  have hBB := hB (.cells #[.slice none 0 0, .int .i64 lo, .int .i64 hi] 154)
  rw [← hw0] at hBB
  unfold sizesV
  clear hB hk
  by_cases hge : lo ≤ n
  · have hge' : n ≥ lo := hge
    have hd : decide (lo ≤ n) = true := decide_eq_true hge
    go_enter Tryz.func95, Tryz.ntmps95
    go_wp2_with fail
    rw [← hw0]
    clear hw0
    refine wp_region_mix #[[], [], [1], [0, 1, 2], [], [], [5], [4, 5, 6], [4, 5, 6, 7], [4, 5, 6, 7, 8], [4, 5, 6, 7, 8], [4, 5, 6, 7, 8, 10], [4, 5, 6, 7, 8, 9, 10, 11], [4, 5, 6, 7, 8, 9, 10, 11, 12], [0, 1, 2, 3, 4, 5, 6, 7, 8], [0, 1, 2, 3, 4, 5, 6, 7, 8, 9, 10, 11, 12, 13, 14]] [(0, 0), (1, 0), (2, 1), (3, 0), (4, 0), (5, 0), (6, 1), (7, 0), (8, 0), (9, 0), (10, 0), (11, 1), (12, 0), (13, 0), (14, 0), (15, 0)] (by kernel_rfl) (by kernel_rfl) ?_
    repeat ((first | refine mix_pu rfl (fun K hK => ?_) | refine mix_st rfl (fun K hK => ?_)); go_simp; refine hK _ ?_; clear hK K)
    refine mix_end ?_
    go_wp2
    go_ret2
    exact ⟨by simp [hge], hBB.drew⟩
  · have hge' : ¬ n ≥ lo := hge
    have hd : decide (lo ≤ n) = false := decide_eq_false hge
    go_enter Tryz.func95, Tryz.ntmps95
    go_wp2_with fail
    rw [← hw0]
    clear hw0
    refine wp_region_mix #[[], [], [1], [0, 1, 2], [], [], [5], [4, 5, 6], [4, 5, 6, 7], [4, 5, 6, 7, 8], [4, 5, 6, 7, 8], [4, 5, 6, 7, 8, 10], [4, 5, 6, 7, 8, 9, 10, 11], [4, 5, 6, 7, 8, 9, 10, 11, 12], [0, 1, 2, 3, 4, 5, 6, 7, 8], [0, 1, 2, 3, 4, 5, 6, 7, 8, 9, 10, 11, 12, 13, 14]] [(0, 0), (1, 0), (2, 1), (3, 0), (4, 0), (5, 0), (6, 1), (7, 0), (8, 0), (9, 0), (10, 0), (11, 1), (12, 0), (13, 0), (14, 0), (15, 0)] (by kernel_rfl) (by kernel_rfl) ?_
    repeat ((first | refine mix_pu rfl (fun K hK => ?_) | refine mix_st rfl (fun K hK => ?_)); go_simp; refine hK _ ?_; clear hK K)
    refine mix_end ?_
    go_wp2
    go_ret2
    exact ⟨by simp; omega, hBB.drew⟩

theorem fd_rising : ∀ i k, i ≤ k → k < fdSizes.length → fdSizes.getD i 0 ≤ fdSizes.getD k 0 := by
  have h : ∀ k, k < 16 → ∀ i, i ≤ k → fdSizes.getD i 0 ≤ fdSizes.getD k 0 := by decide
  intro i k hik hk
  exact h k hk i hik
theorem fd_idx (x i : Nat) (h : FindAt fdSizes x i) : (isAt fdSizes x i = true → fdSizes.idxOf? x = some i) ∧ (isAt fdSizes x i = false → fdSizes.idxOf? x = none) := by
  have hup : ∀ k, k < 16 → ∀ j, j < 16 → fdSizes.getD k 0 = fdSizes.getD j 0 → k = j := by decide
  constructor
  · intro ha
    obtain ⟨h1, h2⟩ := of_decide_eq_true ha
    rw [← h2]
    have hall : ∀ k, k < 16 → fdSizes.idxOf? (fdSizes.getD k 0) = some k := by decide
    exact hall i h1
  · intro ha
    have hne := of_decide_eq_false ha
    rw [List.idxOf?_eq_none_iff]
    intro hm
    obtain ⟨k, hk, hkx⟩ := List.getElem_of_mem hm
    have hkd : fdSizes.getD k 0 = x := by rw [List.getD_eq_getElem?_getD, List.getElem?_eq_getElem hk]; exact hkx
    rcases Nat.lt_or_ge k i with hlt | hge
    · have := h.lo k hlt; omega
    · have hx := h.hi i (Nat.le_refl _) (by omega)
      have hr := fd_rising i k hge hk
      apply hne
      refine ⟨by omega, ?_⟩
      omega

set_option maxRecDepth 100000 in
set_option maxHeartbeats 1000000 in
theorem code_fd (b n : Nat) (w : World) (hr : Rd w (some ⟨b, 0, none⟩) fdV) (hn : n ≤ 1000000000000000) :
    Calls Tryz.prog 95 #[sizesV (.slice (some ⟨b, 0, none⟩) 16 16) 0 0, .int .i64 n] w fun e w' => (∃ i, FindAt fdSizes n i ∧ e = .returned (.tuple #[.int .i64 (i : Nat), .bool (isAt fdSizes n i)])) ∧ Below w.heap.size w w' := by
  have hB := fun o => (Below.refl w.heap.size w).alloc (Nat.le_refl _) o
  have hs := fun o => search_any fdSizes n ⟨b, 0, none⟩ 16 (w.alloc o) (fun k hk => by
    obtain ⟨ad, e, hc⟩ := (hr.kept (hB o)) k (.int .i64 (fdSizes.getD k 0 : Nat)) (by
      unfold fdV; rw [List.getElem?_map, List.getElem?_eq_getElem hk, List.getD_eq_getElem?_getD, List.getElem?_eq_getElem hk]; rfl)
    cases e
    exact hc) fd_rising (by decide)
  unfold sizesV
  clear hr
  go_enter Tryz.func95, Tryz.ntmps95
  go_wp2_with fail
  refine Calls.mono (show Calls _ _ #[.slice (some ⟨b, 0, none⟩) 16 16, .int .i64 n] _ _ from hs _) ?_
  rintro e w1 ⟨⟨i, hf, rfl⟩, rfl⟩
  have HF := Lib.hid hf
  have hB1 := hB (.cells #[.slice (some ⟨b, 0, none⟩) 16 16, .int .i64 0, .int .i64 0] 154)
  clear hs hB hf
  go_wp2
  go_ret2
  exact ⟨⟨i, HF.out, rfl⟩, hB1⟩

/-- How frame.Code answers. -/
def codeV (kind : Int) (n : Nat) : Value := .tuple #[.int .i64 ((codeOf kind n).getD 0 : Nat), .int .i64 (if (codeOf kind n).isSome then 0 else 2)]
set_option maxRecDepth 100000 in
set_option maxHeartbeats 1000000 in
theorem ask_any (kind : Int) (n : Nat) (w : World) (hn : n ≤ 1000000000000000) :
    Calls Tryz.prog 94 #[.func (.func 95) #[] #[], .int .i64 kind, .int .i64 n] w fun e w' => e = .returned (codeV kind n) ∧ Below w.heap.size w w' := by
  by_cases hk : kind = 2
  · subst hk
    have hc : codeOf 2 n = fdSizes.idxOf? n := rfl
    have ho := sizes_fd w
    have HC := Lib.hid hc
    clear hc
    go_enter Tryz.func94, Tryz.ntmps94
    go_wp2_with fail
    refine ho.mono ?_
    rintro e w1 ⟨rfl, hB, hr⟩
    have hcd := code_fd (w.heap.size + 1) n w1 hr hn
    clear ho hr
    go_wp2_with fail
    refine hcd.mono ?_
    rintro e w2 ⟨⟨i, hf, rfl⟩, hB2⟩
    have hfi := fd_idx n i hf
    have HF := Lib.hid hfi
    have hB3 := below_then hB hB2
    clear hcd hf hfi hB hB2
    cases hat : isAt fdSizes n i
    · have e1 : codeOf 2 n = none := by rw [HC.out]; exact HF.out.2 hat
      have E := Lib.hid e1
      clear hat e1
      go_wp2
      go_ret2
      exact ⟨by unfold codeV; rw [E.out]; rfl, hB3⟩
    · have e1 : codeOf 2 n = some i := by rw [HC.out]; exact HF.out.1 hat
      have E := Lib.hid e1
      clear hat e1
      go_wp2
      go_ret2
      exact ⟨by unfold codeV; rw [E.out]; rfl, hB3⟩
  · obtain ⟨lo, hlo⟩ : ∃ lo : Int, lo = (if kind = 1 then 0 else 1) := ⟨_, rfl⟩
    obtain ⟨hi, hhi⟩ : ∃ hi : Int, hi = (if kind = 1 then 8 else if kind = 3 then 2048 else 0) := ⟨_, rfl⟩
    have ho := sizes_of kind w hk
    rw [← hlo, ← hhi] at ho
    have hl1 : 0 ≤ lo ∧ lo ≤ 1 := by rw [hlo]; split <;> omega
    have hh1 : 0 ≤ hi ∧ hi ≤ 2048 := by rw [hhi]; split <;> (try split) <;> omega
    have hcd := fun w1 => code_plain lo hi n w1 hl1.1 hl1.2 hh1.1 hh1.2 (by omega) (by omega)
    have hcode : codeOf kind n = if (decide (lo ≤ (n : Int)) && decide ((n : Int) ≤ hi)) then some ((n : Int) - lo).toNat else none := by
      unfold codeOf
      rw [hlo, hhi]
      by_cases h1 : kind = 1
      · rw [if_pos h1, if_pos h1, if_pos h1]
        by_cases h8 : n ≤ 8
        · rw [if_pos h8, if_pos (by simp; omega)]; simp
        · rw [if_neg h8, if_neg (by simp; omega)]
      · rw [if_neg h1, if_neg hk, if_neg h1, if_neg h1]
        by_cases h3 : kind = 3
        · rw [if_pos h3, if_pos h3]
          by_cases h8 : 1 ≤ n ∧ n ≤ 2048
          · rw [if_pos h8, if_pos (by simp; omega)]; simp
          · rw [if_neg h8, if_neg (by simp; omega)]
        · rw [if_neg h3, if_neg h3, if_neg (by simp; omega)]
    have HC := Lib.hid hcode
    clear hcode hlo hhi hk
    go_enter Tryz.func94, Tryz.ntmps94
    go_wp2_with fail
    refine ho.mono ?_
    rintro e w1 ⟨rfl, hB⟩
    clear ho
    go_wp2_with fail
    refine (hcd w1).mono ?_
    rintro e w2 ⟨rfl, hB2⟩
    have hB3 := below_then hB hB2
    clear hcd hB hB2
    cases hat : (decide (lo ≤ (n : Int)) && decide ((n : Int) ≤ hi))
    · have e1 : codeOf kind n = none := by rw [HC.out, hat]; rfl
      have E := Lib.hid e1
      clear e1
      go_wp2
      go_ret2
      exact ⟨by unfold codeV; rw [E.out]; rfl, hB3⟩
    · have e1 : codeOf kind n = some ((n : Int) - lo).toNat := by rw [HC.out, hat]; rfl
      have hle : lo ≤ (n : Int) := by simp at hat; exact hat.1
      have hto : (n : Int) - lo = ((((n : Int) - lo).toNat : Nat) : Int) := by omega
      have E := Lib.hid e1
      have HT := Lib.hid hto
      clear e1 hto hle
      go_wp2
      go_ret2
      exact ⟨by unfold codeV; rw [E.out, Option.getD_some, ← HT.out]; rfl, hB3⟩

set_option maxRecDepth 100000 in
/-- frame.Code. -/
theorem code_any (kind : Int) (n : Nat) (w : World) (hn : n ≤ 1000000000000000) :
    Calls Tryz.prog 57 #[.int .i64 kind, .int .i64 n] w fun e w' => e = .returned (codeV kind n) ∧ Below w.heap.size w w' := by
  have h := ask_any kind n w hn
  unfold codeV at *
  generalize (codeOf kind n).getD 0 = x at *
  generalize (if (codeOf kind n).isSome then 0 else 2 : Int) = y at *
  go_enter Tryz.func57, Tryz.ntmps57
  go_wp2_with fail
  refine h.mono ?_
  rintro e w1 ⟨rfl, hB⟩
  clear h
  go_wp2
  go_ret2
  exact ⟨rfl, hB⟩
end Go.Proofs.YtnfnjmllgklaaaaGreat
