/- slices.Chunk over a row of bits; bits.Pack. -/
import Derived.Test.YtnfnjmllgklaaaaGreatKRun
set_option linter.unusedVariables false
set_option linter.unusedSimpArgs false
namespace Go.Proofs.YtnfnjmllgklaaaaGreat
open Go Go.RowKit Go.Shelf Om
attribute [local go_sem] Oper.semAt_some

/-- The part that begins at k * n. -/
def partLen (n len k : Nat) : Nat := min n (len - k * n)
def encC0 (D : Option Addr) (n len : Nat) (k : Nat) : Array Value := #[.slice (D.map (·.add (k * n))) (partLen n len k) (partLen n len k)]
/-- .. the last part's, where there are not as many: a round is asked of every number. -/
def clamp (n len k : Nat) : Nat := min k ((len + n - 1) / n - 1)
def encC (D : Option Addr) (n len : Nat) (k : Nat) : Array Value := encC0 D n len (clamp n len k)

set_option maxRecDepth 100000 in
set_option maxHeartbeats 2000000 in
theorem chunk1_in (m : Nat) (hm : 1 ≤ m) (lp Bs Bn : Nat) (S : Nat → Prop) (D : Option Addr) (cap len n : Nat) (hn : 1 ≤ n) (hn8 : n ≤ 64) (hreach : len ≤ 100000000) (hcap : len ≤ cap) (hD : 0 < len → ∃ ad, D = some ad) (J Jx : List Nat → World → Prop) (hJd : ∀ s W, J s W → J s W.drew)
    (hY : ∀ pre x W, J pre W → pre.length < (len + n - 1) / n → YieldAt Fence.wide (m - 1) Tryz.prog lp (encC D n len x) W fun e W' =>
      (e = .returned (.bool true) ∧ J (pre ++ [x]) W' ∧ KeepS S W W') ∨ (e = .returned (.bool false) ∧ Jx (pre ++ [x]) W'))
    (W : World) (hBs : W.cell? ⟨Bs, 0, none⟩ = some (.slice D len cap)) (hBnc : W.cell? ⟨Bn, 0, none⟩ = some (.int .i64 n)) (hBsS : S Bs) (hBnS : S Bn) (h0 : J [] W) :
    CallsIn Fence.wide m Tryz.prog 270 #[.func (.yield lp) #[] #[], .pointer (some ⟨Bs, 0, none⟩), .pointer (some ⟨Bn, 0, none⟩)] W fun e W' => (∃ v, e = .returned v) ∧
      ((∃ ys, ys = upto (fun k => k) ((len + n - 1) / n) ∧ J ys W') ∨ (∃ pre, (∃ k, k < (len + n - 1) / n ∧ pre = upto (fun k => k) (k + 1)) ∧ Jx pre W')) := by
  have hnx0 := keepS_refl S W
  refine callsIn_of_wp Tryz.func270 rfl trivial ?_ rfl
  simp only [Tryz.ntmps270, List.size_toArray, List.length_cons, List.length_nil, Nat.reduceAdd, Nat.reduceSub, Array.replicate_succ, Array.replicate_zero, List.push_toArray, List.append_toArray, List.nil_append, List.cons_append]
  gi_wp2
  gi_loopw [4] (fun i wr => ∃ k p : Nat, i = .int .i64 p ∧ p = k * n ∧ k ≤ (len + n - 1) / n ∧ J (upto (fun k => k) k) wr ∧ KeepS S W wr)
    (fun i _ => len + 64 - (intOf i).toNat)
  case atStart => exact ⟨0, 0, rfl, by simp, Nat.zero_le _, by simpa [upto] using h0, hnx0⟩
  case round =>
    obtain ⟨k, p, rfl, hp, hk, hJs, hnx⟩ := hrel
    have hBs' := (keepS_cell hnx ⟨Bs, 0, none⟩ hBsS).trans hBs
    have hBn' := (keepS_cell hnx ⟨Bn, 0, none⟩ hBnS).trans hBnc
    clear hBs hBnc
    by_cases hlt : p < len
    · have hkN : k < (len + n - 1) / n := by
        rw [Nat.lt_div_iff_mul_lt (by omega)]; rw [← hp]; omega
      obtain ⟨ad, rfl⟩ := hD (by omega)
      obtain ⟨fn, tmps, assign, body, hy, hR⟩ := hY _ k wr.drew (hJd _ _ hJs) (by rw [upto_length]; exact hkN)
      have hpe : partLen n len k = min n (len - p) := by unfold partLen; rw [hp]
      have hcl : clamp n len k = k := by unfold clamp; omega
      simp only [encC, hcl, encC0, Option.map_some, hpe, ← hp] at hR hy
      have hpc : ¬ cap = p := by omega
      have hple : p ≤ len := by omega
      have hs1 : ((p : Int) + (n : Int)).toNat - p = n := by omega
      have hs2 : ((p : Int) + ((len - p : Nat) : Int)).toNat - p = len - p := by omega
      have hsn : upto (fun k => k) (k + 1) = upto (fun k : Nat => k) k ++ [k] := upto_succ _ _
      have HSN := Lib.hid hsn
      have HP := Lib.hid hp
      have hce := ext_cell_of hBs'
      have hcf := ext_cell_of hBn'
      clear hpe hp hsn hY hcl
      by_cases hfull : p + n ≤ len
      · have hmin : min n (len - p) = n := by omega
        rw [hmin] at hy
        have hnl : ¬ len - p < n := by omega
        clear hmin
        gi_wp2
        refine wpIn_wide.2 ?_
        refine wp_region_mix #[[], [], [], [1, 2], [1, 2, 3], [0, 1, 2, 3, 4], [0, 1, 2, 3, 4, 5]] [(0, 1), (1, 1), (2, 0), (3, 0), (4, 0), (5, 0), (6, 0)] (by kernel_rfl) (by kernel_rfl) ?_
        repeat ((first | refine mix_pu rfl (fun K hK => ?_) | refine mix_st rfl (fun K hK => ?_)); go_simp; refine hK _ ?_; clear hK K)
        refine mix_end ?_
        gi_wp2
        refine hR.mono ?_
        rintro e' W3 (⟨rfl, hJ3, hk3⟩ | ⟨rfl, hJx3⟩)
        · have hBn3 := (keepS_cell hk3 ⟨Bn, 0, none⟩ hBnS).trans hBn'
          gi_wp2
          go_roundw
          case rel => exact ⟨k + 1, p + n, by go_num, by rw [HP.out, Nat.add_mul, Nat.one_mul], hkN, by rw [HSN.out]; exact hJ3, keepS_t hnx hk3⟩
          case measure => simp [intOf]; omega
        · gi_wp2
          refine bodyPost_ret (results_none rfl _ _ _) rfl ?_
          exact ⟨⟨_, rfl⟩, .inr ⟨_, ⟨k, hkN, HSN.out.symm⟩, hJx3⟩⟩
      · have hmin : min n (len - p) = len - p := by omega
        rw [hmin] at hy
        have hnl : len - p < n := by omega
        have hs3 : 0 < len - p := by omega
        clear hmin
        gi_wp2
        refine wpIn_wide.2 ?_
        refine wp_region_mix #[[], [], [], [1, 2], [1, 2, 3], [0, 1, 2, 3, 4], [0, 1, 2, 3, 4, 5]] [(0, 1), (1, 1), (2, 0), (3, 0), (4, 0), (5, 0), (6, 0)] (by kernel_rfl) (by kernel_rfl) ?_
        repeat ((first | refine mix_pu rfl (fun K hK => ?_) | refine mix_st rfl (fun K hK => ?_)); go_simp; refine hK _ ?_; clear hK K)
        refine mix_end ?_
        gi_wp2
        refine hR.mono ?_
        rintro e' W3 (⟨rfl, hJ3, hk3⟩ | ⟨rfl, hJx3⟩)
        · have hBn3 := (keepS_cell hk3 ⟨Bn, 0, none⟩ hBnS).trans hBn'
          gi_wp2
          go_roundw
          case rel => exact ⟨k + 1, p + n, by go_num, by rw [HP.out, Nat.add_mul, Nat.one_mul], hkN, by rw [HSN.out]; exact hJ3, keepS_t hnx hk3⟩
          case measure => simp [intOf]; omega
        · gi_wp2
          refine bodyPost_ret (results_none rfl _ _ _) rfl ?_
          exact ⟨⟨_, rfl⟩, .inr ⟨_, ⟨k, hkN, HSN.out.symm⟩, hJx3⟩⟩
    · have hkN : k = (len + n - 1) / n := by
        have h1 : (len + n - 1) / n * n ≤ len + n - 1 := Nat.div_mul_le_self _ _
        rcases Nat.lt_or_ge k ((len + n - 1) / n) with h | h
        · exfalso
          have h2 : (k + 1) * n ≤ (len + n - 1) / n * n := Nat.mul_le_mul_right n h
          rw [Nat.add_mul, Nat.one_mul, ← hp] at h2
          omega
        · omega
      have HP := Lib.hid hp
      have HN := Lib.hid hkN
      clear hp hkN hY
      gi_wp2
      go_end0
      exact ⟨⟨_, rfl⟩, .inl ⟨_, rfl, by rw [← HN.out]; exact hJs⟩⟩
end Go.Proofs.YtnfnjmllgklaaaaGreat
