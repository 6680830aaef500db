/- Walks of package crc. -/
import Derived.Test.YtnfnjmllgklaaaaGreatKBits
set_option linter.unusedVariables false
set_option linter.unusedSimpArgs false
namespace Go.Proofs.YtnfnjmllgklaaaaGreat
open Go Go.RowKit Om

theorem crcOne_lt (sz poly sum : Nat) (b : Bool) (hp : poly < 2 ^ sz) : crcOne sz poly sum b < 2 ^ sz := by
  have h : sum * 2 % 2 ^ sz < 2 ^ sz := Nat.mod_lt _ (Nat.two_pow_pos sz)
  unfold crcOne
  split
  · exact Nat.xor_lt_two_pow h hp
  · exact h
theorem pow32 {sz : Nat} (h : sz ≤ 32) : 2 ^ sz ≤ 4294967296 := Nat.pow_le_pow_right (n := 2) (by decide) h

set_option maxHeartbeats 400000 in
theorem one_any (sz poly st sum : Nat) (b : Bool) (w : World) (h1 : 1 ≤ sz) (h2 : sz ≤ 32) (hs : sum < 2 ^ sz) (hp : poly < 2 ^ sz) :
    Calls Tryz.prog 269 #[.agg #[.int .i64 sz, .int .u64 poly, .int .u64 st], .int .u64 sum, .int .u8 (bi b)] w fun e w' => e = .returned (.int .u64 (crcOne sz poly sum b : Nat)) ∧ Below w.heap.size w w' := by
  have h32 := pow32 h2
  have hand := bits_and_one sum (sz - 1) (by omega)
  have hlt := crcOne_lt sz poly sum b hp
  obtain ⟨T, hT⟩ : ∃ T, T = 2 ^ sz := ⟨_, rfl⟩
  have hT2 : (2 : Int) ^ sz = (T : Int) := by rw [hT]; simp
  have hT1 : 2 ≤ T := by rw [hT]; exact Nat.le_trans (by decide) (Nat.pow_le_pow_right (n := 2) (by decide) h1)
  obtain ⟨m, hm⟩ : ∃ m, m = sum * 2 % T := ⟨_, rfl⟩
  have hB : bits BinOp.and IntKind.u64 ((sum : Int) * 2) ((T : Int) - 1) = (m : Int) := by
    have := u64_and_nat (sum * 2) (T - 1) (by omega) (by omega)
    rw [show ((sum : Int) * 2) = ((sum * 2 : Nat) : Int) by omega, show ((T : Int) - 1) = ((T - 1 : Nat) : Int) by omega, this, hm, hT, Nat.and_two_pow_sub_one_eq_mod]
  have hmT : m < T := by rw [hm]; exact Nat.mod_lt _ (by omega)
  obtain ⟨x, hx⟩ : ∃ x, x = m ^^^ poly := ⟨_, rfl⟩
  have hC : bits BinOp.xor IntKind.u64 (m : Int) (poly : Int) = (x : Int) := by rw [hx]; exact bits_xor_u64_nat m poly (by omega) (by omega)
  have hone : crcOne sz poly sum b = if sum.testBit (sz - 1) != b then x else m := by unfold crcOne; rw [hx, hm, hT]
  have hle : T ≤ 4294967296 := by omega
  have hsum : sum < 4294967296 := by omega
  have HO := Lib.hid hone
  have hble : Below w.heap.size w (w.alloc (.cells #[.int .i64 sz, .int .u64 poly, .int .u64 st] 288)) := (Below.refl _ _).alloc (Nat.le_refl _) _
  clear hT hm hx hone hlt hs h32 hmT hp
  generalize ht : sum.testBit (sz - 1) = t at *
  clear ht
  by_cases hbt : t = b
  · have hb : (bi t != bi b) = false := by rw [hbt]; simp
    have hr : crcOne sz poly sum b = m := by rw [HO.out, hbt]; simp
    have HR := Lib.hid hr
    clear hbt hr HO
    go_enter Tryz.func269, Tryz.ntmps269
    go_wp2
    go_ret
    exact ⟨by rw [HR.out]; rfl, hble⟩
  · have hb : (bi t != bi b) = true := by cases t <;> cases b <;> simp_all [bi]
    have hr : crcOne sz poly sum b = x := by rw [HO.out]; simp [hbt]
    have HR := Lib.hid hr
    clear hbt hr HO
    go_enter Tryz.func269, Tryz.ntmps269
    go_wp2
    go_ret
    exact ⟨by rw [HR.out]; rfl, hble⟩
set_option maxHeartbeats 2000000 in
theorem of_any (k : Nat) (w : World) (h1 : 1 ≤ k) (h5 : k ≤ 5) :
    Calls Tryz.prog 248 #[.int .i64 k] w fun e w' => e = .returned (.agg #[.int .i64 (crcSize k : Nat), .int .u64 (crcPoly k : Nat), .int .u64 (crcStart k : Nat)]) ∧ Below w.heap.size w w' := by
  have hb : ∀ o o' : Obj, Below w.heap.size w ((w.alloc o).alloc o') := fun o o' => ((Below.refl _ _).alloc (Nat.le_refl _) _).alloc (by simp) _
  rcases (by omega : k = 1 ∨ k = 2 ∨ k = 3 ∨ k = 4 ∨ k = 5) with rfl | rfl | rfl | rfl | rfl
  · go_enter Tryz.func248, Tryz.ntmps248
    go_wp2
    exact bodyPost_ret (v := .agg #[.int .i64 15, .int .u64 17817, .int .u64 0]) (by simp [results, Tryz.results248, go_sem]) rfl ⟨rfl, hb _ _⟩
  · go_enter Tryz.func248, Tryz.ntmps248
    go_wp2
    exact bodyPost_ret (v := .agg #[.int .i64 17, .int .u64 92251, .int .u64 65536]) (by simp [results, Tryz.results248, go_sem]) rfl ⟨rfl, hb _ _⟩
  · go_enter Tryz.func248, Tryz.ntmps248
    go_wp2
    exact bodyPost_ret (v := .agg #[.int .i64 21, .int .u64 1058969, .int .u64 1048576]) (by simp [results, Tryz.results248, go_sem]) rfl ⟨rfl, hb _ _⟩
  · go_enter Tryz.func248, Tryz.ntmps248
    go_wp2
    exact bodyPost_ret (v := .agg #[.int .i64 13, .int .u64 6631, .int .u64 1]) (by simp [results, Tryz.results248, go_sem]) rfl ⟨rfl, hb _ _⟩
  · go_enter Tryz.func248, Tryz.ntmps248
    go_wp2
    exact bodyPost_ret (v := .agg #[.int .i64 32, .int .u64 4104977171, .int .u64 1]) (by simp [results, Tryz.results248, go_sem]) rfl ⟨rfl, hb _ _⟩

theorem crcRun_snoc (sz poly sum : Nat) (l : List Bool) (b : Bool) : crcRun sz poly sum (l ++ [b]) = crcOne sz poly (crcRun sz poly sum l) b := by simp [crcRun]
theorem crcRun_lt (sz poly : Nat) (hp : poly < 2 ^ sz) : ∀ (l : List Bool) (sum : Nat), sum < 2 ^ sz → crcRun sz poly sum l < 2 ^ sz
  | [], sum, h => h
  | b :: l, sum, h => crcRun_lt sz poly hp l (crcOne sz poly sum b) (crcOne_lt sz poly sum b hp)

/-- 'k.one' as a value. -/
def oneV (sz poly st : Nat) : Value := .func (.func 269) #[.agg #[.int .i64 sz, .int .u64 poly, .int .u64 st]] #[]
set_option maxHeartbeats 400000 in
theorem all_any (sz poly st sum : Nat) (D : Option Addr) (cd : Nat) (l : List Bool) (w : World) (h1 : 1 ≤ sz) (h2 : sz ≤ 32) (hs : sum < 2 ^ sz) (hp : poly < 2 ^ sz) (hr : Rd w D (bitsV l)) (hl : l.length ≤ 100000000) :
    Calls Tryz.prog 268 #[.int .u64 sum, .slice D l.length cd, .func (.func 269) #[.agg #[.int .i64 sz, .int .u64 poly, .int .u64 st]] #[]] w fun e w' =>
      e = .returned (.int .u64 (crcRun sz poly sum l : Nat)) ∧ Below w.heap.size w w' := by
  have hone := fun (b : Bool) (q : Nat) (W : World) (hq : q < 2 ^ sz) => one_any sz poly st q b W h1 h2 hq hp
  have hlt := fun k => crcRun_lt sz poly hp (l.take k) sum hs
  have HS := Lib.hid hs
  have HLT := Lib.hid hlt
  have HONE := Lib.hid hone
  clear hs hp hlt hone h1 h2
  go_enter Tryz.func268, Tryz.ntmps268
  go_wp2
  go_loopw [0, 11] (fun s i W => ∃ (k q : Nat), k ≤ l.length ∧ i = .int .i64 k ∧ s = .int .u64 q ∧ q = crcRun sz poly sum (l.take k) ∧ Below w.heap.size w W) (fun _ i _ => l.length - (intOf i).toNat)
  case atStart => exact ⟨0, sum, Nat.zero_le _, rfl, rfl, rfl, Below.refl _ _⟩
  case round =>
    obtain ⟨k, q, hk, rfl, rfl, hq, hB1⟩ := hrel
    have HQ := Lib.hid hq
    clear hq
    by_cases hlt : k < l.length
    · obtain ⟨ad, rfl, hc⟩ := (hr.kept hB1).bit k hlt
      clear hr
      have ht := take_snoc l k false hlt
      have HT := Lib.hid ht
      clear ht
      generalize l.getD k false = y at hc HT
      simp only [bv] at hc
      go_wp2_with fail
      refine (HONE.out y q _ (by rw [HQ.out]; exact HLT.out k)).mono ?_
      rintro e w1 ⟨rfl, hB2⟩
      clear hc
      go_wp2
      go_roundw
      case rel => exact ⟨k + 1, _, by omega, by go_num, rfl, by rw [HT.out, crcRun_snoc, HQ.out], below_then hB1 hB2⟩
      case measure => simp [intOf]; omega
    · go_wp2
      go_ret
      exact ⟨by rw [← List.take_of_length_le (show l.length ≤ k by omega), ← HQ.out]; rfl, hB1⟩
end Go.Proofs.YtnfnjmllgklaaaaGreat
