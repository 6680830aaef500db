/- Walks of package bits. -/
import Derived.Test.YtnfnjmllgklaaaaGreatKLib
import Derived.Test.YtnfnjmllgklaaaaGreatKMix
import Derived.Test.YtnfnjmllgklaaaaGreatProg
set_option linter.unusedVariables false
set_option linter.unusedSimpArgs false
namespace Go.Proofs.YtnfnjmllgklaaaaGreat
open Go Go.RowKit Om

theorem info5 : (Tryz.prog.info? 5).map (fun i => (i.zero, i.size, i.bytes)) = some (some (.int .u8 0), 1, 1) := by kernel_rfl

theorem bits_and_one (n k : Nat) (hn : n < 18446744073709551616) : bits BinOp.and IntKind.u64 ((n : Int) / 2 ^ k) 1 = bi (n.testBit k) := by
  have h : ((n : Int) / 2 ^ k) = ((n / 2 ^ k : Nat) : Int) := by simp
  have hl : n / 2 ^ k < 18446744073709551616 := Nat.lt_of_le_of_lt (Nat.div_le_self _ _) hn
  have := u64_and_nat (n / 2 ^ k) 1 hl (by decide)
  rw [h, show (1 : Int) = ((1 : Nat) : Int) from rfl, this, Nat.and_one_is_mod, Nat.testBit_eq_decide_div_mod_eq]
  rcases Nat.mod_two_eq_zero_or_one (n / 2 ^ k) with e | e <;> simp [e, bi]
theorem bits_or_bit (n : Nat) (b : Bool) (hn : 2 * n + 1 < 18446744073709551616) : bits BinOp.or IntKind.u64 ((n : Int) * 2) (bi b) = ((2 * n + b.toNat : Nat) : Int) := by
  have h : ((n : Int) * 2) = ((2 * n : Nat) : Int) := by omega
  have hb : bi b = ((b.toNat : Nat) : Int) := by cases b <;> rfl
  have := u64_or_nat (2 * n) b.toNat (by omega) (by cases b <;> decide)
  rw [h, hb, this]
  congr 1
  cases b
  · simp
  · apply Nat.eq_of_testBit_eq
    intro i
    cases i with
    | zero => simp [Nat.testBit_zero]
    | succ i => rw [Nat.testBit_or, Nat.testBit_succ, Nat.testBit_succ, Nat.testBit_succ]; simp; congr 1; omega
theorem bitsOf_length (n : Nat) : ∀ s, (bitsOf n s).length = s
  | 0 => rfl
  | s + 1 => by simp [bitsOf, bitsOf_length n s]
theorem bitsOf_take (n : Nat) : ∀ s k, k < s → (bitsOf n s).take (s - k) = (bitsOf n s).take (s - (k + 1)) ++ [n.testBit k]
  | 0, k, h => by omega
  | s + 1, k, h => by
    rcases Nat.lt_or_ge k s with h' | h'
    · have := bitsOf_take n s k h'
      rw [show s + 1 - k = (s - k) + 1 by omega, show s + 1 - (k + 1) = (s - (k + 1)) + 1 by omega]
      simp only [bitsOf, List.take_succ_cons, this, List.cons_append]
    · obtain rfl : k = s := by omega
      simp [bitsOf]

def PutPost (B b : Nat) (xs : List Value) (w : World) (e : Ending) (w' : World) : Prop :=
  e = .returned (.tuple #[]) ∧ Below B w w' ∧ ∃ A c, w'.heap[b]? = some (.cells #[.slice A xs.length c] 269 (0, 0)) ∧ w'.ownsRow B 5 1 (.slice A xs.length c) xs.length xs

set_option maxHeartbeats 1000000 in
theorem row_put (B b n size : Nat) (A : Option Addr) (c : Nat) (xs : List Value) (w : World) (hb : w.heap[b]? = some (.cells #[.slice A xs.length c] 269 (0, 0)))
    (hO : w.ownsRow B 5 1 (.slice A xs.length c) xs.length xs) (hBb : B ≤ b) (hn : n < 18446744073709551616) (hs : size ≤ 64) (hx : xs.length ≤ 1000000000) :
    Calls Tryz.prog 246 #[.pointer (some ⟨b, 0, none⟩), .int .u64 n, .int .i64 size] w (PutPost B b (xs ++ bitsV (bitsOf n size)) w) := by
  go_enter Tryz.func246, Tryz.ntmps246
  go_wp2
  go_loopw [6] (fun i W => ∃ (k : Nat) (A : Option Addr) (c : Nat) (ys : List Value), k ≤ size ∧ i = .int .i64 ((k : Int) - 1) ∧ ys = xs ++ bitsV ((bitsOf n size).take (size - k)) ∧
      W.heap[b]? = some (.cells #[.slice A ys.length c] 269 (0, 0)) ∧ W.ownsRow B 5 1 (.slice A ys.length c) ys.length ys ∧ Below B w W) (fun i _ => (intOf i + 1).toNat)
  case atStart => exact ⟨size, A, c, xs, Nat.le_refl _, rfl, by simp [bitsV], hb, hO, Below.refl _ _⟩
  case round =>
    obtain ⟨k, A1, c1, ys, hk, rfl, hys, hb1, hO1, hB1⟩ := hrel
    clear hb hO
    have hyl : ys.length ≤ xs.length + 64 := by
      rw [hys]; simp [bitsV, bitsOf_length]; omega
    have HY := Lib.hid hys
    clear hys
    have hc := cell_of_one hb1
    have hf := free_of_one hb1
    have hce := ext_cell_of hc
    have HBLK := Lib.hid hb1
    clear hb1
    rcases Nat.eq_zero_or_pos k with h0 | h0
    · subst h0
      go_wp2
      go_end0
      refine ⟨rfl, hB1, A1, c1, ?_⟩
      have e : xs ++ bitsV (bitsOf n size) = ys := by rw [HY.out, Nat.sub_zero, List.take_of_length_le (by rw [bitsOf_length]; exact Nat.le_refl _)]
      rw [e]
      exact ⟨HBLK.out, hO1⟩
    · have hbb := bits_and_one n (k - 1) hn
      have hne := own_ne hO1 HBLK.out (by decide)
      go_wp2
      refine wp_region_mix #[[], [], [1], [1, 2], [1, 2, 3], [], [], [5, 6], [5, 6, 7], [5, 6, 7, 8], [5, 6, 7, 8, 9], [1, 2, 3, 4, 5, 6, 7, 8, 9, 10], [0, 1, 2, 3, 4, 5, 6, 7, 8, 9, 10, 11], [0, 1, 2, 3, 4, 5, 6, 7, 8, 9, 10, 11, 12], [0, 1, 2, 3, 4, 5, 6, 7, 8, 9, 10, 11, 12, 13]] [(0, 0), (1, 0), (2, 0), (3, 0), (4, 1), (5, 0), (6, 0), (7, 0), (8, 0), (9, 0), (10, 3), (11, 2), (12, 0), (13, 0), (14, 2)] (by kernel_rfl) (by kernel_rfl) ?_
      repeat ((first | refine mix_pu rfl (fun K hK => ?_) | refine mix_st rfl (fun K hK => ?_)); go_simp; refine hK _ ?_; clear hK K)
      refine mix_kp rfl ?_
      go_wp2
      refine ⟨(Below.refl _ _).alloc (Nat.le_refl _) _, ?_⟩
      refine mix_ef rfl ?_
      refine apN B rfl _ _ _ _ _ _ rfl Tryz.underlying23 info5 rfl (by decide) (.slice A1 ys.length c1) ys [.int .u8 (bi (n.testBit (k - 1)))] _ 1 1 rfl rfl rfl (by simp [Value.oneCell'])
        ((hO1.alloc _).drew) (rd_new wr _ _) ((hB1.alloc (Nat.le_trans hBb (Nat.le_of_lt (lt_of_block HBLK.out))) _).drew) (by simp; have := lt_of_block HBLK.out; omega) (by omega) ?_
      intro A2 c2 w1 hO2 hB2 hg2 _
      have hb2 := blk_grown (W := (wr.alloc _).drew) (blk_alloc HBLK.out _) hg2 hne
      have hc2 := cell_of_one hb2
      have hf2 := free_of_one hb2
      have HB2 := Lib.hid hb2
      clear hb2 hc hf hce
      change wpMix _ _ _ _ _ _
      refine mix_pu rfl (fun K hK => ?_); go_simp; refine hK _ ?_; clear hK K
      refine mix_pu rfl (fun K hK => ?_); go_simp; refine hK _ ?_; clear hK K
      refine mix_ef rfl ?_
      go_wp2
      change wpMix _ _ _ _ _ _
      refine mix_end ?_
      go_wp2
      go_roundw
      case rel =>
        refine ⟨k - 1, A2, c2, ys ++ [.int .u8 (bi (n.testBit (k - 1)))], by omega, by go_num, ?_, ?_, ?_, ?_⟩
        · rw [HY.out, show size - (k - 1) = size - (k - 1) from rfl, bitsOf_take n size (k - 1) (by omega), show k - 1 + 1 = k by omega, bitsV_append, List.append_assoc]
          rfl
        · rw [List.length_append]
          exact one_setCell HB2.out
        · rw [List.length_append]
          exact ownsRow_setCell_other hO2 (own_ne hO2 HB2.out (by decide)) _
        · exact hB2.setCell (p := ⟨b, 0, none⟩) hBb _
      case measure => simp [intOf]; omega

/-! ### Check -/
set_option maxHeartbeats 400000 in
theorem index_none (A : Option Addr) (c : Nat) (l : List Bool) (w : World) (hr : Rd w A (bitsV l)) (hl : l.length ≤ 9223372036854775807) :
    Calls Tryz.prog 249 #[.slice A l.length c, .func (.func 235) #[] #[]] w fun e w' => e = .returned (.int .i64 (-1)) ∧ w' = w := by
  go_enter Tryz.func249, Tryz.ntmps249
  go_wp2
  go_loop [8] (fun i => ∃ k : Nat, k ≤ l.length ∧ i = .int .i64 k) (fun i => l.length - (intOf i).toNat)
  case atStart => exact ⟨0, Nat.zero_le _, rfl⟩
  case round =>
    obtain ⟨k, hk, rfl⟩ := hrel
    by_cases hlt : k < l.length
    · obtain ⟨ad, rfl, hc⟩ := hr.bit k hlt
      clear hr
      generalize l.getD k false = b at hc
      simp only [bv] at hc
      have hb := bi_hi b
      go_wp2
      go_round
      case rel => exact ⟨k + 1, by omega, by go_num⟩
      case measure => simp [intOf]; omega
    · go_wp2
      go_ret
      exact ⟨rfl, rfl⟩
set_option maxHeartbeats 400000 in
theorem check_ok (A : Option Addr) (c : Nat) (l : List Bool) (w : World) (hr : Rd w A (bitsV l)) (hl : l.length ≤ 65536) :
    Calls Tryz.prog 194 #[.slice A l.length c] w fun e w' => e = .returned (.int .i64 0) ∧ w' = w := by
  have h1 : Calls Tryz.prog 234 #[.slice A l.length c, .func (.func 235) #[] #[]] w fun e w' => e = .returned (.bool false) ∧ w' = w := by
    go_enter Tryz.func234, Tryz.ntmps234
    go_wp2_with (go_at_call 249; refine (index_none _ _ _ _ hr (by omega)).mono ?_; rintro e w' ⟨rfl, rfl⟩)
    go_ret
    exact ⟨rfl, rfl⟩
  go_enter Tryz.func194, Tryz.ntmps194
  go_wp2_with (go_at_call 234; refine h1.mono ?_; rintro e w' ⟨rfl, rfl⟩)
  go_ret
  exact ⟨rfl, rfl⟩

/-! ### Put -/
def Row2Post (T B : Nat) (xs : List Value) (w : World) (e : Ending) (w' : World) : Prop :=
  ∃ A c, e = .returned (.tuple #[.slice A xs.length c, .int .i64 0]) ∧ w'.ownsRow B T 1 (.slice A xs.length c) xs.length xs ∧ Below B w w'
def RowPost (T B : Nat) (xs : List Value) (w : World) (e : Ending) (w' : World) : Prop :=
  ∃ A c, e = .returned (.slice A xs.length c) ∧ w'.ownsRow B T 1 (.slice A xs.length c) xs.length xs ∧ Below B w w'
set_option maxHeartbeats 400000 in
theorem put_any (n size : Nat) (w : World) (hn : n < 2 ^ size) (hs : size < 64) :
    Calls Tryz.prog 229 #[.int .u64 n, .int .i64 size] w (Row2Post 5 w.heap.size (bitsV (bitsOf n size)) w) := by
  have hn64 : n < 18446744073709551616 := Nat.lt_of_lt_of_le hn (Nat.pow_le_pow_right (by decide) (by omega) : 2 ^ size ≤ 2 ^ 64)
  have hq : n / 2 ^ size = 0 := Nat.div_eq_of_lt hn
  have hq' : ((n : Int) / 2 ^ size) = 0 := by rw [show ((n : Int) / 2 ^ size) = ((n / 2 ^ size : Nat) : Int) by simp, hq]; rfl
  clear hn hq
  go_enter Tryz.func229, Tryz.ntmps229
  go_wp2_with fail
  refine (row_put w.heap.size w.heap.size n size none 0 [] (w.alloc _) (heap_alloc_new w _) (own_nil _ _ _) (Nat.le_refl _) hn64 (by omega) (by simp)).mono ?_
  rintro e w1 ⟨rfl, hB, A, c, hb, hO⟩
  have hc := cell_of_one hb
  clear hb
  go_wp2
  go_ret2
  exact ⟨A, c, by simp, by simpa using hO, ((Below.refl _ _).alloc (Nat.le_refl _) _).trans hB⟩
end Go.Proofs.YtnfnjmllgklaaaaGreat

/- Walks of package bits: Bytes, Get. -/
namespace Go.Proofs.YtnfnjmllgklaaaaGreat
open Go Go.RowKit Om

theorem bytesBits_append (l r : List UInt8) : bytesBits (l ++ r) = bytesBits l ++ bytesBits r := by
  induction l with
  | nil => rfl
  | cons b l ih => simp [bytesBits, ih]
theorem bytesBits_length (l : List UInt8) : (bytesBits l).length = 8 * l.length := by
  induction l with
  | nil => rfl
  | cons b l ih => simp [bytesBits, bitsOf_length, ih]; omega
theorem take_snoc {α : Type} (l : List α) (k : Nat) (d : α) (h : k < l.length) : l.take (k + 1) = l.take k ++ [l.getD k d] := by
  rw [List.take_succ_eq_append_getElem h, List.getD_eq_getElem?_getD, List.getElem?_eq_getElem h]; rfl
theorem num_snoc (l : List Bool) (b : Bool) : num (l ++ [b]) = 2 * num l + b.toNat := by simp [num]
theorem num_lt (l : List Bool) : num l < 2 ^ l.length := by
  have h : ∀ (l : List Bool) (n k : Nat), n < 2 ^ k → l.foldl (fun n b => 2 * n + b.toNat) n < 2 ^ (k + l.length) := by
    intro l
    induction l with
    | nil => intro n k h; simpa using h
    | cons b l ih =>
      intro n k h
      have := ih (2 * n + b.toNat) (k + 1) (by rw [Nat.pow_succ]; cases b <;> simp <;> omega)
      simp only [List.foldl_cons, List.length_cons]
      rwa [show k + 1 + l.length = k + (l.length + 1) by omega] at this
  have := h l 0 0 (by simp)
  simpa [num] using this

set_option maxHeartbeats 400000 in
theorem row_byte (B b : Nat) (y : UInt8) (A : Option Addr) (c : Nat) (xs : List Value) (w : World) (hb : w.heap[b]? = some (.cells #[.slice A xs.length c] 269 (0, 0)))
    (hO : w.ownsRow B 5 1 (.slice A xs.length c) xs.length xs) (hBb : B ≤ b) (hx : xs.length ≤ 1000000000) :
    Calls Tryz.prog 233 #[.pointer (some ⟨b, 0, none⟩), .int .u8 (y.toNat : Int)] w (PutPost B b (xs ++ bitsV (bitsOf y.toNat 8)) w) := by
  have hy := y.toNat_lt
  have h := row_put B b y.toNat 8 A c xs w hb hO hBb (by omega) (by omega) hx
  clear hb hO
  go_enter Tryz.func233, Tryz.ntmps233
  go_wp2_with fail
  refine h.mono ?_
  rintro e w1 ⟨rfl, hp⟩
  go_wp2
  go_end0
  exact ⟨rfl, hp⟩

set_option maxHeartbeats 400000 in
theorem each_byte (B b : Nat) (D : Option Addr) (cd : Nat) (l : List UInt8) (A : Option Addr) (c : Nat) (xs : List Value) (w : World) (hb : w.heap[b]? = some (.cells #[.slice A xs.length c] 269 (0, 0)))
    (hr : Rd w D (bytesV l)) (hD : ∀ ad, D = some ad → l ≠ [] → ad.block < B)
    (hO : w.ownsRow B 5 1 (.slice A xs.length c) xs.length xs) (hBb : B ≤ b) (hx : xs.length ≤ 100000000) (hl : l.length ≤ 100000000) :
    Calls Tryz.prog 232 #[.slice D l.length cd, .func (.func 233) #[.pointer (some ⟨b, 0, none⟩)] #[]] w (PutPost B b (xs ++ bitsV (bytesBits l)) w) := by
  go_enter Tryz.func232, Tryz.ntmps232
  go_wp2
  go_loopw [8] (fun i W => ∃ (k : Nat) (A : Option Addr) (c : Nat) (ys : List Value), k ≤ l.length ∧ i = .int .i64 k ∧ ys = xs ++ bitsV (bytesBits (l.take k)) ∧
      W.heap[b]? = some (.cells #[.slice A ys.length c] 269 (0, 0)) ∧ W.ownsRow B 5 1 (.slice A ys.length c) ys.length ys ∧ Below B w W) (fun i _ => l.length - (intOf i).toNat)
  case atStart => exact ⟨0, A, c, xs, Nat.zero_le _, rfl, by simp [bitsV, bytesBits], hb, hO, Below.refl _ _⟩
  case round =>
    obtain ⟨k, A1, c1, ys, hk, rfl, hys, hb1, hO1, hB1⟩ := hrel
    clear hb hO
    have hyl : ys.length ≤ xs.length + 8 * l.length := by
      rw [hys]; simp [bitsV, bytesBits_length]; omega
    have HY := Lib.hid hys
    have HB := Lib.hid hb1
    have HO1 := Lib.hid hO1
    clear hys hb1 hO1
    by_cases hlt : k < l.length
    · obtain ⟨ad, rfl, hc⟩ := (hr.below (fun ad e hne => hD ad e (by intro h; simp [h, bytesV] at hne)) hB1).byte k hlt
      clear hr
      simp only [byV] at hc
      go_wp2_with fail
      refine (row_byte B b _ A1 c1 ys _ HB.out HO1.out hBb (by omega)).mono ?_
      rintro e w1 ⟨rfl, hB2, A2, c2, hb2, hO2⟩
      have HB2 := Lib.hid hb2
      clear hb2 hc
      go_wp2
      go_roundw
      case rel =>
        refine ⟨k + 1, A2, c2, _, by omega, by go_num, ?_, HB2.out, hO2, hB1.trans hB2⟩
        rw [HY.out, take_snoc l k 0 hlt, bytesBits_append, bitsV_append, List.append_assoc]
        simp [bytesBits, List.getElem?_eq_getElem hlt]
      case measure => simp [intOf]; omega
    · go_wp2
      go_end0
      refine ⟨rfl, hB1, A1, c1, ?_⟩
      have e : xs ++ bitsV (bytesBits l) = ys := by rw [HY.out, List.take_of_length_le (by omega)]
      rw [e]
      exact ⟨HB.out, HO1.out⟩

set_option maxHeartbeats 400000 in
theorem bytes_any (D : Option Addr) (cd : Nat) (l : List UInt8) (w : World) (hr : Rd w D (bytesV l)) (hl : l.length ≤ 100000000) :
    Calls Tryz.prog 193 #[.slice D l.length cd] w (RowPost 5 w.heap.size (bitsV (bytesBits l)) w) := by
  have hD : ∀ ad, D = some ad → l ≠ [] → ad.block < w.heap.size := fun ad e hne => by subst e; exact hr.lt (by intro h; apply hne; simpa [bytesV] using h)
  have hr' : Rd (w.alloc (.cells #[.slice none 0 0] 269)) D (bytesV l) := hr.kept ((Below.refl _ _).alloc (Nat.le_refl _) _)
  have h := each_byte w.heap.size w.heap.size D cd l none 0 [] _ (heap_alloc_new w _) hr' hD (own_nil _ _ _) (Nat.le_refl _) (by simp) hl
  clear hr hr'
  go_enter Tryz.func193, Tryz.ntmps193
  go_wp2_with fail
  refine h.mono ?_
  rintro e w1 ⟨rfl, hB, A, c, hb, hO⟩
  have hc := cell_of_one hb
  clear hb
  go_wp2
  go_ret
  exact ⟨A, c, by simp, by simpa using hO, ((Below.refl _ _).alloc (Nat.le_refl _) _).trans hB⟩

/-! ### Get -/
theorem number_add (b n : Nat) (x : Bool) (w : World) (hb : w.heap[b]? = some (.cells #[.int .u64 n] 292 (0, 0))) (hn : 2 * n + 1 < 18446744073709551616) :
    Calls Tryz.prog 250 #[.pointer (some ⟨b, 0, none⟩), .int .u8 (bi x)] w fun e w' => e = .returned (.tuple #[]) ∧ w' = w.setCell ⟨b, 0, none⟩ (.int .u64 ((2 * n + x.toNat : Nat) : Int)) := by
  have hc := cell_of_one hb
  have hf := free_of_one hb
  have hor := bits_or_bit n x hn
  have hn' : (n : Int) * 2 ≤ 18446744073709551615 := by omega
  clear hb hn
  go_enter Tryz.func250, Tryz.ntmps250
  go_wp2
  go_end0
  exact ⟨rfl, rfl⟩

set_option maxHeartbeats 400000 in
theorem each_num (B b : Nat) (D : Option Addr) (cd : Nat) (l : List Bool) (w : World) (hb : w.heap[b]? = some (.cells #[.int .u64 0] 292 (0, 0)))
    (hr : Rd w D (bitsV l)) (hD : ∀ ad, D = some ad → l ≠ [] → ad.block < B) (hBb : B ≤ b) (hl : l.length ≤ 64) :
    Calls Tryz.prog 232 #[.slice D l.length cd, .func (.func 250) #[.pointer (some ⟨b, 0, none⟩)] #[]] w fun e w' =>
      e = .returned (.tuple #[]) ∧ Below B w w' ∧ w'.heap[b]? = some (.cells #[.int .u64 (num l : Nat)] 292 (0, 0)) := by
  go_enter Tryz.func232, Tryz.ntmps232
  go_wp2
  go_loopw [8] (fun i W => ∃ (k n : Nat), k ≤ l.length ∧ i = .int .i64 k ∧ n = num (l.take k) ∧
      W.heap[b]? = some (.cells #[.int .u64 n] 292 (0, 0)) ∧ Below B w W) (fun i _ => l.length - (intOf i).toNat)
  case atStart => exact ⟨0, 0, Nat.zero_le _, rfl, rfl, hb, Below.refl _ _⟩
  case round =>
    obtain ⟨k, n, hk, rfl, hn, hb1, hB1⟩ := hrel
    clear hb
    have HN := Lib.hid hn
    have HB := Lib.hid hb1
    by_cases hlt : k < l.length
    · have hnlt : n < 2 ^ 63 := by
        rw [hn]
        refine Nat.lt_of_lt_of_le (num_lt _) (Nat.pow_le_pow_right (by decide) ?_)
        rw [List.length_take]; omega
      clear hn hb1
      obtain ⟨ad, rfl, hc⟩ := (hr.below (fun ad e hne => hD ad e (by intro h; simp [h, bitsV] at hne)) hB1).bit k hlt
      clear hr
      have ht := take_snoc l k false hlt
      have HT := Lib.hid ht
      clear ht
      generalize l.getD k false = y at hc HT
      simp only [bv] at hc
      go_wp2_with fail
      refine (number_add b n y _ HB.out (by omega)).mono ?_
      rintro e w1 ⟨rfl, rfl⟩
      have HB2 := Lib.hid (one_setCell (u := .int .u64 ((2 * n + y.toNat : Nat) : Int)) HB.out)
      clear hc
      go_wp2
      go_roundw
      case rel => exact ⟨k + 1, 2 * n + y.toNat, by omega, by go_num, by rw [HT.out, num_snoc, HN.out], HB2.out, hB1.setCell (p := ⟨b, 0, none⟩) hBb _⟩
      case measure => simp [intOf]; omega
    · clear hn hb1
      go_wp2
      go_end0
      refine ⟨rfl, hB1, ?_⟩
      rw [HB.out, HN.out, List.take_of_length_le (by omega)]
set_option maxHeartbeats 400000 in
theorem get_any (D : Option Addr) (cd : Nat) (l : List Bool) (w : World) (hr : Rd w D (bitsV l)) (hl : l.length ≤ 64) :
    Calls Tryz.prog 242 #[.slice D l.length cd] w fun e w' => e = .returned (.tuple #[.int .u64 (num l : Nat), .int .i64 0]) ∧ Below w.heap.size w w' := by
  have hD : ∀ ad, D = some ad → l ≠ [] → ad.block < w.heap.size := fun ad e hne => by subst e; exact hr.lt (by intro h; apply hne; simpa [bitsV] using h)
  have hr' : Rd (w.alloc (.cells #[.int .u64 0] 292)) D (bitsV l) := hr.kept ((Below.refl _ _).alloc (Nat.le_refl _) _)
  have h := each_num w.heap.size w.heap.size D cd l _ (heap_alloc_new w _) hr' hD (Nat.le_refl _) hl
  have hck := check_ok D cd l w hr (by omega)
  clear hr hr' hD
  go_enter Tryz.func242, Tryz.ntmps242
  go_wp2_with (go_at_call 194; refine hck.mono ?_; rintro e w' ⟨rfl, rfl⟩)
  refine h.mono ?_
  rintro e w1 ⟨rfl, hB, hb⟩
  have hc := cell_of_one hb
  clear hb
  go_wp2
  go_ret2
  exact ⟨rfl, ((Below.refl _ _).alloc (Nat.le_refl _) _).trans hB⟩
end Go.Proofs.YtnfnjmllgklaaaaGreat
