/- Fixed stuffing: a way, a line. -/
import Derived.Test.YtnfnjmllgklaaaaGreatKCount
set_option linter.unusedVariables false
set_option linter.unusedSimpArgs false
namespace Go.Proofs.YtnfnjmllgklaaaaGreat
open Go Go.RowKit Go.Shelf Om

def wayV (W : Om.Way) : Value := .agg #[.int .i64 (W.every : Nat), .bool W.ahead]
/-- A line's cells. -/
def lnV (W : Om.Way) (last : Bool) (left : Nat) : Obj := .cells #[.int .i64 (W.every : Nat), .bool W.ahead, .int .u8 (bi last), .int .i64 (left : Nat)] 283 (0, 0)
def wayMay (W : Om.Way) : Prop := 1 ≤ W.every ∧ W.every ≤ 64
theorem own_ne_ln {w : World} {B b n : Nat} {v : Value} {xs : List Value} {W : Om.Way} {last : Bool} {left : Nat} (hO : w.ownsRow B 5 1 v n xs) (hb : w.heap[b]? = some (lnV W last left)) : v.ownBlock ≠ some b :=
  own_ne hO (show w.heap[b]? = some (.cells #[.int .i64 (W.every : Nat), .bool W.ahead, .int .u8 (bi last), .int .i64 (left : Nat)] 283 (0, 0)) from hb) (by decide)

set_option maxRecDepth 100000 in
theorem may_any (W : Om.Way) (w : World) (hW : wayMay W) :
    Calls Tryz.prog 239 #[wayV W] w fun e w' => e = .returned (.bool true) ∧ Below w.heap.size w w' := by
  obtain ⟨h1, h2⟩ := hW
  have h1' : (W.every : Int) ≥ 1 := by omega
  have h2' : (W.every : Int) ≤ 64 := by omega
  unfold wayV
  go_enter Tryz.func239, Tryz.ntmps239
  go_wp2
  go_ret
  exact ⟨rfl, (Below.refl _ _).alloc (Nat.le_refl _) _⟩

set_option maxRecDepth 100000 in
theorem begin_any (W : Om.Way) (prev : Bool) (w : World) :
    Calls Tryz.prog 211 #[wayV W, .int .u8 (bi prev)] w fun e w' => e = .returned (.pointer (some ⟨w.heap.size + 1, 0, none⟩)) ∧ Below w.heap.size w w' ∧ w'.heap[w.heap.size + 1]? = some (lnV W prev W.left) := by
  obtain ⟨ev, ah⟩ := W
  unfold wayV lnV Om.Way.left
  cases ah
  · go_enter Tryz.func211, Tryz.ntmps211
    go_wp2
    go_ret
    exact ⟨rfl, ((Below.refl _ _).alloc (Nat.le_refl _) _).alloc (by simp) _, heap_alloc2_new w _ _⟩
  · go_enter Tryz.func211, Tryz.ntmps211
    go_wp2
    go_ret
    exact ⟨rfl, ((Below.refl _ _).alloc (Nat.le_refl _) _).alloc (by simp) _, heap_alloc2_new w _ _⟩

set_option maxRecDepth 100000 in
theorem due_any (b : Nat) (W : Om.Way) (last : Bool) (left : Nat) (w : World) (hb : w.heap[b]? = some (lnV W last left)) :
    Calls Tryz.prog 212 #[.pointer (some ⟨b, 0, none⟩)] w fun e w' => e = .returned (.bool (decide (left = 0))) ∧ w' = w := by
  have hc : w.cell? ⟨b, 3, none⟩ = some (.int .i64 (left : Nat)) := by rw [blk_cell hb]; rfl
  have hd : (((left : Nat) : Int) == 0) = decide (left = 0) := by rw [Bool.eq_iff_iff]; simp
  clear hb
  go_enter Tryz.func212, Tryz.ntmps212
  go_wp2
  go_ret
  exact ⟨rfl, rfl⟩

set_option maxRecDepth 100000 in
theorem see1_any (b : Nat) (W : Om.Way) (last x : Bool) (left : Nat) (w : World) (hb : w.heap[b]? = some (lnV W last left)) (hl : 1 ≤ left) (hl2 : left ≤ 64) :
    Calls Tryz.prog 214 #[.pointer (some ⟨b, 0, none⟩), .int .u8 (bi x)] w fun e w' => e = .returned (.tuple #[]) ∧ w'.heap[b]? = some (lnV W x (left - 1)) ∧ w.grownBy w' (some b) := by
  have hc2 : w.cell? ⟨b, 2, none⟩ = some (.int .u8 (bi last)) := by rw [blk_cell hb]; rfl
  have hc3 : w.cell? ⟨b, 3, none⟩ = some (.int .i64 (left : Nat)) := by rw [blk_cell hb]; rfl
  have hf2 : w.frozen? ⟨b, 2, none⟩ = false := blk_free hb 2
  have hf3 : w.frozen? ⟨b, 3, none⟩ = false := blk_free hb 3
  have HB := Lib.hid hb
  clear hb
  go_enter Tryz.func214, Tryz.ntmps214
  go_wp2
  go_end0
  refine ⟨rfl, ?_, World.grownBy.trans (grown_set w ⟨b, 2, none⟩ _) (grown_set _ ⟨b, 3, none⟩ _)⟩
  have h := blk_set (blk_set (show w.heap[b]? = some (.cells #[.int .i64 (W.every : Nat), .bool W.ahead, .int .u8 (bi last), .int .i64 (left : Nat)] 283 (0, 0)) from HB.out) 2 (.int .u8 (bi x))) 3 (.int .i64 ((left : Int) - 1))
  rw [h, show ((left : Int) - 1) = ((left - 1 : Nat) : Int) by omega]
  rfl

set_option maxRecDepth 100000 in
set_option maxHeartbeats 1000000 in
theorem stuff1_any (b : Nat) (W : Om.Way) (last : Bool) (left : Nat) (w : World) (hb : w.heap[b]? = some (lnV W last left)) :
    Calls Tryz.prog 213 #[.pointer (some ⟨b, 0, none⟩)] w fun e w' => e = .returned (.int .u8 (bi (!last))) ∧ w'.heap[b]? = some (lnV W (!last) W.every) ∧ w.grownBy w' (some b) := by
  have hc0 : w.cell? ⟨b, 0, none⟩ = some (.int .i64 (W.every : Nat)) := by rw [blk_cell hb]; rfl
  have hc2 : w.cell? ⟨b, 2, none⟩ = some (.int .u8 (bi last)) := by rw [blk_cell hb]; rfl
  have hc3 : w.cell? ⟨b, 3, none⟩ = some (.int .i64 (left : Nat)) := by rw [blk_cell hb]; rfl
  have hf2 : w.frozen? ⟨b, 2, none⟩ = false := blk_free hb 2
  have hf3 : w.frozen? ⟨b, 3, none⟩ = false := blk_free hb 3
  have x0 := ext_cell_of hc0
  have x2 := ext_cell_of hc2
  have hob := one_bi last
  have HB := Lib.hid hb
  clear hb
  go_enter Tryz.func213, Tryz.ntmps213
  go_wp2
  refine wp_region_mix #[[], [], [], [2], [2, 3], [2, 3, 4], [2, 3, 4, 5], [], [7], [7, 8], [7, 8, 9], [7, 8, 9, 10], [0, 2, 3, 4, 5, 6, 7, 8, 9, 10, 11], [0, 2, 3, 4, 5, 6, 7, 8, 9, 10, 11, 12], [0, 2, 3, 4, 5, 6, 7, 8, 9, 10, 11, 12, 13], [0, 1, 2, 3, 4, 5, 6, 7, 8, 9, 10, 11, 12, 13, 14], [0, 1, 2, 3, 4, 5, 6, 7, 8, 9, 10, 11, 12, 13, 14, 15], [0, 1, 2, 3, 4, 5, 6, 7, 8, 9, 10, 11, 12, 13, 14, 15, 16]] [(0, 0), (1, 0), (2, 0), (3, 0), (4, 0), (5, 1), (6, 0), (7, 0), (8, 0), (9, 0), (10, 0), (11, 1), (12, 0), (13, 0), (14, 2), (15, 0), (16, 0), (17, 2)] (by kernel_rfl) (by kernel_rfl) ?_
  repeat ((first | refine mix_pu rfl (fun K hK => ?_) | refine mix_st rfl (fun K hK => ?_)); go_simp; refine hK _ ?_; clear hK K)
  clear x0 x2
  refine mix_ef rfl ?_
  go_wp2
  change wpMix _ _ _ _ _ _
  repeat (refine mix_pu rfl (fun K hK => ?_); go_simp; refine hK _ ?_; clear hK K)
  refine mix_ef rfl ?_
  go_wp2
  change wpMix _ _ _ _ _ _
  refine mix_end ?_
  have h := blk_set (blk_set (show w.heap[b]? = some (.cells #[.int .i64 (W.every : Nat), .bool W.ahead, .int .u8 (bi last), .int .i64 (left : Nat)] 283 (0, 0)) from HB.out) 2 (.int .u8 (bi (!last)))) 3 (.int .i64 (W.every : Nat))
  have hg := World.grownBy.trans (grown_set w ⟨b, 2, none⟩ (.int .u8 (bi (!last)))) (grown_set _ ⟨b, 3, none⟩ (.int .i64 (W.every : Nat)))
  have hce : ((w.setCell ⟨b, 2, none⟩ (.int .u8 (bi (!last)))).setCell ⟨b, 3, none⟩ (.int .i64 (W.every : Nat))).cell? ⟨b, 2, none⟩ = some (.int .u8 (bi (!last))) := by rw [blk_cell h]; rfl
  have HH := Lib.hid h
  have HG := Lib.hid hg
  clear h hg hc0 hc2 hc3 hf2 hf3
  go_wp2
  go_ret
  exact ⟨rfl, HH.out, ⟨HG.out.os, HG.out.tape, HG.out.output, HG.out.size, HG.out.block⟩⟩
end Go.Proofs.YtnfnjmllgklaaaaGreat

/- fixed.Size, check, Put. -/
namespace Om
theorem fixPutGo_due (ev : Nat) (last b : Bool) (r : List Bool) : fixPutGo ev last 0 (b :: r) = (!last) :: b :: fixPutGo ev b (ev - 1) r := by rw [fixPutGo, if_pos rfl]
theorem fixPutGo_free (ev : Nat) (last b : Bool) (left : Nat) (r : List Bool) (h : ¬ left = 0) : fixPutGo ev last left (b :: r) = b :: fixPutGo ev b (left - 1) r := by rw [fixPutGo, if_neg h]
theorem fixPutGo_length (ev : Nat) : ∀ (l : List Bool) (last : Bool) (left : Nat), (fixPutGo ev last left l).length ≤ 2 * l.length
  | [], _, _ => by simp [fixPutGo]
  | b :: r, last, left => by
    unfold fixPutGo
    split
    · have := fixPutGo_length ev r b (ev - 1); simp; omega
    · have := fixPutGo_length ev r b (left - 1); simp; omega
theorem fixSize_le (n : Nat) (W : Way) : fixSize n W ≤ 2 * n := by
  unfold fixSize
  split
  · omega
  · have : (n - 1) / W.every ≤ n - 1 := Nat.div_le_self _ _
    split <;> omega
end Om
namespace Go.Proofs.YtnfnjmllgklaaaaGreat
open Go Go.RowKit Go.Shelf Om

set_option maxRecDepth 100000 in
set_option maxHeartbeats 1000000 in
theorem fsize_any (n : Nat) (W : Om.Way) (w : World) (hW : wayMay W) (hn : n ≤ 65536) :
    Calls Tryz.prog 209 #[.int .i64 n, wayV W] w fun e w' => e = .returned (.tuple #[.int .i64 (fixSize n W : Nat), .int .i64 0]) ∧ Below w.heap.size w w' := by
  have hmay := fun w1 => may_any W w1 hW
  obtain ⟨h1, h2⟩ := hW
  obtain ⟨ev, ah⟩ := W
  simp only at h1 h2
  unfold wayV at *
  simp only at hmay
  have hb1 := fun (o : Obj) => (Below.refl w.heap.size w).alloc (Nat.le_refl _) o
  have hc0 : ∀ o, o = Obj.cells #[.int .i64 ev, .bool ah] 210 (0, 0) → ∀ w1, Below (w.alloc o).heap.size (w.alloc o) w1 → w1.heap[w.heap.size]? = some o := fun o ho w1 hB => blk_below (heap_alloc_new w o) hB (by simp)
  have hng : ¬ ((n : Int) < 0) := by omega
  have hng2 : ¬ ((n : Int) > 65536) := by omega
  go_enter Tryz.func209, Tryz.ntmps209
  go_wp2_with fail
  refine (hmay _).mono ?_
  rintro e w1 ⟨rfl, hB1⟩
  have hblk := hc0 _ rfl w1 hB1
  have hBw := (hb1 _).trans (hB1.mono (by simp))
  have c0 : w1.cell? ⟨w.heap.size, 0, none⟩ = some (.int .i64 ev) := by rw [blk_cell hblk]; rfl
  have c1 : w1.cell? ⟨w.heap.size, 1, none⟩ = some (.bool ah) := by rw [blk_cell hblk]; rfl
  clear hmay hb1 hc0 hB1 hblk
  rcases Nat.eq_zero_or_pos n with h0 | h0
  · subst h0
    go_wp2
    go_ret2
    exact ⟨by simp [fixSize], hBw⟩
  · have hz : ((n : Int) == 0) = false := beq_eq_false_iff_ne.2 (by omega)
    have hq : ((n : Int) - 1) / (ev : Int) = (((n - 1) / ev : Nat) : Int) := by rw [show ((n : Int) - 1) = ((n - 1 : Nat) : Int) by omega]; simp
    have hle : (n - 1) / ev ≤ n - 1 := Nat.div_le_self _ _
    obtain ⟨q, hqd⟩ : ∃ q, q = (n - 1) / ev := ⟨_, rfl⟩
    rw [← hqd] at hq hle
    have hfs : fixSize n ⟨ev, ah⟩ = n + q + (if ah then 1 else 0) := by unfold fixSize; rw [if_neg (by omega), ← hqd]
    have he0 : ¬ ((ev : Int) = 0) := by omega
    have he1 : (ev : Int) ≠ -1 := by omega
    have hevp : (0 : Int) ≤ (ev : Int) := by omega
    have hnp : (0 : Int) ≤ (n : Int) - 1 := by omega
    have HF := Lib.hid hfs
    clear hqd hfs
    cases ah
    · go_wp2
      go_ret2
      exact ⟨by rw [HF.out]; simp, hBw⟩
    · go_wp2
      go_ret2
      exact ⟨by rw [HF.out]; simp, hBw⟩

set_option maxRecDepth 100000 in
set_option maxHeartbeats 1000000 in
theorem fcheck_any (prev : Bool) (D : Option Addr) (cap : Nat) (l : List Bool) (W : Om.Way) (w : World) (hW : wayMay W) (hr : Rd w D (bitsV l)) (hl : l.length ≤ 65536) :
    Calls Tryz.prog 210 #[.int .u8 (bi prev), .slice D l.length cap, wayV W] w fun e w' => e = .returned (.bool true) ∧ Below w.heap.size w w' := by
  have hmay := fun w1 => may_any W w1 hW
  have hck := fun w2 (hB : Below w.heap.size w w2) => check_ok D cap l w2 (hr.kept hB) hl
  clear hr
  unfold wayV at *
  obtain ⟨ev, ah⟩ := W
  simp only at hmay
  have hp : bi prev ≤ 1 := by cases prev <;> decide
  have hB := fun o : Obj => (Below.refl w.heap.size w).alloc (Nat.le_refl _) o
  have hck0 := fun o => hck _ (hB o)
  clear hck
  go_enter Tryz.func210, Tryz.ntmps210
  go_wp2_with fail
  refine (hck0 _).mono ?_
  rintro e w1 ⟨rfl, rfl⟩
  go_wp2_with fail
  refine (hmay _).mono ?_
  rintro e w1 ⟨rfl, hB1⟩
  have hB1' := (hB _).trans (hB1.mono (by simp))
  clear hmay hck0 hB hB1
  go_wp2
  go_ret
  exact ⟨rfl, hB1'⟩

set_option maxRecDepth 100000 in
set_option maxHeartbeats 2000000 in
/-- fixed.Put. -/
theorem fixput_any (prev : Bool) (D : Option Addr) (cap : Nat) (l : List Bool) (W : Om.Way) (w : World) (hW : wayMay W) (hr : Rd w D (bitsV l)) (hl : l.length ≤ 32768) :
    Calls Tryz.prog 160 #[.int .u8 (bi prev), .slice D l.length cap, wayV W] w (Row2Post 5 w.heap.size (bitsV (fixPut prev l W)) w) := by
  have hD : ∀ ad, D = some ad → l ≠ [] → ad.block < w.heap.size := fun ad e hne => by subst e; exact hr.lt (by intro h; apply hne; simpa [bitsV] using h)
  have hsize := fun w1 => fsize_any l.length W w1 hW (by omega)
  have hck := fun w2 (hB : Below w.heap.size w w2) => fcheck_any prev D cap l W w2 hW (hr.kept hB) (by omega)
  have hbeg := fun w1 => begin_any W prev w1
  have hfs := fixSize_le l.length W
  have hsl : (fixPut prev l W).length ≤ 2 * l.length := fixPutGo_length _ _ _ _
  have hwl : W.left ≤ 64 := by unfold Om.Way.left; have := hW.2; split <;> omega
  have hev := hW
  unfold wayV at *
  have HR := Lib.hid hr
  have HC := Lib.hid hck
  have HE := Lib.hid hev
  clear hr hck hW hev
  obtain ⟨i0, hi, hzz⟩ := Option.map_eq_some_iff.1 info5
  simp only [Prod.mk.injEq] at hzz
  generalize fixSize l.length W = N at *
  have hB0 := (Below.refl w.heap.size w).alloc (Nat.le_refl _) (.cells #[.int .i64 (W.every : Nat), .bool W.ahead] 210)
  have hk0 := heap_alloc_new w (.cells #[.int .i64 (W.every : Nat), .bool W.ahead] 210)
  go_enter Tryz.func160, Tryz.ntmps160
  go_wp2_with fail
  refine (hsize _).mono ?_
  rintro e w1 ⟨rfl, hB1⟩
  have hB1' := hB0.trans (hB1.mono (by simp))
  have hk1 := blk_below hk0 hB1 (by simp)
  have c0 : w1.cell? ⟨w.heap.size, 0, none⟩ = some (.int .i64 (W.every : Nat)) := by rw [blk_cell hk1]; rfl
  have c1 : w1.cell? ⟨w.heap.size, 1, none⟩ = some (.bool W.ahead) := by rw [blk_cell hk1]; rfl
  clear hsize hB1 hB0 hk0
  go_wp2_with fail
  refine (HC.out _ hB1').mono ?_
  rintro e w2 ⟨rfl, hB2⟩
  have hB2' := below_then hB1' hB2
  have hk2 := blk_kept hk1 hB2
  have d0 : w2.cell? ⟨w.heap.size, 0, none⟩ = some (.int .i64 (W.every : Nat)) := by rw [blk_cell hk2]; rfl
  have d1 : w2.cell? ⟨w.heap.size, 1, none⟩ = some (.bool W.ahead) := by rw [blk_cell hk2]; rfl
  have hng : ¬ ((N : Int) > 65536) := by omega
  clear c0 c1 hk1 hB2 hB1' hk2
  go_wp2_with fail
  refine (hbeg _).mono ?_
  rintro e w3 ⟨rfl, hB3, hln⟩
  have hB3' := below_then hB2' hB3
  have hb0 : w.heap.size ≤ w2.heap.size + 1 := by have := hB2'.size; omega
  generalize w2.heap.size + 1 = b at *
  have HLN := Lib.hid hln
  clear hbeg hln hB3 hB2' d0 d1
  go_wp2_with (at_make; refine wpList_make_own _ rfl _ _ _ rfl w.heap.size 5 i0 (.int .u8 0) 1 Tryz.underlying23 hi hzz.1 hzz.2.1 .i64 .i64 _ N rfl rfl (by omega) (by rw [hzz.2.2]; omega) (by unfold maxLen; omega) hB3'.size ?_; intro w4 hO4 hg4)
  have hln4 := blk_grown HLN.out hg4 (by simp)
  have hB4 := hB3'.grown hg4 hB3'.size (by simp)
  have HO4 := Lib.hid hO4
  have HL4 := Lib.hid hln4
  generalize w3.heap.size = b3 at *
  clear hO4 hln4 hg4 hi hzz
  go_loopw [11, 37] (fun o i W4 => ∃ (k : Nat) (last : Bool) (left : Nat) (A : Option Addr) (c : Nat) (ys : List Bool), k ≤ l.length ∧ i = .int .i64 k ∧ left ≤ 64 ∧ ys ++ fixPutGo W.every last left (l.drop k) = fixPut prev l W ∧
      o = .slice A (bitsV ys).length c ∧ W4.heap[b]? = some (lnV W last left) ∧ W4.ownsRow w.heap.size 5 1 (.slice A (bitsV ys).length c) (bitsV ys).length (bitsV ys) ∧ Below w.heap.size w W4) (fun _ i _ => l.length - (intOf i).toNat)
  case atStart => exact ⟨0, prev, W.left, some ⟨b3, 0, none⟩, N, [], Nat.zero_le _, rfl, hwl, rfl, rfl, HL4.out, HO4.out, hB4⟩
  case round =>
    obtain ⟨k, last, left, A, c, ys, hk, rfl, hl64, hys, rfl, hln, hO, hB⟩ := hrel
    have hyl : ys.length ≤ 65536 := by have := congrArg List.length hys; simp at this; omega
    by_cases hlt : k < l.length
    · obtain ⟨ad, rfl, hc⟩ := (HR.out.kept hB).bit k hlt
      have hdr : l.drop k = l.getD k false :: l.drop (k + 1) := by rw [List.drop_eq_getElem_cons hlt, List.getD_eq_getElem?_getD, List.getElem?_eq_getElem hlt]; rfl
      rw [hdr] at hys
      generalize l.getD k false = y at hc hys
      simp only [bv] at hc
      have hdue := due_any b W last left wr hln
      have HYS := Lib.hid hys
      have HLN := Lib.hid hln
      have HO := Lib.hid hO
      clear hys hln hO hdr
      go_wp2_with fail
      refine hdue.mono ?_
      rintro e w5 ⟨rfl, rfl⟩
      clear hdue
      by_cases h0 : left = 0
      · have hdec : decide (left = 0) = true := by simpa using h0
        have hst := stuff1_any b W last left w5 HLN.out
        go_wp2_with fail
        refine hst.mono ?_
        rintro e w6 ⟨rfl, hln6, hg6⟩
        have hO6 := HO.out.kept hg6 (.inr (own_ne_ln HO.out HLN.out))
        have hB6 := hB.grown hg6 hB.size (by intro k hk; cases hk; exact hb0)
        have HO6 := Lib.hid hO6
        have HL6 := Lib.hid hln6
        clear hst hO6 hln6 hc
        go_wp2_with (at_builtin; refine ap1 w.heap.size rfl _ _ _ _ _ _ rfl Tryz.underlying23 info5 rfl (by decide) (.slice A (bitsV ys).length c) (bitsV ys) (bv (!last)) rfl rfl rfl HO6.out hB6 hB6.size (by rw [bitsV_length]; omega) ?_; intro A7 c7 w7 hO7 hB7 hg7 _)
        have hln7 := blk_grown HL6.out hg7 (own_ne_ln HO6.out HL6.out)
        have hyl7 : (bitsV ys).length + 1 = (bitsV (ys ++ [!last])).length := by simp [bitsV]
        have hyn7 : bitsV ys ++ [bv (!last)] = bitsV (ys ++ [!last]) := by simp [bitsV]
        rw [hyl7, hyn7] at hO7
        rw [hyl7]
        have HO7 := Lib.hid hO7
        have HL7 := Lib.hid hln7
        have hev := HE.out
        clear hO7 hln7 hyl7 hyn7 hg7
        subst h0
        have hse := see1_any b W (!last) y W.every w7 HL7.out hev.1 hev.2
        go_wp2_with fail
        refine hse.mono ?_
        rintro e w8 ⟨rfl, hln8, hg8⟩
        have hO8 := HO7.out.kept hg8 (.inr (own_ne_ln HO7.out HL7.out))
        have hB8 := hB7.grown hg8 hB7.size (by intro k hk; cases hk; exact hb0)
        have HO8 := Lib.hid hO8
        have HL8 := Lib.hid hln8
        clear hse hO8 hln8
        go_wp2_with (at_builtin; refine ap1 w.heap.size rfl _ _ _ _ _ _ rfl Tryz.underlying23 info5 rfl (by decide) (.slice A7 (bitsV (ys ++ [!last])).length c7) (bitsV (ys ++ [!last])) (bv y) rfl rfl rfl HO8.out hB8 hB8.size (by rw [bitsV_length]; simp; omega) ?_; intro A9 c9 w9 hO9 hB9 hg9 _; have HO9 := Lib.hid hO9; have HG9 := Lib.hid hg9; clear hO9 hg9)
        have hln9 := blk_grown HL8.out HG9.out (own_ne_ln HO8.out HL8.out)
        have hyl9 : (bitsV (ys ++ [!last])).length + 1 = (bitsV ((ys ++ [!last]) ++ [y])).length := by simp [bitsV]
        have hyn9 : bitsV (ys ++ [!last]) ++ [bv y] = bitsV ((ys ++ [!last]) ++ [y]) := by simp [bitsV]
        have HN9 := Lib.hid hln9
        have HY9 := Lib.hid hyl9
        have HZ9 := Lib.hid hyn9
        clear hln9 hyl9 hyn9
        go_roundw
        case rel =>
          refine ⟨k + 1, y, W.every - 1, A9, c9, (ys ++ [!last]) ++ [y], by omega, by go_num, by have := HE.out.2; omega, ?_, by rw [← HY9.out], HN9.out, ?_, hB9⟩
          · rw [← HYS.out, fixPutGo_due]; simp
          · rw [← HY9.out, ← HZ9.out]; exact HO9.out
        case measure => simp [intOf]; omega
      · have hdec : decide (left = 0) = false := by simpa using h0
        have hse := see1_any b W last y left w5 HLN.out (by omega) hl64
        go_wp2_with fail
        refine hse.mono ?_
        rintro e w8 ⟨rfl, hln8, hg8⟩
        have hO8 := HO.out.kept hg8 (.inr (own_ne_ln HO.out HLN.out))
        have hB8 := hB.grown hg8 hB.size (by intro k hk; cases hk; exact hb0)
        have HO8 := Lib.hid hO8
        have HL8 := Lib.hid hln8
        clear hse hO8 hln8
        go_wp2_with (at_builtin; refine ap1 w.heap.size rfl _ _ _ _ _ _ rfl Tryz.underlying23 info5 rfl (by decide) (.slice A (bitsV ys).length c) (bitsV ys) (bv y) rfl rfl rfl HO8.out hB8 hB8.size (by rw [bitsV_length]; simp; omega) ?_; intro A9 c9 w9 hO9 hB9 hg9 _; have HO9 := Lib.hid hO9; have HG9 := Lib.hid hg9; clear hO9 hg9)
        have hln9 := blk_grown HL8.out HG9.out (own_ne_ln HO8.out HL8.out)
        have hyl9 : (bitsV ys).length + 1 = (bitsV (ys ++ [y])).length := by simp [bitsV]
        have hyn9 : bitsV ys ++ [bv y] = bitsV (ys ++ [y]) := by simp [bitsV]
        have HN9 := Lib.hid hln9
        have HY9 := Lib.hid hyl9
        have HZ9 := Lib.hid hyn9
        clear hln9 hyl9 hyn9
        go_roundw
        case rel =>
          refine ⟨k + 1, y, left - 1, A9, c9, ys ++ [y], by omega, by go_num, by have := HE.out.2; omega, ?_, by rw [← HY9.out], HN9.out, ?_, hB9⟩
          · rw [← HYS.out, fixPutGo_free _ _ _ _ _ h0]; simp
          · rw [← HY9.out, ← HZ9.out]; exact HO9.out
        case measure => simp [intOf]; omega
    · obtain rfl : k = l.length := by omega
      have hys' : ys = fixPut prev l W := by rw [← hys]; simp [fixPutGo]
      subst hys'
      have HO := Lib.hid hO
      clear hln hO hys
      go_wp2
      go_ret2
      exact ⟨A, c, rfl, HO.out, hB⟩
end Go.Proofs.YtnfnjmllgklaaaaGreat

/- fixed.Get. -/
namespace Om
theorem fixGetGo_due (ev : Nat) (last f b : Bool) (r : List Bool) (h : b = !last) : fixGetGo ev last 0 f (b :: r) = fixGetGo ev b ev true r := by rw [fixGetGo, if_pos rfl, if_pos h]
theorem fixGetGo_bad (ev : Nat) (last f b : Bool) (r : List Bool) (h : ¬ b = !last) : fixGetGo ev last 0 f (b :: r) = none := by rw [fixGetGo, if_pos rfl, if_neg h]
theorem fixGetGo_free (ev : Nat) (last f b : Bool) (left : Nat) (r : List Bool) (h : ¬ left = 0) : fixGetGo ev last left f (b :: r) = (fixGetGo ev b (left - 1) false r).map fun x => (b :: x.1, x.2) := by rw [fixGetGo, if_neg h]
def getOn (ys : List Bool) (o : Option (List Bool × Bool)) : Option (List Bool × Bool) := o.map fun x => (ys ++ x.1, x.2)
end Om
namespace Go.Proofs.YtnfnjmllgklaaaaGreat
open Go Go.RowKit Go.Shelf Om

/-- What fixed.Get hands back. -/
def GetPost (B : Nat) (o : Option (List Bool × Bool)) (w : World) (e : Ending) (w' : World) : Prop :=
  Below B w w' ∧ ((o = none ∧ e = .returned (.tuple #[.slice none 0 0, .int .i64 4])) ∨ (∃ xs, o = some (xs, true) ∧ e = .returned (.tuple #[.slice none 0 0, .int .i64 7])) ∨
    ∃ xs A c, o = some (xs, false) ∧ e = .returned (.tuple #[.slice A (bitsV xs).length c, .int .i64 0]) ∧ w'.ownsRow B 5 1 (.slice A (bitsV xs).length c) (bitsV xs).length (bitsV xs))

set_option maxRecDepth 100000 in
set_option maxHeartbeats 2000000 in
/-- fixed.Get. -/
theorem fixget_any (prev : Bool) (D : Option Addr) (cap : Nat) (l : List Bool) (W : Om.Way) (w : World) (hW : wayMay W) (hr : Rd w D (bitsV l)) (hl : l.length ≤ 65536) :
    Calls Tryz.prog 273 #[.int .u8 (bi prev), .slice D l.length cap, wayV W] w (GetPost w.heap.size (fixGet prev l W) w) := by
  have hck := fun w2 (hB : Below w.heap.size w w2) => fcheck_any prev D cap l W w2 hW (hr.kept hB) (by omega)
  have hbeg := fun w1 => begin_any W prev w1
  have hwl : W.left ≤ 64 := by unfold Om.Way.left; have := hW.2; split <;> omega
  have hev := hW
  unfold wayV at *
  have HR := Lib.hid hr
  have HC := Lib.hid hck
  have HE := Lib.hid hev
  have hB0 := (Below.refl w.heap.size w).alloc (Nat.le_refl _) (.cells #[.int .i64 (W.every : Nat), .bool W.ahead] 210)
  have hk0 := heap_alloc_new w (.cells #[.int .i64 (W.every : Nat), .bool W.ahead] 210)
  have hck0 := hck _ hB0
  clear hr hck hW hev
  go_enter Tryz.func273, Tryz.ntmps273
  go_wp2_with fail
  refine hck0.mono ?_
  rintro e w2 ⟨rfl, hB2⟩
  have hB2' := hB0.trans (hB2.mono (by simp))
  have hk2 := blk_kept hk0 hB2
  have d0 : w2.cell? ⟨w.heap.size, 0, none⟩ = some (.int .i64 (W.every : Nat)) := by rw [blk_cell hk2]; rfl
  have d1 : w2.cell? ⟨w.heap.size, 1, none⟩ = some (.bool W.ahead) := by rw [blk_cell hk2]; rfl
  clear hB0 hk0 hB2 hck0 hk2
  go_wp2_with fail
  refine (hbeg _).mono ?_
  rintro e w3 ⟨rfl, hB3, hln⟩
  have hB3' := below_then hB2' hB3
  have hb0 : w.heap.size ≤ w2.heap.size + 1 := by have := hB2'.size; omega
  generalize w2.heap.size + 1 = b at *
  have HLN := Lib.hid hln
  clear hbeg hln hB3 hB2' d0 d1
  go_wp2
  go_loopw [9, 10, 23] (fun o ff i W4 => ∃ (k : Nat) (last : Bool) (left : Nat) (f : Bool) (A : Option Addr) (c : Nat) (ys : List Bool), k ≤ l.length ∧ i = .int .i64 k ∧ ff = .bool f ∧ left ≤ 64 ∧ ys.length ≤ k ∧ fixGet prev l W = getOn ys (fixGetGo W.every last left f (l.drop k)) ∧
      o = .slice A (bitsV ys).length c ∧ W4.heap[b]? = some (lnV W last left) ∧ W4.ownsRow w.heap.size 5 1 (.slice A (bitsV ys).length c) (bitsV ys).length (bitsV ys) ∧ Below w.heap.size w W4) (fun _ _ i _ => l.length - (intOf i).toNat)
  case atStart => exact ⟨0, prev, W.left, false, none, 0, [], Nat.zero_le _, rfl, rfl, hwl, by simp, by simp [getOn, fixGet], rfl, HLN.out, own_nil _ _ _, hB3'⟩
  case round =>
    obtain ⟨k, last, left, f, A, c, ys, hk, rfl, rfl, hl64, hyk, hys, rfl, hln, hO, hB⟩ := hrel
    by_cases hlt : k < l.length
    · obtain ⟨ad, rfl, hc⟩ := (HR.out.kept hB).bit k hlt
      have hdr : l.drop k = l.getD k false :: l.drop (k + 1) := by rw [List.drop_eq_getElem_cons hlt, List.getD_eq_getElem?_getD, List.getElem?_eq_getElem hlt]; rfl
      rw [hdr] at hys
      generalize l.getD k false = y at hc hys
      simp only [bv] at hc
      have hdue := due_any b W last left wr hln
      have HYS := Lib.hid hys
      have HLN := Lib.hid hln
      have HO := Lib.hid hO
      clear hys hln hO hdr
      go_wp2_with fail
      refine hdue.mono ?_
      rintro e w5 ⟨rfl, rfl⟩
      clear hdue
      by_cases h0 : left = 0
      · have hdec : decide (left = 0) = true := by simpa using h0
        have hst := stuff1_any b W last left w5 HLN.out
        have hyb := bi_eq (!last) y
        go_wp2_with fail
        refine hst.mono ?_
        rintro e w6 ⟨rfl, hln6, hg6⟩
        have hO6 := HO.out.kept hg6 (.inr (own_ne_ln HO.out HLN.out))
        have hB6 := hB.grown hg6 hB.size (by intro k hk; cases hk; exact hb0)
        have HO6 := Lib.hid hO6
        have HL6 := Lib.hid hln6
        clear hst hO6 hln6 hc
        by_cases hy : y = !last
        · have hyt : (bi (!last) != bi y) = false := by rw [hy]; simp
          have hgo : fixGet prev l W = getOn ys (fixGetGo W.every y W.every true (l.drop (k + 1))) := by rw [HYS.out, h0, fixGetGo_due _ _ _ _ _ hy]
          have HGO := Lib.hid hgo
          clear hgo hyb
          have hy' : (!last) = y := hy.symm
          clear hy
          go_wp2
          go_roundw
          case rel => exact ⟨k + 1, y, W.every, true, A, c, ys, by omega, by go_num, by simp, HE.out.2, by omega, HGO.out, rfl, by rw [← hy']; exact HL6.out, HO6.out, hB6⟩
          case measure => simp [intOf]; omega
        · have hyt : (bi (!last) != bi y) = true := by cases last <;> cases y <;> simp_all [bi]
          have hgo : fixGet prev l W = none := by rw [HYS.out, h0, fixGetGo_bad _ _ _ _ _ hy]; rfl
          have HGO := Lib.hid hgo
          clear hgo hyb hy
          go_wp2
          go_ret2
          exact ⟨hB6, .inl ⟨HGO.out, rfl⟩⟩
      · have hdec : decide (left = 0) = false := by simpa using h0
        have hse := see1_any b W last y left w5 HLN.out (by omega) hl64
        go_wp2_with fail
        refine hse.mono ?_
        rintro e w8 ⟨rfl, hln8, hg8⟩
        have hO8 := HO.out.kept hg8 (.inr (own_ne_ln HO.out HLN.out))
        have hB8 := hB.grown hg8 hB.size (by intro k hk; cases hk; exact hb0)
        have HO8 := Lib.hid hO8
        have HL8 := Lib.hid hln8
        clear hse hO8 hln8
        go_wp2_with (at_builtin; refine ap1 w.heap.size rfl _ _ _ _ _ _ rfl Tryz.underlying23 info5 rfl (by decide) (.slice A (bitsV ys).length c) (bitsV ys) (bv y) rfl rfl rfl HO8.out hB8 hB8.size (by rw [bitsV_length]; omega) ?_; intro A9 c9 w9 hO9 hB9 hg9 _; have HO9 := Lib.hid hO9; have HG9 := Lib.hid hg9; clear hO9 hg9)
        have hln9 := blk_grown HL8.out HG9.out (own_ne_ln HO8.out HL8.out)
        have hyl9 : (bitsV ys).length + 1 = (bitsV (ys ++ [y])).length := by simp [bitsV]
        have hyn9 : bitsV ys ++ [bv y] = bitsV (ys ++ [y]) := by simp [bitsV]
        have hgo : fixGet prev l W = getOn (ys ++ [y]) (fixGetGo W.every y (left - 1) false (l.drop (k + 1))) := by
          rw [HYS.out, fixGetGo_free _ _ _ _ _ _ h0, getOn, getOn, Option.map_map]; congr 1; funext x; simp
        have HGO := Lib.hid hgo
        have HN9 := Lib.hid hln9
        have HY9 := Lib.hid hyl9
        have HZ9 := Lib.hid hyn9
        clear hln9 hyl9 hyn9 hgo
        go_roundw
        case rel =>
          refine ⟨k + 1, y, left - 1, false, A9, c9, ys ++ [y], by omega, by go_num, by simp, by omega, by simp; omega, HGO.out, by rw [← HY9.out], HN9.out, ?_, hB9⟩
          rw [← HY9.out, ← HZ9.out]; exact HO9.out
        case measure => simp [intOf]; omega
    · obtain rfl : k = l.length := by omega
      have hsome : fixGet prev l W = some (ys, f) := by rw [hys]; simp [fixGetGo, getOn]
      have HS := Lib.hid hsome
      have HO := Lib.hid hO
      clear hln hO hys hsome
      cases f
      · go_wp2
        go_ret2
        exact ⟨hB, .inr (.inr ⟨ys, A, c, HS.out, rfl, HO.out⟩)⟩
      · go_wp2
        go_ret2
        exact ⟨hB, .inr (.inl ⟨ys, HS.out, rfl⟩)⟩
end Go.Proofs.YtnfnjmllgklaaaaGreat
