/- Dynamic stuffing: stuff.Put. -/
import Derived.Test.YtnfnjmllgklaaaaGreatKCrcAdd
set_option linter.unusedVariables false
set_option linter.unusedSimpArgs false
namespace Om
theorem stuffGo_length : ∀ (l : List Bool) (s : Sst), (stuffGo s l).length ≤ 2 * l.length
  | [], _ => by simp [stuffGo]
  | b :: r, s => by
    unfold stuffGo
    split
    · have := stuffGo_length r ((s.see (!s.last)).see b); simp; omega
    · have := stuffGo_length r (s.see b); simp; omega
theorem see_le (s : Sst) (b : Bool) (h : s.run ≤ 4) : (s.see b).run ≤ 5 ∧ 1 ≤ (s.see b).run := by
  unfold Sst.see
  split
  · simp; omega
  · simp
theorem see_other (s : Sst) : (s.see (!s.last)) = ⟨!s.last, 1⟩ := by
  unfold Sst.see
  rw [if_neg]
  cases s.last <;> simp
end Om
namespace Go.Proofs.YtnfnjmllgklaaaaGreat
open Go Go.RowKit Go.Shelf Om

/-- A state's cells. -/
def stV (s : Sst) : Obj := .cells #[.int .u8 (bi s.last), .int .i64 (s.run : Nat)] 243 (0, 0)
theorem bi_eq (a b : Bool) : (bi a == bi b) = (a == b) := by cases a <;> cases b <;> rfl

theorem grown_set (W : World) (a : Addr) (v : Value) : W.grownBy (W.setCell a v) (some a.block) :=
  ⟨rfl, rfl, rfl, by simp, fun k _ hk => Below.heap_setCell W a v k (fun e => hk (by rw [e]))⟩
theorem full_any (b : Nat) (s : Sst) (w : World) (hb : w.heap[b]? = some (stV s)) :
    Calls Tryz.prog 196 #[.pointer (some ⟨b, 0, none⟩)] w fun e w' => e = .returned (.bool (decide (s.run = 5))) ∧ w' = w := by
  have hc1 : w.cell? ⟨b, 1, none⟩ = some (.int .i64 (s.run : Nat)) := by rw [blk_cell hb]; rfl
  have hd : (((s.run : Nat) : Int) == 5) = decide (s.run = 5) := by rw [Bool.eq_iff_iff]; simp; omega
  clear hb
  go_enter Tryz.func196, Tryz.ntmps196
  go_wp2
  go_ret
  exact ⟨rfl, rfl⟩

theorem see_any (b : Nat) (s : Sst) (x : Bool) (w : World) (hb : w.heap[b]? = some (stV s)) (hr : s.run ≤ 1000) :
    Calls Tryz.prog 197 #[.pointer (some ⟨b, 0, none⟩), .int .u8 (bi x)] w fun e w' => e = .returned (.tuple #[]) ∧ w'.heap[b]? = some (stV (s.see x)) ∧ w.grownBy w' (some b) := by
  have hc0 : w.cell? ⟨b, 0, none⟩ = some (.int .u8 (bi s.last)) := by rw [blk_cell hb]; rfl
  have hc1 : w.cell? ⟨b, 1, none⟩ = some (.int .i64 (s.run : Nat)) := by rw [blk_cell hb]; rfl
  have hf0 : w.frozen? ⟨b, 0, none⟩ = false := blk_free hb 0
  have hf1 : w.frozen? ⟨b, 1, none⟩ = false := blk_free hb 1
  have hbx := bi_eq s.last x
  have HB := Lib.hid hb
  obtain ⟨last, run⟩ := s
  clear hb
  simp only at hc0 hc1 hbx hr
  by_cases h0 : 0 < run ∧ last = x
  · obtain ⟨h1, rfl⟩ := h0
    have h1' : (run : Int) > 0 := by omega
    go_enter Tryz.func197, Tryz.ntmps197
    go_wp2
    refine bodyPost_ret (results_none rfl _ _ _) rfl ⟨rfl, ?_, grown_set w ⟨b, 1, none⟩ _⟩
    have h := blk_set (show w.heap[b]? = some (.cells #[.int .u8 (bi last), .int .i64 (run : Nat)] 243 (0, 0)) from HB.out) 1 (.int .i64 ((run : Int) + 1))
    rw [h]
    simp [Sst.see, stV, h1]
  · have hdec : (decide ((run : Int) > 0) && (last == x)) = false := by
      rw [Bool.and_eq_false_iff]
      by_cases h : 0 < run
      · right; simp; exact fun e => h0 ⟨h, e⟩
      · left; simp; omega
    have HP := Lib.hid h0
    by_cases h1 : 0 < run
    · have h1' : (run : Int) > 0 := by omega
      have hne : last ≠ x := fun e => h0 ⟨h1, e⟩
      have hbx' : (bi last == bi x) = false := by rw [hbx]; simpa using hne
      clear hbx hdec h0 hne
      go_enter Tryz.func197, Tryz.ntmps197
      go_wp2
      go_end0
      refine ⟨rfl, ?_, World.grownBy.trans (grown_set w ⟨b, 0, none⟩ _) (grown_set _ ⟨b, 1, none⟩ _)⟩
      have h := blk_set (blk_set (show w.heap[b]? = some (.cells #[.int .u8 (bi last), .int .i64 (run : Nat)] 243 (0, 0)) from HB.out) 0 (.int .u8 (bi x))) 1 (.int .i64 1)
      rw [h, Sst.see, if_neg HP.out]
      rfl
    · have h1' : ¬ (run : Int) > 0 := by omega
      clear hbx hdec h0
      go_enter Tryz.func197, Tryz.ntmps197
      go_wp2
      go_end0
      refine ⟨rfl, ?_, World.grownBy.trans (grown_set w ⟨b, 0, none⟩ _) (grown_set _ ⟨b, 1, none⟩ _)⟩
      have h := blk_set (blk_set (show w.heap[b]? = some (.cells #[.int .u8 (bi last), .int .i64 (run : Nat)] 243 (0, 0)) from HB.out) 0 (.int .u8 (bi x))) 1 (.int .i64 1)
      rw [h, Sst.see, if_neg HP.out]
      rfl

theorem own_ne_st {W : World} {B b n : Nat} {v : Value} {xs : List Value} {s : Sst} (hO : W.ownsRow B 5 1 v n xs) (hb : W.heap[b]? = some (stV s)) : v.ownBlock ≠ some b :=
  own_ne hO (show W.heap[b]? = some (.cells #[.int .u8 (bi s.last), .int .i64 (s.run : Nat)] 243 (0, 0)) from hb) (by decide)
set_option maxRecDepth 100000 in
set_option maxHeartbeats 1000000 in
/-- stuff.Put$1: a raw bit is seen, and put behind. -/
theorem addb_any (B b bo : Nat) (s : Sst) (x : Bool) (A : Option Addr) (c : Nat) (xs : List Value) (w : World) (hb : w.heap[b]? = some (stV s)) (hbo : w.heap[bo]? = some (.cells #[.slice A xs.length c] 23 (0, 0)))
    (hO : w.ownsRow B 5 1 (.slice A xs.length c) xs.length xs) (hBb : B ≤ b) (hBo : B ≤ bo) (hr : s.run ≤ 1000) (hx : xs.length ≤ 10000000) :
    Calls Tryz.prog 195 #[.func (.func 197) #[.pointer (some ⟨b, 0, none⟩)] #[], .int .u8 (bi x), .pointer (some ⟨bo, 0, none⟩)] w fun e w' =>
      e = .returned (.tuple #[]) ∧ ∃ A' c', w'.heap[b]? = some (stV (s.see x)) ∧ w'.heap[bo]? = some (.cells #[.slice A' (xs.length + 1) c'] 23 (0, 0)) ∧ w'.ownsRow B 5 1 (.slice A' (xs.length + 1) c') (xs.length + 1) (xs ++ [bv x]) ∧ Below B w w' := by
  have hsee := see_any b s x w hb hr
  have hne : b ≠ bo := by
    intro e; subst e; rw [hb] at hbo; unfold stV at hbo; simp at hbo
  have hown := own_ne_st hO hb
  have HB0 := Lib.hid hbo
  have HO := Lib.hid hO
  have hbB := lt_of_block hb
  have hboB := lt_of_block hbo
  clear hb hbo hO
  go_enter Tryz.func195, Tryz.ntmps195
  go_wp2_with fail
  refine hsee.mono ?_
  rintro e w1 ⟨rfl, hb1, hg1⟩
  have hbo1 := blk_grown HB0.out hg1 (by simpa using hne)
  have hO1 := HO.out.kept hg1 (.inr hown)
  have hB1 : Below B w w1 := (Below.refl _ _).grown hg1 (by omega) (by intro k hk; cases hk; exact hBb)
  have hc1 := cell_of_one hbo1
  have HB1 := Lib.hid hb1
  have HBO1 := Lib.hid hbo1
  have HO1 := Lib.hid hO1
  clear hsee hb1 hbo1 hO1
  go_wp2_with (at_builtin; refine ap1 B rfl _ _ _ _ _ _ rfl Tryz.underlying23 info5 rfl (by decide) (.slice A xs.length c) xs (bv x) rfl rfl rfl HO1.out hB1 (by have := hB1.size; omega) (by omega) ?_; intro A2 c2 w2 hO2 hB2 hg2 _; have hbo2 := blk_grown HBO1.out hg2 (own_ne HO1.out HBO1.out (by decide)); have hc2 := cell_of_one hbo2; have hf2 := free_of_one hbo2)
  have hst2 := blk_grown HB1.out hg2 (own_ne_st HO1.out HB1.out)
  have hne' : bo ≠ b := fun e => hne e.symm
  have HST := Lib.hid hst2
  have HO2 := Lib.hid hO2
  have HBO2 := Lib.hid hbo2
  clear hst2 hO2 hbo2
  go_wp2
  go_end0
  refine ⟨rfl, A2, c2, blk_other HST.out _ _ hne, one_setCell HBO2.out, HO2.out.kept (grown_set _ ⟨bo, 0, none⟩ _) (.inr (own_ne HO2.out HBO2.out (by decide))), hB2.setCell (p := ⟨bo, 0, none⟩) hBo _⟩
end Go.Proofs.YtnfnjmllgklaaaaGreat

/- stuff.Put. -/
namespace Go.Proofs.YtnfnjmllgklaaaaGreat
open Go Go.RowKit Go.Shelf Om
theorem stuffGo_full (s : Sst) (b : Bool) (r : List Bool) (h : s.run = 5) : stuffGo s (b :: r) = (!s.last) :: b :: stuffGo ((s.see (!s.last)).see b) r := by rw [stuffGo, if_pos h]
theorem stuffGo_free (s : Sst) (b : Bool) (r : List Bool) (h : ¬ s.run = 5) : stuffGo s (b :: r) = b :: stuffGo (s.see b) r := by rw [stuffGo, if_neg h]
theorem one_bi (b : Bool) : (1 : Int) - bi b = bi (!b) := by cases b <;> rfl

set_option maxRecDepth 100000 in
set_option maxHeartbeats 2000000 in
/-- stuff.Put. -/
theorem stuffput_any (D : Option Addr) (cap : Nat) (l : List Bool) (w : World) (hr : Rd w D (bitsV l)) (hl : l.length ≤ 32768) :
    Calls Tryz.prog 150 #[.slice D l.length cap] w (Row2Post 5 w.heap.size (bitsV (stuffed l)) w) := by
  have hck := check_ok D cap l w hr (by omega)
  have hD : ∀ ad, D = some ad → l ≠ [] → ad.block < w.heap.size := fun ad e hne => by subst e; exact hr.lt (by intro h; apply hne; simpa [bitsV] using h)
  have hsl : (stuffed l).length ≤ 2 * l.length := stuffGo_length l _
  have HR := Lib.hid hr
  clear hr
  obtain ⟨i0, hi, hzz⟩ := Option.map_eq_some_iff.1 info5
  simp only [Prod.mk.injEq] at hzz
  go_enter Tryz.func150, Tryz.ntmps150
  go_wp2_with fail
  refine hck.mono ?_
  rintro e w1 ⟨rfl, rfl⟩
  have hcc : (l.length : Int) + (l.length : Int) / 4 ≤ 9223372036854775807 := by omega
  have hcd : 0 ≤ (l.length : Int) + (l.length : Int) / 4 := by omega
  clear hck
  go_wp2_with (at_make; refine wpList_make_own _ rfl _ _ _ rfl w1.heap.size 5 i0 (.int .u8 0) 1 Tryz.underlying23 hi hzz.1 hzz.2.1 .i64 .i64 _ (l.length + l.length / 4) rfl rfl (by omega) (by rw [hzz.2.2]; omega) (by unfold maxLen; omega) (by simp) ?_; intro w2 hO2 hg2)
  have hsz2 : w1.heap.size + 1 ≤ w2.heap.size := by have := hg2.size; simp at this; omega
  have hst2 : w2.heap[w1.heap.size]? = some (stV Sst.start) := blk_grown (heap_alloc_new w1 _) hg2 (by simp)
  have hB2 : Below w1.heap.size w1 w2 := ((Below.refl _ _).alloc (Nat.le_refl _) _).grown hg2 (by simp) (by simp)
  rw [World.size_alloc] at hO2
  generalize l.length + l.length / 4 = C0 at *
  have HO2 := Lib.hid hO2
  have HST2 := Lib.hid hst2
  have hsl' : (stuffed l).length ≤ 65536 := by omega
  clear hi hzz hO2 hst2 hg2 hcc hcd
  go_loopw [25] (fun i W => ∃ (k : Nat) (s : Sst) (A : Option Addr) (c : Nat) (ys : List Bool), k ≤ l.length ∧ i = .int .i64 k ∧ s.run ≤ 5 ∧ ys ++ stuffGo s (l.drop k) = stuffed l ∧
      W.heap[w1.heap.size]? = some (stV s) ∧ W.heap[w2.heap.size]? = some (.cells #[.slice A (bitsV ys).length c] 23 (0, 0)) ∧ W.ownsRow w1.heap.size 5 1 (.slice A (bitsV ys).length c) (bitsV ys).length (bitsV ys) ∧ Below w1.heap.size w1 W) (fun i _ => l.length - (intOf i).toNat)
  case atStart => exact ⟨0, Sst.start, some ⟨w1.heap.size + 1, 0, none⟩, C0, [], Nat.zero_le _, rfl, by decide, rfl, blk_alloc HST2.out _, heap_alloc_new w2 _, (show w2.ownsRow w1.heap.size 5 1 (.slice (some ⟨w1.heap.size + 1, 0, none⟩) 0 C0) 0 [] from HO2.out).alloc _, hB2.alloc hB2.size _⟩
  case round =>
    obtain ⟨k, s, A, c, ys, hk, rfl, hs5, hys, hst, hbo, hO, hB⟩ := hrel
    have hyl : ys.length ≤ 65536 := by have := congrArg List.length hys; simp at this; omega
    by_cases hlt : k < l.length
    · obtain ⟨ad, rfl, hc⟩ := (HR.out.kept hB).bit k hlt
      have hdr : l.drop k = l.getD k false :: l.drop (k + 1) := by rw [List.drop_eq_getElem_cons hlt, List.getD_eq_getElem?_getD, List.getElem?_eq_getElem hlt]; rfl
      rw [hdr] at hys
      generalize l.getD k false = y at hc hys
      simp only [bv] at hc
      have hfull := full_any w1.heap.size s wr hst
      have HYS := Lib.hid hys
      have HST := Lib.hid hst
      have HBO := Lib.hid hbo
      have HO := Lib.hid hO
      clear hys hst hbo hO hdr
      go_wp2_with fail
      refine hfull.mono ?_
      rintro e w3 ⟨rfl, rfl⟩
      clear hfull
      by_cases h5 : s.run = 5
      · have hdec : decide (s.run = 5) = true := by simpa using h5
        have h1 := addb_any w1.heap.size w1.heap.size w2.heap.size s (!s.last) A c (bitsV ys) w3 HST.out HBO.out HO.out (Nat.le_refl _) (by omega) (by omega) (by rw [bitsV_length]; omega)
        have hcl : w3.cell? ⟨w1.heap.size, 0, none⟩ = some (.int .u8 (bi s.last)) := by rw [blk_cell HST.out]; rfl
        have hob := one_bi s.last
        go_wp2_with fail
        refine h1.mono ?_
        rintro e w4 ⟨rfl, A4, c4, hst4, hbo4, hO4, hB4⟩
        have hyn : bitsV ys ++ [bv (!s.last)] = bitsV (ys ++ [!s.last]) := by simp [bitsV]
        have hyl1 : (bitsV ys).length + 1 = (bitsV (ys ++ [!s.last])).length := by simp [bitsV]
        rw [hyl1] at hbo4
        rw [hyl1, hyn] at hO4
        have h2 := addb_any w1.heap.size w1.heap.size w2.heap.size (s.see (!s.last)) y A4 c4 (bitsV (ys ++ [!s.last])) w4 hst4 hbo4 hO4 (Nat.le_refl _) (by omega) (by rw [see_other]; simp) (by rw [bitsV_length]; simp; omega)
        have hB4' := hB.trans hB4
        have hs2 : ((s.see (!s.last)).see y).run ≤ 5 := (see_le _ _ (by rw [see_other]; simp)).1
        have hgo := stuffGo_full s y (l.drop (k + 1)) h5
        have HGO := Lib.hid hgo
        clear h1 hcl hob hyn hyl1 hst4 hbo4 hO4 hgo
        go_wp2_with fail
        refine h2.mono ?_
        rintro e w5 ⟨rfl, A5, c5, hst5, hbo5, hO5, hB5⟩
        have HS5 := Lib.hid hst5
        have HBO5 := Lib.hid hbo5
        have HO5 := Lib.hid hO5
        have hyl5 : (bitsV (ys ++ [!s.last])).length + 1 = (bitsV (ys ++ [!s.last, y])).length := by simp [bitsV]
        have hyn5 : bitsV (ys ++ [!s.last]) ++ [bv y] = bitsV (ys ++ [!s.last, y]) := by simp [bitsV]
        have HL5 := Lib.hid hyl5
        have HN5 := Lib.hid hyn5
        clear h2 hst5 hbo5 hO5 hyl5 hyn5
        go_wp2
        go_roundw
        case rel =>
          refine ⟨k + 1, (s.see (!s.last)).see y, A5, c5, ys ++ [!s.last, y], by omega, by go_num, hs2, ?_, HS5.out, ?_, ?_, hB4'.trans hB5⟩
          · rw [← HYS.out, HGO.out]; simp
          · rw [← HL5.out]; exact HBO5.out
          · rw [← HL5.out, ← HN5.out]; exact HO5.out
        case measure => simp [intOf]; omega
      · have hdec : decide (s.run = 5) = false := by simpa using h5
        have h2 := addb_any w1.heap.size w1.heap.size w2.heap.size s y A c (bitsV ys) w3 HST.out HBO.out HO.out (Nat.le_refl _) (by omega) (by omega) (by rw [bitsV_length]; omega)
        have hs2 : (s.see y).run ≤ 5 := (see_le _ _ (by omega)).1
        have hgo := stuffGo_free s y (l.drop (k + 1)) h5
        have HGO := Lib.hid hgo
        clear hgo
        go_wp2_with fail
        refine h2.mono ?_
        rintro e w5 ⟨rfl, A5, c5, hst5, hbo5, hO5, hB5⟩
        have HS5 := Lib.hid hst5
        have HBO5 := Lib.hid hbo5
        have HO5 := Lib.hid hO5
        have hyl5 : (bitsV ys).length + 1 = (bitsV (ys ++ [y])).length := by simp [bitsV]
        have hyn5 : bitsV ys ++ [bv y] = bitsV (ys ++ [y]) := by simp [bitsV]
        have HL5 := Lib.hid hyl5
        have HN5 := Lib.hid hyn5
        clear h2 hst5 hbo5 hO5 hyl5 hyn5
        go_wp2
        go_roundw
        case rel =>
          refine ⟨k + 1, s.see y, A5, c5, ys ++ [y], by omega, by go_num, hs2, ?_, HS5.out, ?_, ?_, hB.trans hB5⟩
          · rw [← HYS.out, HGO.out]; simp
          · rw [← HL5.out]; exact HBO5.out
          · rw [← HL5.out, ← HN5.out]; exact HO5.out
        case measure => simp [intOf]; omega
    · obtain rfl : k = l.length := by omega
      have hys' : ys = stuffed l := by rw [← hys]; simp [stuffGo]
      subst hys'
      have hco := cell_of_one hbo
      have hle : ¬ (((bitsV (stuffed l)).length : Nat) : Int) > 65536 := by rw [bitsV_length]; omega
      have HO := Lib.hid hO
      clear hst hbo hO hys
      go_wp2
      go_ret2
      exact ⟨A, c, rfl, HO.out, hB⟩
end Go.Proofs.YtnfnjmllgklaaaaGreat
