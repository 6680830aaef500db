/- stuff.split, stuff.Count. -/
import Derived.Test.YtnfnjmllgklaaaaGreatKStuff
set_option linter.unusedVariables false
set_option linter.unusedSimpArgs false
namespace Om
theorem splitGo_full_bad (s : Sst) (f b : Bool) (r : List Bool) (h : s.run = 5) (hb : b = s.last) : splitGo s f (b :: r) = none := by rw [splitGo, if_pos h, if_pos hb]
theorem splitGo_full (s : Sst) (f b : Bool) (r : List Bool) (h : s.run = 5) (hb : ¬ b = s.last) : splitGo s f (b :: r) = (splitGo (s.see b) true r).map fun x => (x.1, x.2.1 + 1, x.2.2) := by rw [splitGo, if_pos h, if_neg hb]
theorem splitGo_free (s : Sst) (f b : Bool) (r : List Bool) (h : ¬ s.run = 5) : splitGo s f (b :: r) = (splitGo (s.see b) false r).map fun x => (b :: x.1, x.2.1, x.2.2) := by rw [splitGo, if_neg h]
/-- What is told so far, and what is to come. -/
def splitOn (xs : List Bool) (n : Nat) (o : Option (List Bool × Nat × Bool)) : Option (List Bool × Nat × Bool) := o.map fun x => (xs ++ x.1, n + x.2.1, x.2.2)
end Om
namespace Go.Proofs.YtnfnjmllgklaaaaGreat
open Go Go.RowKit Go.Shelf Om

/-- The three results' cells. -/
structure SplitAt (W : World) (B : Nat) (xs : List Bool) (n : Nat) (f : Bool) (A : Option Addr) (c : Nat) : Prop where
  out : W.heap[B]? = some (.cells #[.slice A (bitsV xs).length c] 23 (0, 0))
  num : W.heap[B + 1]? = some (.cells #[.int .i64 (n : Nat)] 3 (0, 0))
  last : W.heap[B + 1 + 1]? = some (.cells #[.bool f] 4 (0, 0))
  row : W.ownsRow B 5 1 (.slice A (bitsV xs).length c) (bitsV xs).length (bitsV xs)

theorem st_ne {W : World} {b k : Nat} {s : Sst} {v : Value} {t : TypeId} {f : Nat × Nat} (hb : W.heap[b]? = some (stV s)) (hk : W.heap[k]? = some (.cells #[v] t f)) : b ≠ k := by
  intro e
  subst e
  rw [hb] at hk
  unfold stV at hk
  simp at hk
set_option maxRecDepth 100000 in
set_option maxHeartbeats 1000000 in
theorem split1_any (B : Nat) (at_ : Int) (x st f : Bool) (n : Nat) (xs : List Bool) (A : Option Addr) (c : Nat) (w : World) (h : SplitAt w B xs n f A c) (hn : n ≤ 10000000) (hx : xs.length ≤ 10000000) :
    Calls Tryz.prog 283 #[.int .i64 at_, .int .u8 (bi x), .bool st, .pointer (some ⟨B + 1 + 1, 0, none⟩), .pointer (some ⟨B + 1, 0, none⟩), .pointer (some ⟨B, 0, none⟩)] w fun e w' =>
      e = .returned (.bool true) ∧ (∃ A' c', SplitAt w' B (if st then xs else xs ++ [x]) (if st then n + 1 else n) st A' c') ∧ Below B w w' ∧ ∀ (b : Nat) (s : Sst), w.heap[b]? = some (stV s) → w'.heap[b]? = some (stV s) := by
  obtain ⟨h1, h2, h3, h4⟩ := h
  have hl1 := lt_of_block h1
  have hl2 := lt_of_block h2
  have hl3 := lt_of_block h3
  have c3 := cell_of_one h3
  have f3 := free_of_one h3
  have c2 := cell_of_one h2
  have f2 := free_of_one h2
  have c1 := cell_of_one h1
  have f1 := free_of_one h1
  have HO := Lib.hid h1
  have HN := Lib.hid h2
  have HL := Lib.hid h3
  have HR := Lib.hid h4
  clear h1 h2 h3 h4
  cases st
  · go_enter Tryz.func283, Tryz.ntmps283
    have hbl : (w.setCell ⟨B + 1 + 1, 0, none⟩ (.bool false)).heap[B]? = some (.cells #[.slice A (bitsV xs).length c] 23 (0, 0)) := blk_other HO.out _ _ (by simp; omega)
    have hrw := HR.out.kept (grown_set w ⟨B + 1 + 1, 0, none⟩ (.bool false)) (.inr (own_ne HR.out HL.out (by decide)))
    have hBw : Below B w (w.setCell ⟨B + 1 + 1, 0, none⟩ (.bool false)) := (Below.refl _ _).setCell (p := ⟨B + 1 + 1, 0, none⟩) (by simp; omega) _
    have HBL := Lib.hid hbl
    have HRW := Lib.hid hrw
    clear hbl hrw
    go_wp2_with (at_builtin; go_loud (refine ap1 B rfl (.tmp 14) (.tmp 16) _ _ _ _ rfl Tryz.underlying23 info5 rfl (by decide) (.slice A (bitsV xs).length c) (bitsV xs) (bv x) rfl (show Value.slice (some ⟨w.heap.size, 0, none⟩) 1 1 = Value.slice (some ⟨(w.setCell ⟨B + 1 + 1, 0, none⟩ (.bool false)).heap.size, 0, none⟩) 1 1 by simp) rfl HRW.out hBw (by simp; omega) (by rw [bitsV_length]; omega) ?_); intro A2 c2' w2 hO2 hB2 hg2 _; have hbo2 := blk_grown HBL.out hg2 (own_ne HRW.out HBL.out (by decide)); have hc2 := cell_of_one hbo2; have hf2 := free_of_one hbo2)
    have hn2 := blk_grown (blk_other HN.out ⟨B + 1 + 1, 0, none⟩ (.bool false) (by simp)) hg2 (own_ne HRW.out (blk_other HN.out _ _ (by simp)) (by decide))
    have hl2' := blk_grown (one_setCell (u := .bool false) HL.out) hg2 (own_ne HRW.out (one_setCell (u := .bool false) HL.out) (by decide))
    have hyl : (bitsV xs).length + 1 = (bitsV (xs ++ [x])).length := by simp [bitsV]
    have hyn : bitsV xs ++ [bv x] = bitsV (xs ++ [x]) := by simp [bitsV]
    have HN2 := Lib.hid hn2
    have HL2 := Lib.hid hl2'
    have HBO2 := Lib.hid hbo2
    have HO2 := Lib.hid hO2
    have HYL := Lib.hid hyl
    have HYN := Lib.hid hyn
    clear hn2 hl2' hbo2 hO2 hyl hyn
    go_wp2
    go_ret
    refine ⟨rfl, ⟨A2, c2', ?_, ?_, ?_, ?_⟩, hB2.setCell (p := ⟨B, 0, none⟩) (Nat.le_refl _) _, fun b s hb => ?_⟩
    · rw [← HYL.out]; exact one_setCell HBO2.out
    · exact blk_other HN2.out _ _ (by simp)
    · exact blk_other HL2.out _ _ (by simp; omega)
    · rw [← HYL.out, ← HYN.out]; exact HO2.out.kept (grown_set _ ⟨B, 0, none⟩ _) (.inr (own_ne HO2.out HBO2.out (by decide)))
    · have hb1 : (w.setCell ⟨B + 1 + 1, 0, none⟩ (.bool false)).heap[b]? = some (stV s) := blk_other hb _ _ (st_ne hb HL.out)
      exact blk_other (blk_grown hb1 hg2 (own_ne_st HRW.out hb1)) _ _ (st_ne hb HO.out)
  · go_enter Tryz.func283, Tryz.ntmps283
    go_wp2
    go_ret
    refine ⟨rfl, ⟨A, c, ?_, ?_, ?_, ?_⟩, ((Below.refl _ _).setCell (p := ⟨B + 1 + 1, 0, none⟩) (by simp; omega) _).setCell (p := ⟨B + 1, 0, none⟩) (by simp) _, fun b s hb => blk_other (blk_other hb _ _ (st_ne hb HL.out)) _ _ (st_ne hb HN.out)⟩
    · exact blk_other (blk_other HO.out _ _ (by simp; omega)) _ _ (by simp)
    · exact one_setCell (blk_other HN.out _ _ (by simp))
    · exact blk_other (one_setCell HL.out) _ _ (by simp)
    · exact (HR.out.kept (grown_set _ ⟨B + 1 + 1, 0, none⟩ _) (.inr (own_ne HR.out HL.out (by decide)))).kept (grown_set _ ⟨B + 1, 0, none⟩ _) (.inr (own_ne HR.out HN.out (by decide)))

theorem splitAt_kept {W W' : World} {B : Nat} {xs : List Bool} {n : Nat} {f : Bool} {A : Option Addr} {c : Nat} (h : SplitAt W B xs n f A c) {b : Nat} {s : Sst} (hs : W.heap[b]? = some (stV s)) (hg : W.grownBy W' (some b)) : SplitAt W' B xs n f A c := by
  have hne : ∀ {k : Nat} {v : Value} {t : TypeId}, W.heap[k]? = some (.cells #[v] t (0, 0)) → some b ≠ some k := by
    intro k v t hk e
    cases e
    rw [hs] at hk
    unfold stV at hk
    simp at hk
  exact ⟨blk_grown h.out hg (hne h.out), blk_grown h.num hg (hne h.num), blk_grown h.last hg (hne h.last), h.row.kept hg (.inr (own_ne_st h.row hs))⟩

set_option maxRecDepth 100000 in
set_option maxHeartbeats 2000000 in
/-- stuff.read, as stuff.split asks it. -/
theorem read_any (B : Nat) (D : Option Addr) (cap : Nat) (raw : List Bool) (A : Option Addr) (c : Nat) (w : World) (h : SplitAt w B [] 0 false A c) (hr : Rd w D (bitsV raw)) (hD : ∀ ad, D = some ad → raw ≠ [] → ad.block < B) (hl : raw.length ≤ 100000) :
    Calls Tryz.prog 282 #[.slice D raw.length cap, .func (.func 283) #[] #[.pointer (some ⟨B + 1 + 1, 0, none⟩), .pointer (some ⟨B + 1, 0, none⟩), .pointer (some ⟨B, 0, none⟩)]] w fun e w' =>
      Below B w w' ∧ ((e = .returned (.int .i64 0) ∧ ∃ r A' c', splitGo Sst.start false raw = some r ∧ SplitAt w' B r.1 r.2.1 r.2.2 A' c') ∨ (e = .returned (.int .i64 4) ∧ splitGo Sst.start false raw = none ∧ ∃ xs n f A' c', SplitAt w' B xs n f A' c')) := by
  have hbw := lt_of_block h.out
  have HR := Lib.hid hr
  have H0 := Lib.hid h
  clear hr h
  go_enter Tryz.func282, Tryz.ntmps282
  go_wp2
  go_loopw [11] (fun i W => ∃ (k : Nat) (s : Sst) (A : Option Addr) (c : Nat) (xs : List Bool) (n : Nat) (f : Bool), k ≤ raw.length ∧ i = .int .i64 k ∧ s.run ≤ 5 ∧ xs.length ≤ k ∧ n ≤ k ∧ splitGo Sst.start false raw = splitOn xs n (splitGo s f (raw.drop k)) ∧
      W.heap[w.heap.size]? = some (stV s) ∧ SplitAt W B xs n f A c ∧ Below B w W) (fun i _ => raw.length - (intOf i).toNat)
  case atStart =>
    refine ⟨0, Sst.start, A, c, [], 0, false, Nat.zero_le _, rfl, by decide, by simp, by simp, ?_, heap_alloc_new w _, ?_, (Below.refl _ _).alloc (by omega) _⟩
    · simp [splitOn]
    · exact ⟨blk_alloc H0.out.out _, blk_alloc H0.out.num _, blk_alloc H0.out.last _, H0.out.row.alloc _⟩
  case round =>
    obtain ⟨k, s, A, c, xs, n, f, hk, rfl, hs5, hxs, hn, hsp, hst, hat, hB⟩ := hrel
    by_cases hlt : k < raw.length
    · obtain ⟨ad, rfl, hc⟩ := (HR.out.below (fun ad e hne => hD ad e (by intro h; apply hne; simp [h, bitsV])) hB).bit k hlt
      have hdr : raw.drop k = raw.getD k false :: raw.drop (k + 1) := by rw [List.drop_eq_getElem_cons hlt, List.getD_eq_getElem?_getD, List.getElem?_eq_getElem hlt]; rfl
      rw [hdr] at hsp
      generalize raw.getD k false = y at hc hsp
      simp only [bv] at hc
      have hfull := full_any w.heap.size s wr hst
      have hsee := see_any w.heap.size s y wr hst (by omega)
      have hcl : wr.cell? ⟨w.heap.size, 0, none⟩ = some (.int .u8 (bi s.last)) := by rw [blk_cell hst]; rfl
      have hyl := bi_eq y s.last
      have HSP := Lib.hid hsp
      have HST := Lib.hid hst
      have HAT := Lib.hid hat
      clear hsp hst hat hdr
      go_wp2_with fail
      refine hfull.mono ?_
      rintro e w3 ⟨rfl, rfl⟩
      clear hfull
      by_cases h5 : s.run = 5
      · have hdec : decide (s.run = 5) = true := by simpa using h5
        by_cases hy : y = s.last
        · have hyt : (bi y == bi s.last) = true := by rw [hyl]; simpa using hy
          have hnone : splitGo Sst.start false raw = none := by rw [HSP.out, splitGo_full_bad s f y _ h5 hy]; rfl
          have HN := Lib.hid hnone
          clear hnone hsee hyl hy
          go_wp2
          go_ret
          exact ⟨hB, .inr ⟨rfl, HN.out, xs, n, f, A, c, HAT.out⟩⟩
        · have hyt : (bi y == bi s.last) = false := by rw [hyl]; simpa using hy
          have hgo : splitGo Sst.start false raw = splitOn xs (n + 1) (splitGo (s.see y) true (raw.drop (k + 1))) := by
            rw [HSP.out, splitGo_full s f y _ h5 hy, splitOn, splitOn, Option.map_map]; congr 1; funext x; simp; omega
          have hs2 : (s.see y).run ≤ 5 := by
            unfold Sst.see; rw [if_neg (fun e => hy e.2.symm)]; simp
          have HGO := Lib.hid hgo
          clear hgo hyl hy
          go_wp2_with fail
          refine hsee.mono ?_
          rintro e w4 ⟨rfl, hst4, hg4⟩
          have hat4 := splitAt_kept HAT.out HST.out hg4
          have hB4 := hB.grown hg4 (by have := hB.size; omega) (by intro k hk; cases hk; omega)
          have hs1 := split1_any B k y true f n xs A c w4 hat4 (by omega) (by omega)
          have HST4 := Lib.hid hst4
          clear hsee hcl hst4 hat4
          go_wp2_with fail
          refine hs1.mono ?_
          rintro e w5 ⟨rfl, ⟨A5, c5, hat5⟩, hB5, hkeep⟩
          have hst5 := hkeep _ _ HST4.out
          have HST5 := Lib.hid hst5
          have HAT5 := Lib.hid hat5
          clear hs1 hst5 hat5 hkeep
          go_wp2
          go_roundw
          case rel => exact ⟨k + 1, s.see y, A5, c5, xs, n + 1, true, by omega, by go_num, hs2, by omega, by omega, HGO.out, HST5.out, HAT5.out, hB4.trans hB5⟩
          case measure => simp [intOf]; omega
      · have hdec : decide (s.run = 5) = false := by simpa using h5
        have hgo : splitGo Sst.start false raw = splitOn (xs ++ [y]) n (splitGo (s.see y) false (raw.drop (k + 1))) := by
          rw [HSP.out, splitGo_free s f y _ h5, splitOn, splitOn, Option.map_map]; congr 1; funext x; simp
        have hs2 : (s.see y).run ≤ 5 := (see_le _ _ (by omega)).1
        have HGO := Lib.hid hgo
        clear hgo hyl
        go_wp2_with fail
        refine hsee.mono ?_
        rintro e w4 ⟨rfl, hst4, hg4⟩
        have hat4 := splitAt_kept HAT.out HST.out hg4
        have hB4 := hB.grown hg4 (by have := hB.size; omega) (by intro k hk; cases hk; omega)
        have hs1 := split1_any B k y false f n xs A c w4 hat4 (by omega) (by omega)
        have HST4 := Lib.hid hst4
        clear hsee hcl hst4 hat4
        go_wp2_with fail
        refine hs1.mono ?_
        rintro e w5 ⟨rfl, ⟨A5, c5, hat5⟩, hB5, hkeep⟩
        have hst5 := hkeep _ _ HST4.out
        have HST5 := Lib.hid hst5
        have HAT5 := Lib.hid hat5
        clear hs1 hst5 hat5 hkeep
        go_wp2
        go_roundw
        case rel => exact ⟨k + 1, s.see y, A5, c5, xs ++ [y], n, false, by omega, by go_num, hs2, by simp; omega, by omega, HGO.out, HST5.out, HAT5.out, hB4.trans hB5⟩
        case measure => simp [intOf]; omega
    · obtain rfl : k = raw.length := by omega
      have hsome : splitGo Sst.start false raw = some (xs, n, f) := by rw [hsp]; simp [splitGo, splitOn]
      have HS := Lib.hid hsome
      have HAT := Lib.hid hat
      clear hsp hst hat hsome
      go_wp2
      go_ret
      exact ⟨hB, .inl ⟨rfl, (xs, n, f), A, c, HS.out, HAT.out⟩⟩
end Go.Proofs.YtnfnjmllgklaaaaGreat
