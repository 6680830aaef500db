/- stuff.split, stuff.Count. -/
import Derived.Test.YtnfnjmllgklaaaaGreatKSplit
set_option linter.unusedVariables false
set_option linter.unusedSimpArgs false
namespace Go.Proofs.YtnfnjmllgklaaaaGreat
open Go Go.RowKit Go.Shelf Om

/-- To store what is there turns nothing. -/
theorem below_self {W : World} {b : Nat} {v : Value} {t : TypeId} (h : W.heap[b]? = some (.cells #[v] t (0, 0))) : Below W.heap.size W (W.setCell ⟨b, 0, none⟩ v) :=
  ⟨rfl, rfl, rfl, by simp, fun k _ => by
    by_cases e : k = b
    · subst e; rw [one_setCell h, h]
    · exact Below.heap_setCell W ⟨b, 0, none⟩ v k e⟩
set_option maxRecDepth 100000 in
set_option maxHeartbeats 2000000 in
theorem split_any (D : Option Addr) (cap : Nat) (raw : List Bool) (w : World) (hr : Rd w D (bitsV raw)) (hl : raw.length ≤ 65536) :
    Calls Tryz.prog 280 #[.slice D raw.length cap] w fun e w' => ∃ (v : Value) (n : Nat) (f : Bool) (er : Int), e = .returned (.tuple #[v, .int .i64 n, .bool f, .int .i64 er]) ∧ Below w.heap.size w w' ∧
      ((er = 0 ∧ ∃ r, splitGo Sst.start false raw = some r ∧ n = r.2.1) ∨ (er = 4 ∧ splitGo Sst.start false raw = none)) := by
  have hD : ∀ ad, D = some ad → raw ≠ [] → ad.block < w.heap.size := fun ad e hne => by subst e; exact hr.lt (by intro h; apply hne; simpa [bitsV] using h)
  have hck := fun W (hB : Below w.heap.size w W) => check_ok D cap raw W (hr.kept hB) (by omega)
  obtain ⟨w0, hw0⟩ : ∃ w0, w0 = ((w.alloc (.cells #[.slice none 0 0] 23)).alloc (.cells #[.int .i64 0] 3)).alloc (.cells #[.bool false] 4) := ⟨_, rfl⟩
  have hB0 : Below w.heap.size w w0 := by rw [hw0]; exact (((Below.refl _ _).alloc (Nat.le_refl _) _).alloc (by simp) _).alloc (by simp; omega) _
  have hat : SplitAt w0 w.heap.size [] 0 false none 0 := by
    rw [hw0]
    refine ⟨blk_alloc (blk_alloc (heap_alloc_new w _) _) _, blk_alloc (heap_alloc2_new w _ _) _, ?_, own_nil _ _ _⟩
    have := heap_alloc_new ((w.alloc (.cells #[.slice none 0 0] 23)).alloc (.cells #[.int .i64 0] 3)) (.cells #[.bool false] 4)
    simpa using this
  have hread := read_any w.heap.size D cap raw none 0 w0 hat (hr.kept hB0) hD (by omega)
  have HC := Lib.hid hck
  have HRD := Lib.hid hread
  have hck0 := hck _ hB0
  clear hck hread hat hr
  go_enter Tryz.func280, Tryz.ntmps280
  go_wp2_with fail
  rw [← hw0]
  refine hck0.mono ?_
  rintro e w1 ⟨rfl, rfl⟩
  clear hck0 hw0
  go_wp2_with fail
  refine HRD.out.mono ?_
  rintro e w2 ⟨hB2, hcase⟩
  have hBw : Below w.heap.size w w2 := hB0.trans hB2
  obtain ⟨er, xs, n, f, A, c, rfl, hat, hpost⟩ : ∃ (er : Int) (xs : List Bool) (n : Nat) (f : Bool) (A : Option Addr) (c : Nat), e = .returned (.int .i64 er) ∧ SplitAt w2 w.heap.size xs n f A c ∧ ((er = 0 ∧ ∃ r, splitGo Sst.start false raw = some r ∧ n = r.2.1) ∨ (er = 4 ∧ splitGo Sst.start false raw = none)) := by
    rcases hcase with ⟨rfl, r, A, c, hs, ha⟩ | ⟨rfl, hs, xs, n, f, A, c, ha⟩
    · exact ⟨0, r.1, r.2.1, r.2.2, A, c, rfl, ha, .inl ⟨rfl, r, hs, rfl⟩⟩
    · exact ⟨4, xs, n, f, A, c, rfl, ha, .inr ⟨rfl, hs⟩⟩
  have c1 := cell_of_one hat.out
  have c2 := cell_of_one hat.num
  have c3 := cell_of_one hat.last
  have f1 := free_of_one hat.out
  have f2 := free_of_one hat.num
  have f3 := free_of_one hat.last
  have x1 := ext_cell_of c1
  have x2 := ext_cell_of c2
  have x3 := ext_cell_of c3
  have HAT := Lib.hid hat
  have HP := Lib.hid hpost
  clear hcase hat hpost HRD HC
  go_wp2
  refine wp_region_mix #[[], [], [], [], [0], [0, 1, 4], [0, 1, 2, 4, 5], [0, 1, 2, 3, 4, 5, 6]] [(0, 1), (1, 1), (2, 1), (3, 0), (4, 3), (5, 3), (6, 2), (7, 0)] (by kernel_rfl) (by kernel_rfl) ?_
  repeat ((first | refine mix_pu rfl (fun K hK => ?_) | refine mix_st rfl (fun K hK => ?_)); go_simp; refine hK _ ?_; clear hK K)
  refine mix_kp rfl ?_
  go_wp2
  refine ⟨below_self (W := w2.drew) HAT.out.out, ?_⟩
  refine mix_kp rfl ?_
  have hn1 : (w2.setCell ⟨w.heap.size, 0, none⟩ (.slice A (bitsV xs).length c)).heap[w.heap.size + 1]? = some (.cells #[.int .i64 (n : Nat)] 3 (0, 0)) := blk_other HAT.out.num _ _ (by simp)
  have HN1 := Lib.hid hn1
  clear hn1
  go_wp2
  refine ⟨below_self (W := (w2.setCell ⟨w.heap.size, 0, none⟩ (.slice A (bitsV xs).length c)).drew) HN1.out, ?_⟩
  refine mix_ef rfl ?_
  go_wp2
  change wpMix _ _ _ _ _ _
  refine mix_pu rfl (fun K hK => ?_); go_simp; refine hK _ ?_; clear hK K
  refine mix_end ?_
  go_wp2
  refine bodyPost_ret (v := .tuple #[.slice A (bitsV xs).length c, .int .i64 n, .bool f, .int .i64 er]) ?_ rfl ⟨_, n, f, er, rfl, ?_, HP.out⟩
  · have b1 := blk_other (blk_other (one_setCell (u := .slice A (bitsV xs).length c) HAT.out.out) ⟨w.heap.size + 1, 0, none⟩ (.int .i64 n) (by simp)) ⟨w.heap.size + 1 + 1, 0, none⟩ (.bool f) (by simp; omega)
    have b2 := blk_other (one_setCell (u := .int .i64 n) HN1.out) ⟨w.heap.size + 1 + 1, 0, none⟩ (.bool f) (by simp)
    have b3 := one_setCell (u := .bool f) (blk_other (blk_other HAT.out.last ⟨w.heap.size, 0, none⟩ (.slice A (bitsV xs).length c) (by simp; omega)) ⟨w.heap.size + 1, 0, none⟩ (.int .i64 n) (by simp))
    have e1 := cell_of_one b1
    have e2 := cell_of_one b2
    have e3 := cell_of_one b3
    clear b1 b2 b3
    show Sem.run _ _ _ = _
    generalize ((w2.setCell ⟨w.heap.size, 0, none⟩ (.slice A (bitsV xs).length c)).setCell ⟨w.heap.size + 1, 0, none⟩ (.int .i64 n)).setCell ⟨w.heap.size + 1 + 1, 0, none⟩ (.bool f) = X at *
    clear x1 x2 x3 c1 c2 c3 f1 f2 f3
    simp [results, Tryz.results280, go_sem, e1, e2, e3]
  · exact (((hBw.setCell (p := ⟨w.heap.size, 0, none⟩) (Nat.le_refl _) _).setCell (p := ⟨w.heap.size + 1, 0, none⟩) (by simp) _).setCell (p := ⟨w.heap.size + 1 + 1, 0, none⟩) (by simp; omega) _).drew

set_option maxRecDepth 100000 in
/-- stuff.Count: how many, and the error. -/
theorem count_any (D : Option Addr) (cap : Nat) (raw : List Bool) (w : World) (hr : Rd w D (bitsV raw)) (hl : raw.length ≤ 65536) :
    Calls Tryz.prog 275 #[.slice D raw.length cap] w fun e w' => ∃ er : Int, e = .returned (.tuple #[.int .i64 ((stuffCount raw).getD 0 : Nat), .int .i64 er]) ∧ (er = 0 ↔ (stuffCount raw).isSome = true) ∧ Below w.heap.size w w' := by
  have h := split_any D cap raw w hr hl
  clear hr
  go_enter Tryz.func275, Tryz.ntmps275
  go_wp2_with fail
  refine h.mono ?_
  rintro e w1 ⟨v, n, f, er, rfl, hB, ⟨rfl, r, hs, rfl⟩ | ⟨rfl, hs⟩⟩
  · have e1 : stuffCount raw = some r.2.1 := by unfold stuffCount; rw [hs]; rfl
    have E := Lib.hid e1
    clear hs e1 h
    go_wp2
    go_ret2
    exact ⟨0, by rw [E.out]; rfl, by rw [E.out]; simp, hB⟩
  · have e1 : stuffCount raw = none := by unfold stuffCount; rw [hs]; rfl
    have E := Lib.hid e1
    clear hs e1 h
    go_wp2
    go_ret2
    exact ⟨4, by rw [E.out]; rfl, by rw [E.out]; simp, hB⟩
end Go.Proofs.YtnfnjmllgklaaaaGreat
