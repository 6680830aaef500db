/- frame.bare, frame.Check. -/
import Derived.Test.YtnfnjmllgklaaaaGreatKSame
import Derived.Test.YtnfnjmllgklaaaaGreatKMixNo
set_option linter.unusedVariables false
set_option linter.unusedSimpArgs false
namespace Om
/-- A frame without what its kind may have. -/
def Frame.bare (f : Frame) : Frame :=
  if f.kind = 1 then { f with ext := false, rtr := false, id := 0, data := [] }
  else if f.kind = 2 then { f with brs := false, esi := false, id := 0, data := [] }
  else if f.kind = 3 then { f with sec := false, sdt := 0, vcid := 0, af := 0, id := 0, data := [] }
  else { f with id := 0, data := [] }
end Om
namespace Go.Proofs.YtnfnjmllgklaaaaGreat
open Go Go.RowKit Go.Shelf Om

set_option maxRecDepth 100000 in
set_option maxHeartbeats 2000000 in
theorem bare_any (f : Om.Frame) (D : Option Addr) (cap : Nat) (w : World) :
    Calls Tryz.prog 58 #[frV f D cap] w fun e w' => e = .returned (frV f.bare none 0) ∧ Below w.heap.size w w' := by
  have hB := fun o o' : Obj => ((Below.refl w.heap.size w).alloc (Nat.le_refl _) o).alloc (by simp) o'
  obtain ⟨k, i, e, r, b, s, x, t, v, a, d⟩ := f
  unfold frV
  dsimp only
  by_cases h1 : k = 1
  · subst h1
    go_enter Tryz.func58, Tryz.ntmps58
    go_wp2
    exact bodyPost_ret (v := frV ⟨1, 0, false, false, b, s, x, t, v, a, []⟩ none 0) (by simp [results, Tryz.results58, go_sem, frV]) rfl ⟨rfl, hB _ _⟩
  · by_cases h2 : k = 2
    · subst h2
      go_enter Tryz.func58, Tryz.ntmps58
      go_wp2
      exact bodyPost_ret (v := frV ⟨2, 0, e, r, false, false, x, t, v, a, []⟩ none 0) (by simp [results, Tryz.results58, go_sem, frV]) rfl ⟨rfl, hB _ _⟩
    · by_cases h3 : k = 3
      · subst h3
        go_enter Tryz.func58, Tryz.ntmps58
        go_wp2
        exact bodyPost_ret (v := frV ⟨3, 0, e, r, b, s, false, 0, 0, 0, []⟩ none 0) (by simp [results, Tryz.results58, go_sem, frV]) rfl ⟨rfl, hB _ _⟩
      · have e1 : (k == 1) = false := beq_eq_false_iff_ne.2 h1
        have e2 : (k == 2) = false := beq_eq_false_iff_ne.2 h2
        have e3 : (k == 3) = false := beq_eq_false_iff_ne.2 h3
        have hbr : (Om.Frame.bare ⟨k, i, e, r, b, s, x, t, v, a, d⟩) = ⟨k, 0, e, r, b, s, x, t, v, a, []⟩ := by unfold Om.Frame.bare; rw [if_neg h1, if_neg h2, if_neg h3]
        rw [hbr]
        clear h1 h2 h3 hbr
        go_enter Tryz.func58, Tryz.ntmps58
        go_wp2
        exact bodyPost_ret (v := frV ⟨k, 0, e, r, b, s, x, t, v, a, []⟩ none 0) (by simp [results, Tryz.results58, go_sem, frV]) rfl ⟨rfl, hB _ _⟩

theorem ok_bare (f : Om.Frame) : f.ok = ((codeOf f.kind f.data.length).isSome && decide (f.id < (if f.ext then 536870912 else 2048)) && !(f.rtr && decide (0 < f.data.length)) && decide (f.bare = { Om.Frame.zero with kind := f.kind })) := by
  obtain ⟨k, i, e, r, b, s, x, t, v, a, d⟩ := f
  have hd : (!d.isEmpty) = decide (0 < d.length) := by cases d <;> simp
  unfold Om.Frame.ok
  dsimp only
  rw [hd]
  by_cases h1 : k = 1
  · subst h1
    simp only [if_true]
    congr 1
    rw [Bool.eq_iff_iff]
    simp [Om.Frame.bare, Om.Frame.zero, and_assoc]
  · by_cases h2 : k = 2
    · subst h2
      simp only [show ((2 : Int) = 1) = False by simp, if_false, if_true]
      congr 1
      rw [Bool.eq_iff_iff]
      simp [Om.Frame.bare, Om.Frame.zero, and_assoc]
    · by_cases h3 : k = 3
      · subst h3
        simp only [show ((3 : Int) = 1) = False by simp, show ((3 : Int) = 2) = False by simp, if_false]
        congr 1
        rw [Bool.eq_iff_iff]
        simp [Om.Frame.bare, Om.Frame.zero, and_assoc]
      · have hn : codeOf k d.length = none := by unfold codeOf; rw [if_neg h1, if_neg h2, if_neg h3]
        rw [hn]
        simp
end Go.Proofs.YtnfnjmllgklaaaaGreat

/- frame.Check. -/
namespace Go.Proofs.YtnfnjmllgklaaaaGreat
open Go Go.RowKit Go.Shelf Om

theorem bare_data (f : Om.Frame) : f.bare.data = [] := by unfold Om.Frame.bare; split; rfl; split; rfl; split; rfl; rfl
/-- What frame.Check says, by what it asks. -/
theorem check_cases (f : Om.Frame) (lim : Nat) (hlim : lim = (if f.ext then 536870912 else 2048 : Nat)) :
    ((codeOf f.kind f.data.length).isSome = false ∧ f.ok = false) ∨
    ((codeOf f.kind f.data.length).isSome = true ∧ ((lim ≤ f.id ∧ f.ok = false) ∨ (f.id < lim ∧ ((f.rtr = true ∧ 0 < f.data.length ∧ f.ok = false) ∨
      (((f.rtr = false) ∨ (f.rtr = true ∧ f.data.length = 0)) ∧ f.ok = decide (f.bare = { Om.Frame.zero with kind := f.kind })))))) := by
  have h := ok_bare f
  rw [← hlim] at h
  cases h1 : (codeOf f.kind f.data.length).isSome
  · left; rw [h, h1]; exact ⟨rfl, rfl⟩
  · right
    refine ⟨rfl, ?_⟩
    rw [h1] at h
    by_cases h2 : f.id < lim
    · right
      refine ⟨h2, ?_⟩
      cases h3 : f.rtr
      · right; rw [h3] at h; rw [h]; simp [h2]
      · rw [h3] at h
        by_cases h4 : f.data.length = 0
        · right; rw [h]; simp [h2, h4]
        · left; exact ⟨rfl, by omega, by rw [h]; simp [h2, h4]⟩
    · left; rw [h]; simp [h2]; omega

set_option maxRecDepth 100000 in
set_option maxHeartbeats 8000000 in
/-- frame.Check. -/
theorem fcheckf_any (f : Om.Frame) (D : Option Addr) (cap : Nat) (w : World) (hl : f.data.length ≤ 1000000000000000) :
    Calls Tryz.prog 16 #[frV f D cap] w fun e w' => e = .returned (.int .i64 (if f.ok then 0 else 2)) ∧ Below w.heap.size w w' := by
  have hcode := fun w1 => code_any f.kind f.data.length w1 (by omega)
  have hbare := fun w1 => bare_any f D cap w1
  have hsame := fun w1 => same_any f.bare { Om.Frame.zero with kind := f.kind } none none 0 0 w1 (by rw [bare_data]; exact Rd.nil _ _) (Rd.nil _ _)
  unfold codeV at hcode
  have hk0 := heap_alloc_new w (.cells (frCells f D cap) 25)
  have hB0 := (Below.refl w.heap.size w).alloc (Nat.le_refl _) (.cells (frCells f D cap) 25)
  unfold frCells at hk0 hB0
  obtain ⟨lim, hlim⟩ : ∃ lim, lim = (if f.ext then 536870912 else 2048 : Nat) := ⟨_, rfl⟩
  have hcases := check_cases f lim hlim
  obtain ⟨fz, hfz⟩ : ∃ fz, fz = ({ Om.Frame.zero with kind := f.kind } : Om.Frame) := ⟨_, rfl⟩
  have hfzv : frV fz none 0 = .agg #[.int .i64 f.kind, .int .u32 0, .bool false, .bool false, .bool false, .bool false, .bool false, .int .u8 0, .int .u8 0, .int .u32 0, .slice none 0 0] := by rw [hfz]; rfl
  rw [← hfz] at hsame hcases
  rw [hfzv] at hsame
  obtain ⟨fb, hfb⟩ : ∃ fb, fb = f.bare := ⟨_, rfl⟩
  rw [← hfb] at hsame hbare hcases
  have hfl : fb.data.length = 0 := by rw [hfb, bare_data]; rfl
  obtain ⟨r, hr⟩ : ∃ r : Int, r = (if f.ok then 0 else 2) := ⟨_, rfl⟩
  rw [← hr]
  unfold frV at hsame hbare ⊢
  rw [hfl] at hsame hbare
  obtain ⟨er, her⟩ : ∃ er : Int, er = (if (codeOf f.kind f.data.length).isSome then 0 else 2) := ⟨_, rfl⟩
  rw [← her] at hcode
  clear hfz hfzv hfb hfl
  obtain ⟨x, hx⟩ : ∃ x, x = f.ext := ⟨_, rfl⟩
  rw [← hx] at hk0 hB0 hlim hbare ⊢
  obtain ⟨rt, hrt⟩ : ∃ x, x = f.rtr := ⟨_, rfl⟩
  rw [← hrt] at hk0 hB0 hcases hbare ⊢
  clear hx hrt
  rcases hcases with ⟨h1, h2⟩ | ⟨h1, ⟨h2, h3⟩ | ⟨h2, ⟨h4, h5, h6⟩ | ⟨h4, h6⟩⟩⟩
  · rw [h1] at her
    rw [h2] at hr
    simp only [Bool.false_eq_true, if_false] at her hr
    subst her hr
    clear h1 h2 hbare hsame
    cases x
    all_goals
      clear hlim
      go_enter Tryz.func16, Tryz.ntmps16
      go_wp2_with fail
      refine (hcode _).mono ?_
      rintro e w1 ⟨rfl, hB1⟩
      have HBW := Lib.hid (hB0.trans (hB1.mono (by simp)))
      clear hcode hk0 hB0 hB1
      go_wp2
      refine wp_region_mix #[[], [0], [0, 1], [0, 1, 2], [0, 1, 2, 3], [0, 1, 2], [0, 1, 2, 3, 4, 5], [0, 1, 2, 3, 4, 5, 6], [0, 1, 2, 3, 4, 5, 6, 7], [0, 1, 2, 3, 4, 5, 6, 7, 8], [0, 1, 2, 3, 4, 5, 6, 7, 8, 9], [0, 1, 2, 3, 4, 5, 6, 7, 8, 9, 10], [0, 1, 2, 3, 4, 5, 6, 7, 8, 9, 10, 11], [0, 1, 2, 3, 4, 5, 6, 7, 8, 9, 10, 11, 12], [0, 1, 2, 3, 4, 5, 6, 7, 8, 9, 10, 11, 12, 13], [0, 1, 2, 3, 4, 5, 6, 7, 8, 9, 10, 11, 12, 13, 14], [0, 1, 2, 3, 4, 5, 6, 7, 8, 9, 10, 11, 12, 13, 14, 15], [0, 1, 2, 3, 4, 5, 6, 7, 8, 9, 10, 11, 12, 13, 14, 15, 16], [0, 1, 2, 3, 4, 5, 6, 7, 8, 9, 10, 11, 12, 13, 14, 15, 16, 17], [0, 1, 2, 3, 4, 5, 6, 7, 8, 9, 10, 11, 12, 13, 14, 15, 16, 17, 18], [0, 1, 2, 3, 4, 5, 6, 7, 8, 9, 10, 11, 12, 13, 14, 15, 16, 17, 18, 19], [0, 1, 2, 3, 4, 5, 6, 7, 8, 9, 10, 11, 12, 13, 14, 15, 16, 17, 18], [0, 1, 2, 3, 4, 5, 6, 7, 8, 9, 10, 11, 12, 13, 14, 15, 16, 17, 18, 21], [0, 1, 2, 3, 4, 5, 6, 7, 8, 9, 10, 11, 12, 13, 14, 15, 16, 17, 18, 21, 22], [0, 1, 2, 3, 4, 5, 6, 7, 8, 9, 10, 11, 12, 13, 14, 15, 16, 17, 18, 19, 20, 21, 22, 23], [0, 1, 2, 3, 4, 5, 6, 7, 8, 9, 10, 11, 12, 13, 14, 15, 16, 17, 18, 19, 20, 21, 22, 23, 24], [0, 1, 2, 3, 4, 5, 6, 7, 8, 9, 10, 11, 12, 13, 14, 15, 16, 17, 18, 19, 20, 21, 22, 23, 24, 25]] [(0, 0), (1, 0), (2, 0), (3, 0), (4, 1), (5, 0), (6, 0), (7, 0), (8, 0), (9, 0), (10, 1), (11, 0), (12, 0), (13, 1), (14, 0), (15, 0), (16, 0), (17, 0), (18, 0), (19, 1), (21, 0), (22, 1), (23, 0), (20, 3), (24, 2), (25, 0), (26, 0)] (by kernel_rfl) (by kernel_rfl) ?_
      refine mg_in ?_
      repeat ((first | refine mg_py rfl rfl (fun K hK => ?_) | refine mg_sy rfl rfl (fun K hK => ?_) | refine mg_no rfl rfl (fun K hK => ?_)); go_simp; refine hK _ ?_; clear hK K)
      refine mg_end ?_
      go_wp2
      go_ret
      exact ⟨rfl, HBW.out.drew⟩
  · rw [h1] at her
    rw [h3] at hr
    simp only [Bool.false_eq_true, if_false, if_true] at her hr
    subst her hr
    clear h1 h3 hbare hsame
    cases x
    all_goals
      simp only [Bool.false_eq_true, if_false, if_true] at hlim
      subst hlim
      have hge : ((f.id : Nat) : Int) ≥ _ := Int.ofNat_le.2 h2
      simp only [Int.cast_ofNat_Int] at hge
      clear h2
      go_enter Tryz.func16, Tryz.ntmps16
      go_wp2_with fail
      refine (hcode _).mono ?_
      rintro e w1 ⟨rfl, hB1⟩
      have hk1 := blk_below hk0 hB1 (by simp)
      have x1 := ext_cell_of (show w1.cell? ⟨w.heap.size, 1, none⟩ = some (.int .u32 (f.id : Nat)) by rw [blk_cell hk1]; rfl)
      have HBW := Lib.hid (hB0.trans (hB1.mono (by simp)))
      clear hcode hk0 hB0 hB1 hk1
      go_wp2
      refine wp_region_mix #[[], [0], [0, 1], [0, 1, 2], [0, 1, 2, 3], [0, 1, 2], [0, 1, 2, 3, 4, 5], [0, 1, 2, 3, 4, 5, 6], [0, 1, 2, 3, 4, 5, 6, 7], [0, 1, 2, 3, 4, 5, 6, 7, 8], [0, 1, 2, 3, 4, 5, 6, 7, 8, 9], [0, 1, 2, 3, 4, 5, 6, 7, 8, 9, 10], [0, 1, 2, 3, 4, 5, 6, 7, 8, 9, 10, 11], [0, 1, 2, 3, 4, 5, 6, 7, 8, 9, 10, 11, 12], [0, 1, 2, 3, 4, 5, 6, 7, 8, 9, 10, 11, 12, 13], [0, 1, 2, 3, 4, 5, 6, 7, 8, 9, 10, 11, 12, 13, 14], [0, 1, 2, 3, 4, 5, 6, 7, 8, 9, 10, 11, 12, 13, 14, 15], [0, 1, 2, 3, 4, 5, 6, 7, 8, 9, 10, 11, 12, 13, 14, 15, 16], [0, 1, 2, 3, 4, 5, 6, 7, 8, 9, 10, 11, 12, 13, 14, 15, 16, 17], [0, 1, 2, 3, 4, 5, 6, 7, 8, 9, 10, 11, 12, 13, 14, 15, 16, 17, 18], [0, 1, 2, 3, 4, 5, 6, 7, 8, 9, 10, 11, 12, 13, 14, 15, 16, 17, 18, 19], [0, 1, 2, 3, 4, 5, 6, 7, 8, 9, 10, 11, 12, 13, 14, 15, 16, 17, 18], [0, 1, 2, 3, 4, 5, 6, 7, 8, 9, 10, 11, 12, 13, 14, 15, 16, 17, 18, 21], [0, 1, 2, 3, 4, 5, 6, 7, 8, 9, 10, 11, 12, 13, 14, 15, 16, 17, 18, 21, 22], [0, 1, 2, 3, 4, 5, 6, 7, 8, 9, 10, 11, 12, 13, 14, 15, 16, 17, 18, 19, 20, 21, 22, 23], [0, 1, 2, 3, 4, 5, 6, 7, 8, 9, 10, 11, 12, 13, 14, 15, 16, 17, 18, 19, 20, 21, 22, 23, 24], [0, 1, 2, 3, 4, 5, 6, 7, 8, 9, 10, 11, 12, 13, 14, 15, 16, 17, 18, 19, 20, 21, 22, 23, 24, 25]] [(0, 0), (1, 0), (2, 0), (3, 0), (4, 1), (5, 0), (6, 0), (7, 0), (8, 0), (9, 0), (10, 1), (11, 0), (12, 0), (13, 1), (14, 0), (15, 0), (16, 0), (17, 0), (18, 0), (19, 1), (21, 0), (22, 1), (23, 0), (20, 3), (24, 2), (25, 0), (26, 0)] (by kernel_rfl) (by kernel_rfl) ?_
      refine mg_in ?_
      repeat ((first | refine mg_py rfl rfl (fun K hK => ?_) | refine mg_sy rfl rfl (fun K hK => ?_) | refine mg_no rfl rfl (fun K hK => ?_)); go_simp; refine hK _ ?_; clear hK K)
      refine mg_end ?_
      go_wp2
      go_ret
      exact ⟨rfl, HBW.out.drew⟩
  · rw [h1] at her
    rw [h6] at hr
    simp only [Bool.false_eq_true, if_false, if_true] at her hr
    subst her hr
    subst h4
    have hld := decide_eq_true h5
    clear h1 h6 hbare hsame h5
    cases x
    all_goals
      simp only [Bool.false_eq_true, if_false, if_true] at hlim
      subst hlim
      have hge : ¬ (_ ≤ ((f.id : Nat) : Int)) := Int.not_le.2 (Int.ofNat_lt.2 h2)
      simp only [Int.cast_ofNat_Int] at hge
      have hgd := decide_eq_false hge
      clear h2
      go_enter Tryz.func16, Tryz.ntmps16
      go_wp2_with fail
      refine (hcode _).mono ?_
      rintro e w1 ⟨rfl, hB1⟩
      have hk1 := blk_below hk0 hB1 (by simp)
      have x0 := ext_cell_of (show w1.cell? ⟨w.heap.size, 0, none⟩ = some (.int .i64 f.kind) by rw [blk_cell hk1]; rfl)
      have x1 := ext_cell_of (show w1.cell? ⟨w.heap.size, 1, none⟩ = some (.int .u32 (f.id : Nat)) by rw [blk_cell hk1]; rfl)
      have x2 := ext_cell_of (show w1.cell? ⟨w.heap.size, 2, none⟩ = some (.bool _) by rw [blk_cell hk1]; rfl)
      have x3 := ext_cell_of (show w1.cell? ⟨w.heap.size, 3, none⟩ = some (.bool _) by rw [blk_cell hk1]; rfl)
      have x4 := ext_cell_of (show w1.cell? ⟨w.heap.size, 4, none⟩ = some (.bool f.brs) by rw [blk_cell hk1]; rfl)
      have x5 := ext_cell_of (show w1.cell? ⟨w.heap.size, 5, none⟩ = some (.bool f.esi) by rw [blk_cell hk1]; rfl)
      have x6 := ext_cell_of (show w1.cell? ⟨w.heap.size, 6, none⟩ = some (.bool f.sec) by rw [blk_cell hk1]; rfl)
      have x7 := ext_cell_of (show w1.cell? ⟨w.heap.size, 7, none⟩ = some (.int .u8 (f.sdt : Nat)) by rw [blk_cell hk1]; rfl)
      have x8 := ext_cell_of (show w1.cell? ⟨w.heap.size, 8, none⟩ = some (.int .u8 (f.vcid : Nat)) by rw [blk_cell hk1]; rfl)
      have x9 := ext_cell_of (show w1.cell? ⟨w.heap.size, 9, none⟩ = some (.int .u32 (f.af : Nat)) by rw [blk_cell hk1]; rfl)
      have x10 := ext_cell_of (show w1.cell? ⟨w.heap.size, 10, none⟩ = some (.slice D f.data.length cap) by rw [blk_cell hk1]; rfl)
      have HBW := Lib.hid (hB0.trans (hB1.mono (by simp)))
      clear hcode hk0 hB0 hB1 hk1
      go_wp2
      refine wp_region_mix #[[], [0], [0, 1], [0, 1, 2], [0, 1, 2, 3], [0, 1, 2], [0, 1, 2, 3, 4, 5], [0, 1, 2, 3, 4, 5, 6], [0, 1, 2, 3, 4, 5, 6, 7], [0, 1, 2, 3, 4, 5, 6, 7, 8], [0, 1, 2, 3, 4, 5, 6, 7, 8, 9], [0, 1, 2, 3, 4, 5, 6, 7, 8, 9, 10], [0, 1, 2, 3, 4, 5, 6, 7, 8, 9, 10, 11], [0, 1, 2, 3, 4, 5, 6, 7, 8, 9, 10, 11, 12], [0, 1, 2, 3, 4, 5, 6, 7, 8, 9, 10, 11, 12, 13], [0, 1, 2, 3, 4, 5, 6, 7, 8, 9, 10, 11, 12, 13, 14], [0, 1, 2, 3, 4, 5, 6, 7, 8, 9, 10, 11, 12, 13, 14, 15], [0, 1, 2, 3, 4, 5, 6, 7, 8, 9, 10, 11, 12, 13, 14, 15, 16], [0, 1, 2, 3, 4, 5, 6, 7, 8, 9, 10, 11, 12, 13, 14, 15, 16, 17], [0, 1, 2, 3, 4, 5, 6, 7, 8, 9, 10, 11, 12, 13, 14, 15, 16, 17, 18], [0, 1, 2, 3, 4, 5, 6, 7, 8, 9, 10, 11, 12, 13, 14, 15, 16, 17, 18, 19], [0, 1, 2, 3, 4, 5, 6, 7, 8, 9, 10, 11, 12, 13, 14, 15, 16, 17, 18], [0, 1, 2, 3, 4, 5, 6, 7, 8, 9, 10, 11, 12, 13, 14, 15, 16, 17, 18, 21], [0, 1, 2, 3, 4, 5, 6, 7, 8, 9, 10, 11, 12, 13, 14, 15, 16, 17, 18, 21, 22], [0, 1, 2, 3, 4, 5, 6, 7, 8, 9, 10, 11, 12, 13, 14, 15, 16, 17, 18, 19, 20, 21, 22, 23], [0, 1, 2, 3, 4, 5, 6, 7, 8, 9, 10, 11, 12, 13, 14, 15, 16, 17, 18, 19, 20, 21, 22, 23, 24], [0, 1, 2, 3, 4, 5, 6, 7, 8, 9, 10, 11, 12, 13, 14, 15, 16, 17, 18, 19, 20, 21, 22, 23, 24, 25]] [(0, 0), (1, 0), (2, 0), (3, 0), (4, 1), (5, 0), (6, 0), (7, 0), (8, 0), (9, 0), (10, 1), (11, 0), (12, 0), (13, 1), (14, 0), (15, 0), (16, 0), (17, 0), (18, 0), (19, 1), (21, 0), (22, 1), (23, 0), (20, 3), (24, 2), (25, 0), (26, 0)] (by kernel_rfl) (by kernel_rfl) ?_
      refine mg_in ?_
      repeat ((first | refine mg_py rfl rfl (fun K hK => ?_) | refine mg_sy rfl rfl (fun K hK => ?_) | refine mg_no rfl rfl (fun K hK => ?_)); go_simp; refine hK _ ?_; clear hK K)
      refine mg_end ?_
      go_wp2
      go_ret
      exact ⟨rfl, HBW.out.drew⟩
  · rw [h1] at her
    simp only [Bool.false_eq_true, if_false, if_true] at her
    subst her
    have HR := Lib.hid hr
    have H6 := Lib.hid h6
    clear h1 h6 hr
    rcases h4 with rfl | ⟨rfl, h5⟩
    all_goals cases x
    all_goals
      simp only [Bool.false_eq_true, if_false, if_true] at hlim
      subst hlim
      have hge : ¬ (_ ≤ ((f.id : Nat) : Int)) := Int.not_le.2 (Int.ofNat_lt.2 h2)
      simp only [Int.cast_ofNat_Int] at hge
      have hgd := decide_eq_false hge
      try have hld := decide_eq_false (show ¬ 0 < f.data.length by omega)
      try clear h5
      clear h2
      go_enter Tryz.func16, Tryz.ntmps16
      go_wp2_with fail
      refine (hcode _).mono ?_
      rintro e w1 ⟨rfl, hB1⟩
      have hk1 := blk_below hk0 hB1 (by simp)
      have x0 := ext_cell_of (show w1.cell? ⟨w.heap.size, 0, none⟩ = some (.int .i64 f.kind) by rw [blk_cell hk1]; rfl)
      have x1 := ext_cell_of (show w1.cell? ⟨w.heap.size, 1, none⟩ = some (.int .u32 (f.id : Nat)) by rw [blk_cell hk1]; rfl)
      have x2 := ext_cell_of (show w1.cell? ⟨w.heap.size, 2, none⟩ = some (.bool _) by rw [blk_cell hk1]; rfl)
      have x3 := ext_cell_of (show w1.cell? ⟨w.heap.size, 3, none⟩ = some (.bool _) by rw [blk_cell hk1]; rfl)
      have x4 := ext_cell_of (show w1.cell? ⟨w.heap.size, 4, none⟩ = some (.bool f.brs) by rw [blk_cell hk1]; rfl)
      have x5 := ext_cell_of (show w1.cell? ⟨w.heap.size, 5, none⟩ = some (.bool f.esi) by rw [blk_cell hk1]; rfl)
      have x6 := ext_cell_of (show w1.cell? ⟨w.heap.size, 6, none⟩ = some (.bool f.sec) by rw [blk_cell hk1]; rfl)
      have x7 := ext_cell_of (show w1.cell? ⟨w.heap.size, 7, none⟩ = some (.int .u8 (f.sdt : Nat)) by rw [blk_cell hk1]; rfl)
      have x8 := ext_cell_of (show w1.cell? ⟨w.heap.size, 8, none⟩ = some (.int .u8 (f.vcid : Nat)) by rw [blk_cell hk1]; rfl)
      have x9 := ext_cell_of (show w1.cell? ⟨w.heap.size, 9, none⟩ = some (.int .u32 (f.af : Nat)) by rw [blk_cell hk1]; rfl)
      have x10 := ext_cell_of (show w1.cell? ⟨w.heap.size, 10, none⟩ = some (.slice D f.data.length cap) by rw [blk_cell hk1]; rfl)
      have HBW := Lib.hid (hB0.trans (hB1.mono (by simp)))
      clear hcode hk0 hB0 hB1 hk1
      go_wp2
      refine wp_region_mix #[[], [0], [0, 1], [0, 1, 2], [0, 1, 2, 3], [0, 1, 2], [0, 1, 2, 3, 4, 5], [0, 1, 2, 3, 4, 5, 6], [0, 1, 2, 3, 4, 5, 6, 7], [0, 1, 2, 3, 4, 5, 6, 7, 8], [0, 1, 2, 3, 4, 5, 6, 7, 8, 9], [0, 1, 2, 3, 4, 5, 6, 7, 8, 9, 10], [0, 1, 2, 3, 4, 5, 6, 7, 8, 9, 10, 11], [0, 1, 2, 3, 4, 5, 6, 7, 8, 9, 10, 11, 12], [0, 1, 2, 3, 4, 5, 6, 7, 8, 9, 10, 11, 12, 13], [0, 1, 2, 3, 4, 5, 6, 7, 8, 9, 10, 11, 12, 13, 14], [0, 1, 2, 3, 4, 5, 6, 7, 8, 9, 10, 11, 12, 13, 14, 15], [0, 1, 2, 3, 4, 5, 6, 7, 8, 9, 10, 11, 12, 13, 14, 15, 16], [0, 1, 2, 3, 4, 5, 6, 7, 8, 9, 10, 11, 12, 13, 14, 15, 16, 17], [0, 1, 2, 3, 4, 5, 6, 7, 8, 9, 10, 11, 12, 13, 14, 15, 16, 17, 18], [0, 1, 2, 3, 4, 5, 6, 7, 8, 9, 10, 11, 12, 13, 14, 15, 16, 17, 18, 19], [0, 1, 2, 3, 4, 5, 6, 7, 8, 9, 10, 11, 12, 13, 14, 15, 16, 17, 18], [0, 1, 2, 3, 4, 5, 6, 7, 8, 9, 10, 11, 12, 13, 14, 15, 16, 17, 18, 21], [0, 1, 2, 3, 4, 5, 6, 7, 8, 9, 10, 11, 12, 13, 14, 15, 16, 17, 18, 21, 22], [0, 1, 2, 3, 4, 5, 6, 7, 8, 9, 10, 11, 12, 13, 14, 15, 16, 17, 18, 19, 20, 21, 22, 23], [0, 1, 2, 3, 4, 5, 6, 7, 8, 9, 10, 11, 12, 13, 14, 15, 16, 17, 18, 19, 20, 21, 22, 23, 24], [0, 1, 2, 3, 4, 5, 6, 7, 8, 9, 10, 11, 12, 13, 14, 15, 16, 17, 18, 19, 20, 21, 22, 23, 24, 25]] [(0, 0), (1, 0), (2, 0), (3, 0), (4, 1), (5, 0), (6, 0), (7, 0), (8, 0), (9, 0), (10, 1), (11, 0), (12, 0), (13, 1), (14, 0), (15, 0), (16, 0), (17, 0), (18, 0), (19, 1), (21, 0), (22, 1), (23, 0), (20, 3), (24, 2), (25, 0), (26, 0)] (by kernel_rfl) (by kernel_rfl) ?_
      refine mg_in ?_
      repeat ((first | refine mg_py rfl rfl (fun K hK => ?_) | refine mg_sy rfl rfl (fun K hK => ?_) | refine mg_no rfl rfl (fun K hK => ?_)); go_simp; refine hK _ ?_; clear hK K)
      refine mg_kp rfl ?_
      go_wp2_with fail
      refine (hbare _).mono ?_
      rintro e w2 ⟨rfl, hB2⟩
      have HB2 := Lib.hid hB2
      clear hB2
      go_wp2
      refine ⟨HB2.out, ?_⟩
      refine mg_ef rfl ?_
      go_wp2_with fail
      refine (hsame _).mono ?_
      rintro e w3 ⟨rfl, hB3⟩
      have HB3 := Lib.hid hB3
      clear hbare hsame hB3
      have HB4 := Lib.hid (below_then (HBW.out.drew) HB2.out)
      have HB5 := Lib.hid (below_then HB4.out HB3.out)
      cases hq : decide (fb = fz)
      all_goals
        have HQ := Lib.hid hq
        clear hq
        go_wp2
        change MixG _ _ _ _ _ _
        repeat (refine mg_py rfl rfl (fun K hK => ?_); go_simp; refine hK _ ?_; clear hK K)
        refine mg_end ?_
        go_wp2
        go_ret
        exact ⟨by rw [HR.out, H6.out, HQ.out]; rfl, HB5.out⟩
end Go.Proofs.YtnfnjmllgklaaaaGreat
