/- Rows.NodeQuietSaid: omnibuslaw12.NodeQuiet answers true whatever the input, and the input reads as it did. No condition. -/
import Derived.Test.YtnfnjmllgklaaaaGreatKAlive
import Derived.Test.YtnfnjmllgklaaaaGreatRows
import Derived.WalkKit
import Derived.ProofKit
import Derived.OpenShut
set_option linter.unusedVariables false
set_option linter.unusedSimpArgs false
/- omnibuslaw12.NodeQuiet. -/
namespace Go.Proofs.YtnfnjmllgklaaaaGreat
open Go Go.RowKit Go.Shelf Om

set_option maxRecDepth 100000 in
set_option maxHeartbeats 2000000 in
theorem nodeQuiet_any (k : Bool) (x : Int) (hx0 : 0 ≤ x) (hx : x < 65536) (w : World) : Calls Tryz.prog 8 #[.bool k, .int .u16 x] w fun e w' => e = .returned (.bool true) ∧ Below w.heap.size w w' := by
  have hal := alive_any w
  have hnew := fun W => nodeNew_any k W
  have HA := Lib.hid hal
  have HNEW := Lib.hid hnew
  clear hal hnew
  have HX := Lib.hid hx
  have HX0 := Lib.hid hx0
  have hcv : IntKind.i64.wrap x = x := wrapI x (by omega) (by omega)
  go_enter Tryz.func8, Tryz.ntmps8
  go_wp2_with fail
  refine HA.out.mono ?_
  rintro e w1 ⟨rfl, hB1⟩
  have HB1 := Lib.hid hB1
  clear hB1
  go_wp2_with fail
  refine (HNEW.out _).mono ?_
  rintro e w2 ⟨b, rfl, hb, ⟨c, Sm, hN⟩, hB⟩
  have HN := Lib.hid hN
  have HB := Lib.hid hB
  have HLB := Lib.hid hb
  clear hN hB hb
  unfold pt
  have h5 : (0 : Int) ≤ x % 500 := by omega
  have h6 : x % 500 < 500 := by omega
  go_wp2
  generalize x % 500 = q at *
  have hB2 := HB1.out.trans (HB.out.mono HB1.out.size)
  have HBB := Lib.hid hB2
  have HLS := Lib.hid HB1.out.size
  clear hB2 hx hx0 hcv
  go_loopw [17] (fun i W => ∃ j : Nat, (j : Int) ≤ q ∧ i = .int .i64 j ∧ NodeAt W (fun j => w1.heap.size ≤ j ∧ j < w2.heap.size) b (onesN k j) ∧ Below w.heap.size w W) (fun i _ => q.toNat - (intOf i).toNat)
  case atStart => exact ⟨0, by omega, rfl, ⟨c, Sm, HN.out⟩, HBB.out⟩
  case round =>
    obtain ⟨j, hj, rfl, ⟨c2, Sm2, hn⟩, hBr⟩ := hrel
    have hq := onesN_quiet k j
    have hq2 := onesN_quiet k (j + 1)
    by_cases hlt : (j : Int) < q
    · have hs := sampleOnes_any _ _ b k j c2 wr hn
      have hot := out_plain b _ c2 wr hn.blk (by rcases hq.phase with ⟨h, _⟩ | ⟨h, _⟩ <;> omega) (by rcases hq.phase with ⟨h, _⟩ | ⟨h, _⟩ <;> omega) (by rcases hq.phase with ⟨h, _⟩ | ⟨h, _⟩ <;> omega)
      rw [(quiet_step hq).2.2.1] at hot
      unfold QuietPost at hs
      dsimp only at hs
      rw [show evV Ev.none none 0 = .agg ev0 from rfl] at hs
      unfold ev0 at hs
      have hst := fun W h => state_plain b (onesN k (j + 1)) c2 W h (by rcases hq2.phase with ⟨h, _⟩ | ⟨h, _⟩ <;> omega)
      have hph := hq2.phase
      simp only [st6] at hst
      generalize hn2 : onesN k (j + 1) = n2 at *
      have HE := Lib.hid hn2
      clear hn2
      have HS := Lib.hid hs
      have HOT := Lib.hid hot
      have HST := Lib.hid hst
      have HPH := Lib.hid hph
      have HBr := Lib.hid hBr
      clear hs hn hBr hot hst hph hq hq2
      have hf0 := st_field0
      go_wp2_with fail
      refine HOT.out.mono ?_
      rintro e w3 ⟨rfl, rfl⟩
      go_wp2_with fail
      refine HS.out.mono ?_
      rintro e w4 ⟨rfl, hn4, hg4⟩
      have HN4 := Lib.hid hn4
      have HB4 := Lib.hid (HBr.out.grown hg4 HBr.out.size (by intro k hk; cases hk; have := HLS.out; have := HLB.out; omega))
      clear hn4 hg4
      have hp2 : n2.phase = if 10 ≤ j then 1 else 0 := by
        have := HPH.out
        split <;> omega
      by_cases h10 : 10 ≤ j
      · rw [if_pos h10] at hp2
        simp only [hp2] at HST
        go_wp2_with fail
        refine (HST.out _ (blk_alloc HN4.out.blk _)).mono ?_
        rintro e w5 ⟨rfl, hB5⟩
        have HN6 := Lib.hid (((show NodeAt w4 _ b n2 from ⟨_, _, HN4.out⟩).kept ((Below.refl _ w4).alloc (Nat.le_refl _) _)).kept hB5)
        have HB6 := Lib.hid ((HB4.out.alloc HB4.out.size _).trans (hB5.mono (Nat.le_trans HB4.out.size (by simp))))
        clear hB5
        go_wp2
        go_roundw
        case rel => exact ⟨j + 1, by omega, by go_num, HE.out ▸ HN6.out, HB6.out⟩
        case measure => simp [intOf]; omega
      · rw [if_neg h10] at hp2
        simp only [hp2] at HST
        go_wp2_with fail
        refine (HST.out _ (blk_alloc HN4.out.blk _)).mono ?_
        rintro e w5 ⟨rfl, hB5⟩
        have HN6 := Lib.hid (((show NodeAt w4 _ b n2 from ⟨_, _, HN4.out⟩).kept ((Below.refl _ w4).alloc (Nat.le_refl _) _)).kept hB5)
        have HB6 := Lib.hid ((HB4.out.alloc HB4.out.size _).trans (hB5.mono (Nat.le_trans HB4.out.size (by simp))))
        clear hB5
        go_wp2
        go_roundw
        case rel => exact ⟨j + 1, by omega, by go_num, HE.out ▸ HN6.out, HB6.out⟩
        case measure => simp [intOf]; omega
    · obtain rfl : q = j := by omega
      have hst := fun W h => state_plain b (onesN k j) c2 W h (by rcases hq.phase with ⟨h, _⟩ | ⟨h, _⟩ <;> omega)
      have hdr : (onesN k j).drop = (false, onesN k j) := by unfold N.drop; rw [if_pos (.inl hq.has)]
      have hp10 : (onesN k j).phase ≠ 10 := by rcases hq.phase with ⟨h, _⟩ | ⟨h, _⟩ <;> omega
      have hrs : (onesN k j).restart = (false, onesN k j) := by unfold N.restart; rw [if_pos hp10]
      have hf := hq.fault
      simp only [st6, hf] at hst
      generalize onesN k j = n at *
      have HST := Lib.hid hst
      have HN2 := Lib.hid hn
      have HBr := Lib.hid hBr
      clear hn hBr hlt hst hq hq2
      have hf2 := st_field2
      go_wp2_with fail
      refine (HST.out _ HN2.out.blk).mono ?_
      rintro e w3 ⟨rfl, hB3⟩
      have hbw := (hB3.block b (blk_lt HN2.out.blk)).trans HN2.out.blk
      have HB3 := Lib.hid (HBr.out.trans (hB3.mono HBr.out.size))
      have hdp := drop_any b n c2 w3 hbw
      rw [hdr] at hdp
      have HDP := Lib.hid hdp
      clear hB3 hdp hbw
      go_wp2_with fail
      refine HDP.out.mono ?_
      rintro e w4 ⟨rfl, hb4, hg4⟩
      have hB4 := HB3.out.grown hg4 HB3.out.size (by intro k hk; cases hk; have := HLS.out; have := HLB.out; omega)
      have hre := restart_any b n c2 w4 hb4
      rw [hrs] at hre
      have HB4 := Lib.hid hB4
      have HRE := Lib.hid hre
      clear hre hB4 hb4 hg4
      go_wp2_with fail
      refine HRE.out.mono ?_
      rintro e w5 ⟨rfl, hb5, hg5⟩
      have HB5 := Lib.hid (HB4.out.grown hg5 HB4.out.size (by intro k hk; cases hk; have := HLS.out; have := HLB.out; omega))
      go_wp2
      go_ret
      exact ⟨rfl, HB5.out⟩
end Go.Proofs.YtnfnjmllgklaaaaGreat

/- The row's end, where the arguments hold no memory and no old block is turned. -/
namespace Go.Proofs.YtnfnjmllgklaaaaGreat
open Go Go.ChangeShapes Go.WideShapes Go.ChangeAt Go.RowKit

theorem kept_of_below {W W' : World} (h : Below W.heap.size W W') : W.keptBut W' (fun _ => False) :=
  ⟨h.os, h.output, fun i hi => by rw [h.block i hi]; exact (World.keptBut_refl W (fun _ => False)).2.2 i hi⟩
theorem post_none {H : Type} {enc : TypeId × Value → H} {P : Program} {f : Func} {s : ChangeSpec} {apart fresh handsOn again : Bool} {W W' : World} {args : Array Value} {v : Value} {ds gs : List (DataW H)} {before : List MemPlace}
    (hW : DataW.Whole enc P f.params.toList s.vars apart W args.toList ds gs before) (hb : before = [])
    (hres : ∀ (b : Nat) (sp : Nat → Bool) (hd : Bool), DataW.TrodAll enc P W' b sp hd f.resultTypes.toList (v.resultList f.resultTypes.size) (s.fn H (ds ++ gs)).results [])
    (hargs : ∀ sp : Nat → Bool, DataW.TrodAll enc P W' 0 sp true f.params.toList args.toList (s.fn H (ds ++ gs)).args [])
    (hvars : ∀ sp : Nat → Bool, DataW.TrodVars enc P W' sp s.vars (s.fn H (ds ++ gs)).vars [])
    (hB : Below W.heap.size W W')
    (hok : ∀ (j : Nat) (t : TypeId) (r : Value), f.resultTypes[j]? = some t → (v.resultList f.resultTypes.size)[j]? = some r → Value.okWide P W' .any 0 t r) :
    s.post enc P f apart fresh handsOn again W args v W' := by
  subst hb
  refine ⟨ds, gs, [], [], [], [], hW, hres _ _ _, hargs _, hvars _, World.keptBut_mono (fun p hp => hp.elim) (kept_of_below hB), fun _ => ?_⟩
  refine ⟨hok, _, _, [] ++ ([] ++ []), ⟨[] ++ [], [], trodAll_append (hargs (fun _ => true)) (hres _ _ _), hvars _, rfl, ?_, ?_⟩, ?_⟩
  · intro b off hp
    simp at hp
  · intro _
    simp
  · intro p hp _
    simp at hp
end Go.Proofs.YtnfnjmllgklaaaaGreat

/- Rows.NodeQuietSaid: a node that hears only ones is quiet, whatever the input. No condition. -/
namespace Go.Proofs.YtnfnjmllgklaaaaGreat.nodeQuiet
open Go Go.ChangeShapes Go.WideShapes Go.ChangeAt Go.RowKit
set_option linter.unusedVariables false

theorem own : ownKnob Tryz.prog.godebug = none := by kernel_rfl

theorem walk (a0 : Bool) (a1 : Int) (w1 : (Lit.int .u16 a1).wf = true) (w : World) :
    Calls Tryz.prog 8 #[.bool a0, .int .u16 a1] w fun e w' => e = .returned (.bool true) ∧ Below w.heap.size w w' := by
  simp only [Lit.wf, Bool.and_eq_true, decide_eq_true_eq] at w1
  have h0 : (0 : Int) ≤ a1 := w1.1
  have h2 : a1 ≤ 65535 := w1.2
  have h1 : a1 < 65536 := by omega
  exact nodeQuiet_any a0 a1 h0 h1 w

set_option maxRecDepth 100000 in
theorem lifted (os : Os) (started : os.Started) (H : Type) (enc : TypeId × Value → H) :
    ReturnsInHanded {} Tryz.checked os 8 .any (Rows.nodeQuietSpec.pre6 enc Tryz.prog Tryz.f8 Rows.nodeQuietRow.domain false) (Rows.nodeQuietSpec.post enc Tryz.prog Tryz.f8 false true false false) := by
  refine returnsInHanded_of_change (C := Tryz.checked) own started (by kernel_rfl) Tryz.func8
    (ChangeSpec.witness6 (enc := enc) (C := Tryz.checked) false ⟨#[], #[.bool false, .int .u16 0], []⟩ 8 (by kernel_rfl) (by kernel_rfl) (by kernel_rfl) (by kernel_rfl)) ?_
  intro W base args ds gs before hval0 hW hcnd _
  have hval : ∀ (j : Nat) t v, Tryz.f8.params[j]? = some t → args[j]? = some v → Value.okWide Tryz.prog W .any base t v := hval0
  have hW' := hW
  obtain ⟨p, q, hA0, hV, rfl, hfz, hnd⟩ := hW
  have hA : DataW.TrodAll enc Tryz.prog W 0 (fun _ => true) true Tryz.f8.params.toList args.toList ds p := hA0
  rw [Tryz.params8] at hA hval
  obtain ⟨v0, vs0, d0, ds0, p0, q0, hargs, rfl, rfl, h0, r0⟩ := trodAll_cons hA
  obtain ⟨v1, vs1, d1, ds1, p1, q1, rfl, rfl, rfl, h1, r1⟩ := trodAll_cons r0
  obtain ⟨rfl, rfl, rfl⟩ := trodAll_nil r1
  obtain rfl : args = #[v0, v1] := by cases args; simp_all
  obtain ⟨rfl, rfl⟩ := trodVars_none hV
  obtain ⟨a0, rfl, rfl, rfl⟩ := open_bool Tryz.underlying4 (hval 0 4 v0 rfl rfl) h0
  obtain ⟨a1, rfl, rfl, rfl, w1⟩ := open_int Tryz.underlying47 (hval 1 47 v1 rfl rfl) h1
  clear hA0 hval0
  simp only [List.append_nil] at hW'
  refine (walk a0 a1 w1 W).mono fun e W' ⟨he, hg⟩ => ?_
  subst he
  exact ⟨_, rfl, post_none hW' rfl (fun _ _ _ => (trodAll_cons_mk (shut_bool Tryz.underlying4 _) trodAll_mk0)) (fun sp => (trodAll_cons_mk (shut_bool Tryz.underlying4 _) (trodAll_cons_mk (shut_int Tryz.underlying47 w1) trodAll_mk0))) (fun _ => rfl) hg (ok_one (by kernel_rfl) rfl (okWide_bool_mk Tryz.underlying4 _))⟩

theorem over : Rows.nodeQuietRow.holds Tryz.pinned (OpenSpec.ofChange Rows.nodeQuietSpec) :=
  OpenClaim.holds_of_wide 8 Tryz.f8 rfl rfl rfl rfl rfl rfl rfl ⟨rfl, rfl, rfl, rfl, rfl⟩ rfl rfl rfl rfl rfl (by kernel_rfl) Tryz.func8 (by kernel_rfl)
    (of_decide_eq_true (by kernel_rfl)) (by unfold Func.isWrapper; first | (rw [if_pos (by decide +kernel)]; kernel_rfl) | (rw [if_neg (by decide +kernel)]; exact ⟨rfl, rfl⟩))
    (fun os started H enc _ => lifted os started H enc)

/-- The statement. -/
theorem proved : Rows.NodeQuietSaid :=
  over
#print axioms proved
end Go.Proofs.YtnfnjmllgklaaaaGreat.nodeQuiet
