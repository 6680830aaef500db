/- omnibuslaw12.alive. -/
import Derived.Test.YtnfnjmllgklaaaaGreatKJoined
set_option linter.unusedVariables false
set_option linter.unusedSimpArgs false
namespace Go.Proofs.YtnfnjmllgklaaaaGreat
open Go Go.RowKit Go.Shelf Om

/-- The frame that alive loads. -/
def fAl : Om.Frame := ⟨1, 1, false, false, false, false, false, 0, 0, 0, []⟩
theorem fAl_ok : fAl.ok = true := by decide
theorem fAl_v : frV fAl none 0 = .agg #[.int .i64 1, .int .u32 1, .bool false, .bool false, .bool false, .bool false, .bool false, .int .u8 0, .int .u8 0, .int .u32 0, .slice none 0 0] := rfl
theorem blk_lt {w : World} {b : Nat} {o : Obj} (h : w.heap[b]? = some o) : b < w.heap.size := by
  rw [Array.getElem?_eq_some_iff] at h
  exact h.1
theorem st_field0 (p k t r : Int) (o h : Bool) (w : World) : (Instr.field 44 (.agg #[.int .i64 p, .int .i64 k, .int .i64 t, .int .i64 r, .bool o, .bool h]) 0).run Tryz.prog w = .ok (.int .i64 p) w := by
  simp [Instr.field, run_underlying Tryz.underlying44, Sem.run_bind, part, asAgg, go_sem]
theorem st_field2 (p k t r : Int) (o h : Bool) (w : World) : (Instr.field 44 (.agg #[.int .i64 p, .int .i64 k, .int .i64 t, .int .i64 r, .bool o, .bool h]) 2).run Tryz.prog w = .ok (.agg #[.int .i64 t, .int .i64 r, .bool o]) w := by
  simp [Instr.field, run_underlying Tryz.underlying44, Sem.run_bind, part, asAgg, go_sem]
set_option maxRecDepth 100000 in
set_option maxHeartbeats 2000000 in
theorem alive_any (w : World) : Calls Tryz.prog 15 #[] w fun e w' => e = .returned (.bool true) ∧ Below w.heap.size w w' := by
  have hj := joined_any true w
  have hq := onesN_quiet true 11
  have hph : (onesN true 11).phase = 1 := by
    rcases hq.phase with ⟨_, _, h⟩ | ⟨h, _⟩
    · omega
    · exact h
  have hhas := hq.has
  generalize onesN true 11 = n at *
  clear hq
  have HJ := Lib.hid hj
  have HP := Lib.hid hph
  have HH := Lib.hid hhas
  clear hj hph hhas
  go_enter Tryz.func15, Tryz.ntmps15
  go_wp2_with fail
  refine HJ.out.mono ?_
  rintro e w1 ⟨b, S, rfl, hb, ⟨c, Sm, hN⟩, hS, hB⟩
  have hl := load_any S Sm b n c fAl none 0 w1 hN fAl_ok (fun h => absurd h (by decide)) HH.out (Rd.nil _ _) (fun W _ => wire_1 fAl none 0 W fAl_ok rfl (Rd.nil _ _)) (by decide)
  rw [fAl_v] at hl
  have HL := Lib.hid hl
  have HB := Lib.hid hB
  have HLB := Lib.hid hb
  have HS := Lib.hid hS
  clear hl hB hb hN hS
  unfold pt
  go_wp2_with fail
  refine HL.out.mono ?_
  rintro e w2 ⟨rfl, S2, ⟨c2, Sm2, hN2⟩, hM, hS2⟩
  have hP2 : ({ n with has := true, f := fAl, w := wire fAl } : N).phase = 1 := HP.out
  have hH2 : ({ n with has := true, f := fAl, w := wire fAl } : N).has = true := rfl
  generalize ({ n with has := true, f := fAl, w := wire fAl } : N) = n2 at *
  have hb2 := hN2.blk
  have hB2 := HB.out.trans (hM.below HB.out.size HS.out)
  have hSN := fun W => sample_nil W
  have hON := fun W => out_nil W
  have hst := fun W h => state_plain b n2 c2 W h (by omega)
  have hot := fun W h => out_plain b n2 c2 W h (by omega) (by omega) (by omega)
  have ho : n2.out = false := by unfold N.out; rw [hP2, hH2]; rfl
  simp only [st6, hP2, hH2] at hst
  rw [ho] at hot
  have HSN := Lib.hid hSN
  have HON := Lib.hid hON
  have HST := Lib.hid hst
  have HOT := Lib.hid hot
  have HBB := Lib.hid hb2
  have HB2 := Lib.hid hB2
  clear hN2 hM hS2 hSN hON hst hot ho hb2 hB2 hP2 hH2 HB HLB HS HL HJ HP HH
  go_wp2_with fail
  refine (HSN.out _).mono ?_
  rintro e w3 ⟨rfl, hB3⟩
  have HB3 := Lib.hid (HB2.out.trans (hB3.mono HB2.out.size))
  have HB4 := Lib.hid ((hB3.block b (blk_lt HBB.out)).trans HBB.out)
  clear hB3
  unfold ev0
  have hf0 := st_field0
  go_wp2_with fail
  refine (HST.out _ (blk_alloc HB4.out _)).mono ?_
  rintro e w5 ⟨rfl, hB5⟩
  have HB6 := Lib.hid ((hB5.block b (blk_lt (blk_alloc HB4.out _))).trans (blk_alloc HB4.out _))
  have HB5 := Lib.hid ((HB3.out.alloc HB3.out.size _).trans (hB5.mono (Nat.le_trans HB3.out.size (by simp))))
  clear hB5
  go_wp2_with fail
  refine (HOT.out _ HB6.out).mono ?_
  rintro e w6 ⟨rfl, rfl⟩
  go_wp2_with fail
  refine (HON.out _).mono ?_
  rintro e w7 ⟨rfl, rfl⟩
  go_wp2
  go_ret
  exact ⟨rfl, HB5.out⟩
end Go.Proofs.YtnfnjmllgklaaaaGreat
