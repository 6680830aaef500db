/- classic.Wire. -/
import Derived.Test.YtnfnjmllgklaaaaGreatKClassic
import Derived.Test.YtnfnjmllgklaaaaGreatKRepeat
set_option linter.unusedVariables false
set_option linter.unusedSimpArgs false
namespace Go.Proofs.YtnfnjmllgklaaaaGreat
open Go Go.RowKit Go.Shelf Om

def wireV (x : Om.Wire) (A : Option Addr) (c : Nat) : Value := .agg #[.slice A x.bits.length c, .int .i64 (x.arb : Nat), .int .i64 (x.ack : Nat)]
/-- How a wire comes back. -/
def WirePost (B : Nat) (x : Om.Wire) (w : World) (e : Ending) (w' : World) : Prop :=
  ∃ A c, e = .returned (.tuple #[wireV x A c, .int .i64 0]) ∧ w'.ownsRow B 5 1 (.slice A x.bits.length c) x.bits.length (bitsV x.bits) ∧ Below B w w'
theorem cbody_length (f : Om.Frame) (h : f.data.length ≤ 8) : (cBody f).length ≤ 118 := by
  have h1 := chead_length f
  have h2 : crcSize 1 = 15 := rfl
  rw [cBody, crcAdd, List.length_append, List.length_append, List.length_append, bitsOf_length, bitsOf_length, bytesBits_length, h2]
  omega
theorem set3_blk {W : World} {b : Nat} {T : TypeId} {a0 a1 a2 : Value} (hb : W.heap[b]? = some (.cells #[a0, a1, a2] T (0, 0))) (v0 v1 v2 : Value) :
    (((W.setCell ⟨b, 0, none⟩ v0).setCell ⟨b, 1, none⟩ v1).setCell ⟨b, 2, none⟩ v2).heap[b]? = some (.cells #[v0, v1, v2] T (0, 0)) := by
  have h := blk_set (blk_set (blk_set hb 0 v0) 1 v1) 2 v2
  simpa using h
theorem set3_grown (W : World) (b : Nat) (v0 v1 v2 : Value) : W.grownBy (((W.setCell ⟨b, 0, none⟩ v0).setCell ⟨b, 1, none⟩ v1).setCell ⟨b, 2, none⟩ v2) (some b) :=
  World.grownBy.trans (World.grownBy.trans (grown_set W ⟨b, 0, none⟩ v0) (grown_set _ ⟨b, 1, none⟩ v1)) (grown_set _ ⟨b, 2, none⟩ v2)

set_option maxRecDepth 100000 in
set_option maxHeartbeats 4000000 in
/-- classic.Wire. -/
theorem cwire_any (f : Om.Frame) (D : Option Addr) (cap : Nat) (w : World) (hok : f.ok = true) (hkd : f.kind = 1) (hr : Rd w D (bytesV f.data)) :
    Calls Tryz.prog 96 #[frV f D cap] w (WirePost w.heap.size (cWire f) w) := by
  obtain ⟨h8, -⟩ := ok_1 hok hkd
  have hB0 := two_boxes w (.cells (frCells f D cap) 25) (.cells #[.slice none 0 0, .int .i64 0, .int .i64 0] 32)
  have hk0 := blk_alloc (heap_alloc_new w (.cells (frCells f D cap) 25)) (.cells #[.slice none 0 0, .int .i64 0, .int .i64 0] 32)
  have hw0 := heap_alloc_new (w.alloc (.cells (frCells f D cap) 25)) (.cells #[.slice none 0 0, .int .i64 0, .int .i64 0] 32)
  rw [World.size_alloc] at hw0
  have hbody := cbody_any f D cap ((w.alloc (.cells (frCells f D cap) 25)).alloc (.cells #[.slice none 0 0, .int .i64 0, .int .i64 0] 32)) hok hkd (hr.kept hB0)
  have hhead := fun W => chead_any f D cap W hok
  have HBL := Lib.hid (cbody_length f h8)
  have HHL := Lib.hid (chead_length f)
  have hwb : (cWire f).bits = stuffed (cBody f) ++ ones 10 ∧ (cWire f).arb = (stuffed (cHead f)).length ∧ (cWire f).ack = (stuffed (cBody f)).length + 1 := ⟨rfl, rfl, rfl⟩
  have HWB := Lib.hid hwb
  obtain ⟨X, hX⟩ : ∃ X, X = cBody f := ⟨_, rfl⟩
  obtain ⟨H, hH⟩ : ∃ H, H = cHead f := ⟨_, rfl⟩
  rw [← hX] at HBL HWB hbody
  rw [← hH] at HHL HWB hhead
  simp only [frCells] at hk0 hB0 hw0 hbody
  unfold frV at hbody hhead ⊢
  have HB0 := Lib.hid hB0
  have HK0 := Lib.hid hk0
  have HW0 := Lib.hid hw0
  clear hX hH hwb h8 hr hok hkd hB0 hk0 hw0
  go_enter Tryz.func96, Tryz.ntmps96
  go_wp2_with fail
  refine hbody.mono ?_
  rintro e w1 ⟨A1, c1, rfl, hO1, hB1⟩
  rw [bitsV_length] at hO1
  have hput := stuffput_any A1 c1 X w1 (own_rd hO1) (by have := HBL.out; omega)
  have HK1 := Lib.hid (blk_below HK0.out hB1 (by simp; omega))
  have HW1 := Lib.hid (blk_below HW0.out hB1 (by simp))
  have HB1 := Lib.hid (HB0.out.trans (hB1.mono (by simp; omega)))
  have HS1 := Lib.hid HB1.out.size
  clear hbody hO1 hB1
  simp only [bitsV_length]
  go_wp2_with fail
  refine hput.mono ?_
  rintro e w2 ⟨A2, c2, rfl, hO2, hB2⟩
  rw [bitsV_length] at hO2
  have HO2 := Lib.hid hO2
  have HK2 := Lib.hid (blk_kept HK1.out hB2)
  have HW2 := Lib.hid (blk_kept HW1.out hB2)
  have HB2 := Lib.hid (below_then HB1.out hB2)
  have HS2 := Lib.hid hB2.size
  clear hput hO2 hB2
  obtain ⟨k0, k1, k2, k3, k4, k5, k6, k7, k8, k9, k10⟩ := fr_cells (f := f) HK2.out
  simp only [bitsV_length]
  go_wp2_with fail
  refine (hhead _).mono ?_
  rintro e w3 ⟨rfl, ⟨A3, c3, hb3, hO3⟩, hB3⟩
  clear k0 k1 k2 k3 k4 k5 k6 k7 k8 k9 k10 hhead
  rw [bitsV_length] at hO3 hb3
  have hput := stuffput_any A3 c3 H w3 (own_rd hO3) (by have := HHL.out; omega)
  have hl3 := cell_of_one hb3
  have HO23 := Lib.hid (own_kept HO2.out hB3)
  have HW3 := Lib.hid (blk_kept HW2.out hB3)
  have HB3 := Lib.hid (below_then HB2.out hB3)
  clear hO3 hb3 hB3
  go_wp2_with fail
  refine hput.mono ?_
  rintro e w4 ⟨A4, c4, rfl, hO4, hB4⟩
  have HO24 := Lib.hid (own_kept HO23.out hB4)
  have HW4 := Lib.hid (blk_kept HW3.out hB4)
  have HB4 := Lib.hid (below_then HB3.out hB4)
  clear hput hO4 hB4 hl3
  simp only [bitsV_length]
  have hrep := repeat_any (some ⟨w4.heap.size, 0, none⟩) 1 (w4.alloc (.cells #[.int .u8 1] 5)) (rd_new w4 (.int .u8 1) 5)
  go_wp2_with fail
  refine hrep.mono ?_
  rintro e w5 ⟨b5, rfl, -, hR5, hB5⟩
  have hB45 : Below w4.heap.size w4 w5 := ((Below.refl _ _).alloc (Nat.le_refl _) _).trans (hB5.mono (by simp))
  have HO25 := Lib.hid (own_kept HO24.out hB45)
  have HW5 := Lib.hid (blk_kept HW4.out hB45)
  have HB5 := Lib.hid (below_then HB4.out hB45)
  have HR5 := Lib.hid hR5
  clear hrep hR5 hB5 hB45
  have hSl : (bitsV (stuffed X)).length = (stuffed X).length := bitsV_length _
  have HSL := Lib.hid hSl
  have HSX : Hid ((stuffed X).length ≤ 236) := Lib.hid (by have := stuffGo_length X Sst.start; have := HBL.out; show (stuffGo Sst.start X).length ≤ _; omega)
  have HSH : Hid ((stuffed H).length ≤ 70) := Lib.hid (by have := stuffGo_length H Sst.start; have := HHL.out; show (stuffGo Sst.start H).length ≤ _; omega)
  clear hSl
  have hOw : w5.ownsRow w.heap.size 5 1 (.slice A2 (stuffed X).length c2) (bitsV (stuffed X)).length (bitsV (stuffed X)) := by rw [HSL.out]; exact own_mono HO25.out HS1.out
  have HOW := Lib.hid hOw
  have HBS : Hid (((bitsV (stuffed X)).length + 10) * 1 ≤ 140737488355328) := Lib.hid (by have := HSX.out; rw [HSL.out]; omega)
  have HB5S := Lib.hid HB5.out.size
  clear hOw
  have hsx : (((stuffed X).length : Nat) : Int) ≤ 1000 := by have := HSX.out; omega
  go_wp2_with (at_builtin; refine apN w.heap.size rfl _ _ _ _ _ _ rfl Tryz.underlying23 info5 rfl (by decide) (.slice A2 (stuffed X).length c2) (bitsV (stuffed X)) (bitsV (ones 10)) (some ⟨b5, 0, none⟩) 10 10 rfl rfl rfl (bitsV_one _) HOW.out HR5.out HB5.out HB5S.out HBS.out ?_; intro A6 c6 w6 hO6 hB6 hg6 _; have hw6 := blk_grown HW5.out hg6 (own_ne HO25.out HW5.out (by decide)); have e0 := blk_cell hw6 0; have e1 := blk_cell hw6 1; have e2 := blk_cell hw6 2; have f0 := blk_free hw6 0; have f1 := blk_free hw6 1; have f2 := blk_free hw6 2)
  have hV : bitsV (stuffed X) ++ bitsV (ones 10) = bitsV (cWire f).bits := by rw [HWB.out.1, bitsV_append]
  have hN : (bitsV (stuffed X)).length + 10 = (cWire f).bits.length := by rw [HWB.out.1, HSL.out]; simp [ones]
  have hb3 := set3_blk hw6 (.slice A6 ((bitsV (stuffed X)).length + 10) c6) (.int .i64 ((stuffed H).length : Nat)) (.int .i64 (((stuffed X).length : Int) + 1))
  have hg3 := set3_grown w6 (w.heap.size + 1) (.slice A6 ((bitsV (stuffed X)).length + 10) c6) (.int .i64 ((stuffed H).length : Nat)) (.int .i64 (((stuffed X).length : Int) + 1))
  have hO7 := hO6.kept hg3 (.inr (own_ne hO6 hw6 (by decide)))
  have hB7 := hB6.grown hg3 (by have := hB6.size; omega) (by intro k hk; cases hk; omega)
  have z0 := blk_cell hb3 0
  have z1 := blk_cell hb3 1
  have z2 := blk_cell hb3 2
  rw [hN] at hO7 hB7 z0 z1 z2 ⊢
  rw [hV] at hO7
  clear hb3 hg3 e0 e1 e2 f0 f1 f2 hO6 hB6 hg6 hw6
  refine bodyPost_ret (v := .tuple #[wireV (cWire f) A6 c6, .int .i64 0]) ?_ rfl ⟨A6, c6, rfl, hO7, hB7⟩
  unfold wireV
  rw [HWB.out.2.1, HWB.out.2.2]
  clear hO7 hB7
  generalize ((w6.setCell ⟨w.heap.size + 1, 0, none⟩ _).setCell ⟨w.heap.size + 1, 1, none⟩ _).setCell ⟨w.heap.size + 1, 2, none⟩ _ = X6 at *
  simp [results, Tryz.results96, go_sem, z0, z1, z2]
end Go.Proofs.YtnfnjmllgklaaaaGreat
