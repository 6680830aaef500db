/- node.wire, of a Classic frame. -/
import Derived.Test.YtnfnjmllgklaaaaGreatKSample
set_option linter.unusedVariables false
set_option linter.unusedSimpArgs false
namespace Go.Proofs.YtnfnjmllgklaaaaGreat
open Go Go.RowKit Go.Shelf Om

set_option maxRecDepth 100000 in
set_option maxHeartbeats 4000000 in
theorem wire_1 (f : Om.Frame) (D : Option Addr) (cap : Nat) (w : World) (hok : f.ok = true) (hkd : f.kind = 1) (hr : Rd w D (bytesV f.data)) :
    Calls Tryz.prog 59 #[frV f D cap] w (WirePost w.heap.size (wire f) w) := by
  have hwe : wire f = cWire f := by unfold wire; rw [if_pos hkd]
  rw [hwe]
  have hB1 := two_boxes w (.cells (frCells f D cap) 25) (.cells #[.slice none 0 0, .int .i64 0, .int .i64 0] 32)
  have hk1 := blk_alloc (heap_alloc_new w (.cells (frCells f D cap) 25)) (.cells #[.slice none 0 0, .int .i64 0, .int .i64 0] 32)
  have hw1 := heap_alloc_new (w.alloc (.cells (frCells f D cap) 25)) (.cells #[.slice none 0 0, .int .i64 0, .int .i64 0] 32)
  rw [World.size_alloc] at hw1
  obtain ⟨arr, harr⟩ : ∃ arr : Array Value, arr = #[.nilFunc, .func (.func 96) #[] #[], .func (.func 97) #[] #[], .func (.func 98) #[] #[]] := ⟨_, rfl⟩
  have hB := hB1.alloc hB1.size (.cells arr 155)
  have hk := blk_alloc hk1 (.cells arr 155)
  have hw := blk_alloc hw1 (.cells arr 155)
  have ha := heap_alloc_new ((w.alloc (.cells (frCells f D cap) 25)).alloc (.cells #[.slice none 0 0, .int .i64 0, .int .i64 0] 32)) (.cells arr 155)
  simp only [World.size_alloc] at ha
  simp only [frCells, hkd] at hB hk hw ha
  rw [harr] at hB hk hw ha
  obtain ⟨w0, hw0⟩ : ∃ w0, w0 = ((w.alloc (.cells #[.int .i64 1, .int .u32 (f.id : Nat), .bool f.ext, .bool f.rtr, .bool f.brs, .bool f.esi, .bool f.sec, .int .u8 (f.sdt : Nat), .int .u8 (f.vcid : Nat), .int .u32 (f.af : Nat), .slice D f.data.length cap] 25)).alloc (.cells #[.slice none 0 0, .int .i64 0, .int .i64 0] 32)).alloc
      (.cells #[.nilFunc, .func (.func 96) #[] #[], .func (.func 97) #[] #[], .func (.func 98) #[] #[]] 155) := ⟨_, rfl⟩
  rw [← hw0] at hB hk hw ha
  have hcall := fun W (hW : Below w.heap.size w W) => cwire_any f D cap W hok hkd (hr.kept hW)
  have HCALL := Lib.hid hcall
  have HB := Lib.hid hB
  have HK := Lib.hid hk
  have HW := Lib.hid hw
  have HA := Lib.hid ha
  unfold frV
  rw [hkd]
  have HKD := Lib.hid hkd
  clear hwe hB1 hk1 hw1 harr hB hk hw ha hcall hkd hok hr
  go_enter Tryz.func59, Tryz.ntmps59
  go_wp2
  rw [← hw0]
  clear hw0
  have x0 := ext_cell_of (show w0.cell? ⟨w.heap.size, 0, none⟩ = some (.int .i64 1) from blk_cell HK.out 0)
  have x1 := ext_cell_of (show w0.cell? ⟨w.heap.size, 1, none⟩ = some (.int .u32 (f.id : Nat)) from blk_cell HK.out 1)
  have x2 := ext_cell_of (show w0.cell? ⟨w.heap.size, 2, none⟩ = some (.bool f.ext) from blk_cell HK.out 2)
  have x3 := ext_cell_of (show w0.cell? ⟨w.heap.size, 3, none⟩ = some (.bool f.rtr) from blk_cell HK.out 3)
  have x4 := ext_cell_of (show w0.cell? ⟨w.heap.size, 4, none⟩ = some (.bool f.brs) from blk_cell HK.out 4)
  have x5 := ext_cell_of (show w0.cell? ⟨w.heap.size, 5, none⟩ = some (.bool f.esi) from blk_cell HK.out 5)
  have x6 := ext_cell_of (show w0.cell? ⟨w.heap.size, 6, none⟩ = some (.bool f.sec) from blk_cell HK.out 6)
  have x7 := ext_cell_of (show w0.cell? ⟨w.heap.size, 7, none⟩ = some (.int .u8 (f.sdt : Nat)) from blk_cell HK.out 7)
  have x8 := ext_cell_of (show w0.cell? ⟨w.heap.size, 8, none⟩ = some (.int .u8 (f.vcid : Nat)) from blk_cell HK.out 8)
  have x9 := ext_cell_of (show w0.cell? ⟨w.heap.size, 9, none⟩ = some (.int .u32 (f.af : Nat)) from blk_cell HK.out 9)
  have x10 := ext_cell_of (show w0.cell? ⟨w.heap.size, 10, none⟩ = some (.slice D f.data.length cap) from blk_cell HK.out 10)
  have xa := ext_cell_of (show w0.cell? ⟨w.heap.size + 1 + 1, 1, none⟩ = some (.func (.func 96) #[] #[]) from blk_cell HA.out 1)
  refine wp_region_mix #[[], [0], [0, 1], [0, 1, 2], [], [0, 1, 2, 3, 4], [0, 1, 2, 3, 4, 5], [0, 1, 2, 3, 4, 5], [0, 1, 2, 3, 4, 5, 6, 7], [0, 1, 2, 3, 4, 5, 6, 7, 8]] [(0, 0), (1, 1), (2, 0), (3, 1), (4, 1), (5, 2), (6, 0), (7, 0), (8, 2), (9, 0)] (by kernel_rfl) (by kernel_rfl) ?_
  refine mg_in ?_
  repeat ((first | refine mg_py rfl rfl (fun K hK => ?_) | refine mg_sy rfl rfl (fun K hK => ?_)); go_simp; refine hK _ ?_; clear hK K)
  clear x0 x1 x2 x3 x4 x5 x6 x7 x8 x9 x10 xa
  have hc := HCALL.out w0.drew HB.out.drew
  unfold frV at hc
  rw [HKD.out] at hc
  refine mg_ef rfl ?_
  go_wp2_with fail
  refine hc.mono ?_
  rintro e w1 ⟨A, c, rfl, hO, hB1⟩
  have hBd : Below w0.heap.size w0 w1 := (Below.refl w0.heap.size w0).drew.trans hB1
  have HO := Lib.hid hO
  have HW1 := Lib.hid (blk_kept HW.out hBd)
  have HB1 := Lib.hid (below_then HB.out hBd)
  have HS := Lib.hid HB.out.size
  clear hc hO hB1 hBd
  have d0 : w1.cell? ⟨w.heap.size + 1, 0, none⟩ = some (.slice none 0 0) := blk_cell HW1.out 0
  have d1 : w1.cell? ⟨w.heap.size + 1, 1, none⟩ = some (.int .i64 0) := blk_cell HW1.out 1
  have d2 : w1.cell? ⟨w.heap.size + 1, 2, none⟩ = some (.int .i64 0) := blk_cell HW1.out 2
  have f0 := blk_free HW1.out 0
  have f1 := blk_free HW1.out 1
  have f2 := blk_free HW1.out 2
  unfold wireV
  go_wp2
  change MixG _ _ _ _ _ _
  repeat (refine mg_py rfl rfl (fun K hK => ?_); go_simp; refine hK _ ?_; clear hK K)
  refine mg_ef rfl ?_
  go_wp2
  change MixG _ _ _ _ _ _
  repeat (refine mg_py rfl rfl (fun K hK => ?_); go_simp; refine hK _ ?_; clear hK K)
  refine mg_end ?_
  go_wp2
  have hb3 := set3_blk HW1.out (.slice A (cWire f).bits.length c) (.int .i64 ((cWire f).arb : Nat)) (.int .i64 ((cWire f).ack : Nat))
  have hg3 := set3_grown w1 (w.heap.size + 1) (.slice A (cWire f).bits.length c) (.int .i64 ((cWire f).arb : Nat)) (.int .i64 ((cWire f).ack : Nat))
  have hO7 := own_mono (HO.out.kept hg3 (.inr (own_ne HO.out HW1.out (by decide)))) (show w.heap.size ≤ w0.drew.heap.size from HS.out)
  have hB7 := HB1.out.grown hg3 (by have := HB1.out.size; omega) (by intro k hk; cases hk; omega)
  have z0 := blk_cell hb3 0
  have z1 := blk_cell hb3 1
  have z2 := blk_cell hb3 2
  clear hb3 hg3 d0 d1 d2 f0 f1 f2
  refine bodyPost_ret (v := .tuple #[wireV (cWire f) A c, .int .i64 0]) ?_ rfl ⟨A, c, rfl, hO7, hB7⟩
  unfold wireV
  clear hO7 hB7
  generalize ((w1.setCell ⟨w.heap.size + 1, 0, none⟩ _).setCell ⟨w.heap.size + 1, 1, none⟩ _).setCell ⟨w.heap.size + 1, 2, none⟩ _ = X6 at *
  simp [results, Tryz.results59, go_sem, z0, z1, z2]
end Go.Proofs.YtnfnjmllgklaaaaGreat
