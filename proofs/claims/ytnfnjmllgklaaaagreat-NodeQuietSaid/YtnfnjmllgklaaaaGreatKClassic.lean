/- classic: the fields that grow, the head. -/
import Derived.Test.YtnfnjmllgklaaaaGreatKCheck
import Derived.Test.YtnfnjmllgklaaaaGreatKCopy
import Derived.Test.YtnfnjmllgklaaaaGreatKFault
set_option linter.unusedVariables false
set_option linter.unusedSimpArgs false
namespace Go.Proofs.YtnfnjmllgklaaaaGreat
open Go Go.RowKit Go.Shelf Om

/-- A struct of one row that grows. -/
def FieldsAt (T : TypeId) (W : World) (B b : Nat) (xs : List Bool) : Prop :=
  ∃ A c, W.heap[b]? = some (.cells #[.slice A (bitsV xs).length c] T (0, 0)) ∧ W.ownsRow B 5 1 (.slice A (bitsV xs).length c) (bitsV xs).length (bitsV xs)
theorem FieldsAt.new (T : TypeId) (W : World) (B : Nat) : FieldsAt T (W.alloc (.cells #[.slice none 0 0] T)) B W.heap.size [] := ⟨none, 0, heap_alloc_new W _, own_nil _ _ _⟩

set_option maxRecDepth 100000 in
set_option maxHeartbeats 1000000 in
theorem cput_any (B b n size : Nat) (xs : List Bool) (w : World) (h : FieldsAt 202 w B b xs) (hBb : B ≤ b) (hn : n < 2 ^ size) (hs : size < 64) (hl : xs.length ≤ 1000000) :
    Calls Tryz.prog 191 #[.pointer (some ⟨b, 0, none⟩), .int .u64 n, .int .i64 size] w fun e w' => e = .returned (.tuple #[]) ∧ FieldsAt 202 w' B b (xs ++ bitsOf n size) ∧ Below B w w' := by
  obtain ⟨A, c, hb, hO⟩ := h
  have hp := put_any n size w hn hs
  have hbl := lt_of_block hb
  have HB := Lib.hid hb
  have HO := Lib.hid hO
  have hsz := bitsOf_length n size
  have HS := Lib.hid hsz
  have HXL := Lib.hid hl
  clear hb hO hn hsz hl
  go_enter Tryz.func191, Tryz.ntmps191
  go_wp2_with fail
  refine hp.mono ?_
  rintro e w1 ⟨Ay, cy, rfl, hOy, hB1⟩
  have hb1 := blk_kept HB.out hB1
  have hO1 := own_kept HO.out hB1
  have hc1 := cell_of_one hb1
  have HB1 := Lib.hid hb1
  have HO1 := Lib.hid hO1
  have HOy := Lib.hid hOy
  have hBB := hB1.mono (B' := B) (by omega)
  have HBB := Lib.hid hBB
  have HSZ := Lib.hid hB1.size
  clear hp hb1 hO1 hOy hBB hB1
  go_wp2_with (at_builtin; refine apN B rfl _ _ _ _ _ _ rfl Tryz.underlying23 info5 rfl (by decide) (.slice A (bitsV xs).length c) (bitsV xs) (bitsV (bitsOf n size)) Ay (bitsV (bitsOf n size)).length cy rfl rfl rfl (bitsV_one _) HO1.out (own_rd HOy.out) HBB.out (by have := HSZ.out; omega) (by have := HXL.out; have := HS.out; rw [bitsV_length, bitsV_length]; omega) ?_; intro A2 c2 w2 hO2 hB2 hg2 _; have hbo2 := blk_grown HB1.out hg2 (own_ne HO1.out HB1.out (by decide)); have hc2 := cell_of_one hbo2; have hf2 := free_of_one hbo2)
  have HO2 := Lib.hid hO2
  have HBO2 := Lib.hid hbo2
  clear hO2 hbo2
  go_wp2
  go_end0
  have e1 : (bitsV xs).length + (bitsV (bitsOf n size)).length = (bitsV (xs ++ bitsOf n size)).length := by rw [bitsV_append, List.length_append]
  have e2 : bitsV xs ++ bitsV (bitsOf n size) = bitsV (xs ++ bitsOf n size) := (bitsV_append _ _).symm
  refine ⟨rfl, ⟨A2, c2, ?_, ?_⟩, hB2.setCell (p := ⟨b, 0, none⟩) hBb _⟩
  · rw [← e1]; exact one_setCell HBO2.out
  · rw [← e1, ← e2]; exact HO2.out.kept (grown_set _ ⟨b, 0, none⟩ _) (.inr (own_ne HO2.out HBO2.out (by decide)))

set_option maxRecDepth 100000 in
set_option maxHeartbeats 1000000 in
theorem cflag_any (B b : Nat) (x : Bool) (xs : List Bool) (w : World) (h : FieldsAt 202 w B b xs) (hBb : B ≤ b) (hl : xs.length ≤ 1000000) :
    Calls Tryz.prog 198 #[.pointer (some ⟨b, 0, none⟩), .bool x] w fun e w' => e = .returned (.tuple #[]) ∧ FieldsAt 202 w' B b (xs ++ [x]) ∧ Below B w w' := by
  cases x
  · have hp := cput_any B b 0 1 xs w h hBb (by decide) (by decide) hl
    rw [show bitsOf 0 1 = [false] by decide] at hp
    have HP := Lib.hid hp
    clear h hp
    go_enter Tryz.func198, Tryz.ntmps198
    go_wp2_with fail
    refine Calls.mono (show Calls _ _ #[.pointer (some ⟨b, 0, none⟩), .int .u64 0, .int .i64 1] _ _ from HP.out) ?_
    rintro e w1 ⟨rfl, hF, hB1⟩
    have HF := Lib.hid hF
    have HB := Lib.hid hB1
    clear hF hB1
    go_wp2
    go_end0
    exact ⟨rfl, HF.out, HB.out⟩
  · have hp := cput_any B b 1 1 xs w h hBb (by decide) (by decide) hl
    rw [show bitsOf 1 1 = [true] by decide] at hp
    have HP := Lib.hid hp
    clear h hp
    go_enter Tryz.func198, Tryz.ntmps198
    go_wp2_with fail
    refine Calls.mono (show Calls _ _ #[.pointer (some ⟨b, 0, none⟩), .int .u64 1, .int .i64 1] _ _ from HP.out) ?_
    rintro e w1 ⟨rfl, hF, hB1⟩
    have HF := Lib.hid hF
    have HB := Lib.hid hB1
    clear hF hB1
    go_wp2
    go_end0
    exact ⟨rfl, HF.out, HB.out⟩
end Go.Proofs.YtnfnjmllgklaaaaGreat

/- classic.head. -/
namespace Go.Proofs.YtnfnjmllgklaaaaGreat
open Go Go.RowKit Go.Shelf Om

theorem chead_std (f : Om.Frame) (h : f.ext = false) : cHead f = [] ++ bitsOf 0 1 ++ bitsOf f.id 11 ++ [f.rtr] ++ bitsOf 0 2 := by
  rw [cHead, h, show bitsOf 0 1 = [false] by decide, show bitsOf 0 2 = [false, false] by decide]; simp
theorem chead_ext (f : Om.Frame) (h : f.ext = true) : cHead f = [] ++ bitsOf 0 1 ++ bitsOf (f.id / 262144) 11 ++ bitsOf 3 2 ++ bitsOf (f.id % 262144) 18 ++ [f.rtr] ++ bitsOf 0 2 := by
  rw [cHead, h, show bitsOf 0 1 = [false] by decide, show bitsOf 0 2 = [false, false] by decide, show bitsOf 3 2 = [true, true] by decide]; simp
theorem chead_length (f : Om.Frame) : (cHead f).length ≤ 35 := by
  cases h : f.ext
  · rw [chead_std f h]; simp [bitsOf_length]
  · rw [chead_ext f h]; simp only [List.length_append, bitsOf_length, List.length_cons, List.length_nil]; decide

set_option maxRecDepth 100000 in
set_option maxHeartbeats 4000000 in
theorem chead_any (f : Om.Frame) (D : Option Addr) (cap : Nat) (w : World) (hok : f.ok = true) :
    Calls Tryz.prog 151 #[frV f D cap] w fun e w' => e = .returned (.pointer (some ⟨w.heap.size + 1, 0, none⟩)) ∧ FieldsAt 202 w' (w.heap.size + 1) (w.heap.size + 1) (cHead f) ∧ Below w.heap.size w w' := by
  have hid := ok_id hok
  have hk0 := blk_alloc (heap_alloc_new w (.cells (frCells f D cap) 25)) (.cells #[.slice none 0 0] 202)
  have hB0 := two_boxes w (.cells (frCells f D cap) 25) (.cells #[.slice none 0 0] 202)
  have hF0 := FieldsAt.new 202 (w.alloc (.cells (frCells f D cap) 25)) (w.heap.size + 1)
  rw [World.size_alloc] at hF0
  have put := fun (n size : Nat) (xs : List Bool) (W : World) (hF : FieldsAt 202 W (w.heap.size + 1) (w.heap.size + 1) xs) (hn : n < 2 ^ size) (hs : size < 64) (hl : xs.length ≤ 1000000) => cput_any (w.heap.size + 1) (w.heap.size + 1) n size xs W hF (Nat.le_refl _) hn hs hl
  have flag := fun (x : Bool) (xs : List Bool) (W : World) (hF : FieldsAt 202 W (w.heap.size + 1) (w.heap.size + 1) xs) (hl : xs.length ≤ 1000000) => cflag_any (w.heap.size + 1) (w.heap.size + 1) x xs W hF (Nat.le_refl _) hl
  have HPUT := Lib.hid put
  have HFLAG := Lib.hid flag
  obtain ⟨x, hx⟩ : ∃ x, x = f.ext := ⟨_, rfl⟩
  have hstd := chead_std f
  have hexx := chead_ext f
  simp only [frCells] at hk0 hB0 hF0
  unfold frV
  rw [← hx] at hid hk0 hB0 hF0 hstd hexx ⊢
  clear put flag hok hx
  cases x
  · have heq := hstd rfl
    simp only [Bool.false_eq_true, if_false] at hid
    rw [heq]
    have HID := Lib.hid hid
    have hw1 : IntKind.u64.wrap ((f.id : Nat) : Int) = ((f.id : Nat) : Int) := wrapU _ (by omega) (by omega)
    clear hid heq hstd hexx
    have HF0 := Lib.hid hF0
    have HB0 := Lib.hid hB0
    have HK0 := Lib.hid hk0
    clear hF0 hB0 hk0
    go_enter Tryz.func151, Tryz.ntmps151
    go_wp2_with fail
    refine Calls.mono (show Calls _ _ #[.pointer (some ⟨w.heap.size + 1, 0, none⟩), .int .u64 0, .int .i64 1] _ _ from HPUT.out 0 1 _ _ HF0.out (by decide) (by decide) (by simp only [List.length_append, bitsOf_length, List.length_cons, List.length_nil]; decide)) ?_
    rintro e w1 ⟨rfl, hF1, hb1⟩
    have HF1 := Lib.hid hF1
    have HB1 := Lib.hid (HB0.out.trans (hb1.mono (Nat.le_succ _)))
    have HK1 := Lib.hid (blk_below HK0.out hb1 (Nat.lt_succ_self _))
    clear hF1 hb1
    have c1 : w1.cell? ⟨w.heap.size, 1, none⟩ = some (.int .u32 (f.id : Nat)) := by rw [blk_cell HK1.out]; rfl
    have c2 : w1.cell? ⟨w.heap.size, 2, none⟩ = some (.bool false) := by rw [blk_cell HK1.out]; rfl
    have c3 : w1.cell? ⟨w.heap.size, 3, none⟩ = some (.bool f.rtr) := by rw [blk_cell HK1.out]; rfl
    go_wp2_with fail
    refine Calls.mono (show Calls _ _ #[.pointer (some ⟨w.heap.size + 1, 0, none⟩), .int .u64 (f.id : Nat), .int .i64 11] _ _ from HPUT.out f.id 11 _ _ HF1.out (HID.out) (by decide) (by simp only [List.length_append, bitsOf_length, List.length_cons, List.length_nil]; decide)) ?_
    rintro e w2 ⟨rfl, hF2, hb2⟩
    have HF2 := Lib.hid hF2
    have HB2 := Lib.hid (HB1.out.trans (hb2.mono (Nat.le_succ _)))
    have HK2 := Lib.hid (blk_below HK1.out hb2 (Nat.lt_succ_self _))
    clear hF2 hb2 c1 c2 c3
    have c1 : w2.cell? ⟨w.heap.size, 1, none⟩ = some (.int .u32 (f.id : Nat)) := by rw [blk_cell HK2.out]; rfl
    have c2 : w2.cell? ⟨w.heap.size, 2, none⟩ = some (.bool false) := by rw [blk_cell HK2.out]; rfl
    have c3 : w2.cell? ⟨w.heap.size, 3, none⟩ = some (.bool f.rtr) := by rw [blk_cell HK2.out]; rfl
    go_wp2_with fail
    refine Calls.mono (show Calls _ _ #[.pointer (some ⟨w.heap.size + 1, 0, none⟩), .bool f.rtr] _ _ from HFLAG.out f.rtr _ _ HF2.out (by simp only [List.length_append, bitsOf_length, List.length_cons, List.length_nil]; decide)) ?_
    rintro e w3 ⟨rfl, hF3, hb3⟩
    have HF3 := Lib.hid hF3
    have HB3 := Lib.hid (HB2.out.trans (hb3.mono (Nat.le_succ _)))
    have HK3 := Lib.hid (blk_below HK2.out hb3 (Nat.lt_succ_self _))
    clear hF3 hb3 c1 c2 c3
    have c1 : w3.cell? ⟨w.heap.size, 1, none⟩ = some (.int .u32 (f.id : Nat)) := by rw [blk_cell HK3.out]; rfl
    have c2 : w3.cell? ⟨w.heap.size, 2, none⟩ = some (.bool false) := by rw [blk_cell HK3.out]; rfl
    have c3 : w3.cell? ⟨w.heap.size, 3, none⟩ = some (.bool f.rtr) := by rw [blk_cell HK3.out]; rfl
    go_wp2_with fail
    refine Calls.mono (show Calls _ _ #[.pointer (some ⟨w.heap.size + 1, 0, none⟩), .int .u64 0, .int .i64 2] _ _ from HPUT.out 0 2 _ _ HF3.out (by decide) (by decide) (by simp only [List.length_append, bitsOf_length, List.length_cons, List.length_nil]; decide)) ?_
    rintro e w4 ⟨rfl, hF4, hb4⟩
    have HF4 := Lib.hid hF4
    have HB4 := Lib.hid (HB3.out.trans (hb4.mono (Nat.le_succ _)))
    have HK4 := Lib.hid (blk_below HK3.out hb4 (Nat.lt_succ_self _))
    clear hF4 hb4 c1 c2 c3
    have c1 : w4.cell? ⟨w.heap.size, 1, none⟩ = some (.int .u32 (f.id : Nat)) := by rw [blk_cell HK4.out]; rfl
    have c2 : w4.cell? ⟨w.heap.size, 2, none⟩ = some (.bool false) := by rw [blk_cell HK4.out]; rfl
    have c3 : w4.cell? ⟨w.heap.size, 3, none⟩ = some (.bool f.rtr) := by rw [blk_cell HK4.out]; rfl
    go_wp2
    go_ret
    exact ⟨rfl, HF4.out, HB4.out⟩
  · have heq := hexx rfl
    simp only [if_true] at hid
    rw [heq]
    have h1 : f.id / 262144 < 2 ^ 11 := by omega
    have h2 : f.id % 262144 < 2 ^ 18 := by omega
    have hw1 : IntKind.u64.wrap (((f.id : Nat) : Int) / 262144) = ((f.id / 262144 : Nat) : Int) := by rw [wrapU _ (by omega) (by omega)]; omega
    have hw2 : bits BinOp.and IntKind.u32 ((f.id : Nat) : Int) 262143 = ((f.id % 262144 : Nat) : Int) := by
      have := u32_and_nat f.id 262143 (by omega) (by omega)
      rw [show (262143 : Nat) = 2 ^ 18 - 1 from rfl, Nat.and_two_pow_sub_one_eq_mod] at this
      exact this
    have hw3 : IntKind.u64.wrap ((f.id % 262144 : Nat) : Int) = ((f.id % 262144 : Nat) : Int) := wrapU _ (by omega) (by omega)
    have HI1 := Lib.hid h1
    have HI2 := Lib.hid h2
    clear hid heq hstd hexx h1 h2
    have HF0 := Lib.hid hF0
    have HB0 := Lib.hid hB0
    have HK0 := Lib.hid hk0
    clear hF0 hB0 hk0
    go_enter Tryz.func151, Tryz.ntmps151
    go_wp2_with fail
    refine Calls.mono (show Calls _ _ #[.pointer (some ⟨w.heap.size + 1, 0, none⟩), .int .u64 0, .int .i64 1] _ _ from HPUT.out 0 1 _ _ HF0.out (by decide) (by decide) (by simp only [List.length_append, bitsOf_length, List.length_cons, List.length_nil]; decide)) ?_
    rintro e w1 ⟨rfl, hF1, hb1⟩
    have HF1 := Lib.hid hF1
    have HB1 := Lib.hid (HB0.out.trans (hb1.mono (Nat.le_succ _)))
    have HK1 := Lib.hid (blk_below HK0.out hb1 (Nat.lt_succ_self _))
    clear hF1 hb1
    have c1 : w1.cell? ⟨w.heap.size, 1, none⟩ = some (.int .u32 (f.id : Nat)) := by rw [blk_cell HK1.out]; rfl
    have c2 : w1.cell? ⟨w.heap.size, 2, none⟩ = some (.bool true) := by rw [blk_cell HK1.out]; rfl
    have c3 : w1.cell? ⟨w.heap.size, 3, none⟩ = some (.bool f.rtr) := by rw [blk_cell HK1.out]; rfl
    go_wp2_with fail
    refine Calls.mono (show Calls _ _ #[.pointer (some ⟨w.heap.size + 1, 0, none⟩), .int .u64 (f.id / 262144 : Nat), .int .i64 11] _ _ from HPUT.out (f.id / 262144) 11 _ _ HF1.out (HI1.out) (by decide) (by simp only [List.length_append, bitsOf_length, List.length_cons, List.length_nil]; decide)) ?_
    rintro e w2 ⟨rfl, hF2, hb2⟩
    have HF2 := Lib.hid hF2
    have HB2 := Lib.hid (HB1.out.trans (hb2.mono (Nat.le_succ _)))
    have HK2 := Lib.hid (blk_below HK1.out hb2 (Nat.lt_succ_self _))
    clear hF2 hb2 c1 c2 c3
    have c1 : w2.cell? ⟨w.heap.size, 1, none⟩ = some (.int .u32 (f.id : Nat)) := by rw [blk_cell HK2.out]; rfl
    have c2 : w2.cell? ⟨w.heap.size, 2, none⟩ = some (.bool true) := by rw [blk_cell HK2.out]; rfl
    have c3 : w2.cell? ⟨w.heap.size, 3, none⟩ = some (.bool f.rtr) := by rw [blk_cell HK2.out]; rfl
    go_wp2_with fail
    refine Calls.mono (show Calls _ _ #[.pointer (some ⟨w.heap.size + 1, 0, none⟩), .int .u64 3, .int .i64 2] _ _ from HPUT.out 3 2 _ _ HF2.out (by decide) (by decide) (by simp only [List.length_append, bitsOf_length, List.length_cons, List.length_nil]; decide)) ?_
    rintro e w3 ⟨rfl, hF3, hb3⟩
    have HF3 := Lib.hid hF3
    have HB3 := Lib.hid (HB2.out.trans (hb3.mono (Nat.le_succ _)))
    have HK3 := Lib.hid (blk_below HK2.out hb3 (Nat.lt_succ_self _))
    clear hF3 hb3 c1 c2 c3
    have c1 : w3.cell? ⟨w.heap.size, 1, none⟩ = some (.int .u32 (f.id : Nat)) := by rw [blk_cell HK3.out]; rfl
    have c2 : w3.cell? ⟨w.heap.size, 2, none⟩ = some (.bool true) := by rw [blk_cell HK3.out]; rfl
    have c3 : w3.cell? ⟨w.heap.size, 3, none⟩ = some (.bool f.rtr) := by rw [blk_cell HK3.out]; rfl
    go_wp2_with fail
    refine Calls.mono (show Calls _ _ #[.pointer (some ⟨w.heap.size + 1, 0, none⟩), .int .u64 (f.id % 262144 : Nat), .int .i64 18] _ _ from HPUT.out (f.id % 262144) 18 _ _ HF3.out (HI2.out) (by decide) (by simp only [List.length_append, bitsOf_length, List.length_cons, List.length_nil]; decide)) ?_
    rintro e w4 ⟨rfl, hF4, hb4⟩
    have HF4 := Lib.hid hF4
    have HB4 := Lib.hid (HB3.out.trans (hb4.mono (Nat.le_succ _)))
    have HK4 := Lib.hid (blk_below HK3.out hb4 (Nat.lt_succ_self _))
    clear hF4 hb4 c1 c2 c3
    have c1 : w4.cell? ⟨w.heap.size, 1, none⟩ = some (.int .u32 (f.id : Nat)) := by rw [blk_cell HK4.out]; rfl
    have c2 : w4.cell? ⟨w.heap.size, 2, none⟩ = some (.bool true) := by rw [blk_cell HK4.out]; rfl
    have c3 : w4.cell? ⟨w.heap.size, 3, none⟩ = some (.bool f.rtr) := by rw [blk_cell HK4.out]; rfl
    go_wp2_with fail
    refine Calls.mono (show Calls _ _ #[.pointer (some ⟨w.heap.size + 1, 0, none⟩), .bool f.rtr] _ _ from HFLAG.out f.rtr _ _ HF4.out (by simp only [List.length_append, bitsOf_length, List.length_cons, List.length_nil]; decide)) ?_
    rintro e w5 ⟨rfl, hF5, hb5⟩
    have HF5 := Lib.hid hF5
    have HB5 := Lib.hid (HB4.out.trans (hb5.mono (Nat.le_succ _)))
    have HK5 := Lib.hid (blk_below HK4.out hb5 (Nat.lt_succ_self _))
    clear hF5 hb5 c1 c2 c3
    have c1 : w5.cell? ⟨w.heap.size, 1, none⟩ = some (.int .u32 (f.id : Nat)) := by rw [blk_cell HK5.out]; rfl
    have c2 : w5.cell? ⟨w.heap.size, 2, none⟩ = some (.bool true) := by rw [blk_cell HK5.out]; rfl
    have c3 : w5.cell? ⟨w.heap.size, 3, none⟩ = some (.bool f.rtr) := by rw [blk_cell HK5.out]; rfl
    go_wp2_with fail
    refine Calls.mono (show Calls _ _ #[.pointer (some ⟨w.heap.size + 1, 0, none⟩), .int .u64 0, .int .i64 2] _ _ from HPUT.out 0 2 _ _ HF5.out (by decide) (by decide) (by simp only [List.length_append, bitsOf_length, List.length_cons, List.length_nil]; decide)) ?_
    rintro e w6 ⟨rfl, hF6, hb6⟩
    have HF6 := Lib.hid hF6
    have HB6 := Lib.hid (HB5.out.trans (hb6.mono (Nat.le_succ _)))
    have HK6 := Lib.hid (blk_below HK5.out hb6 (Nat.lt_succ_self _))
    clear hF6 hb6 c1 c2 c3
    have c1 : w6.cell? ⟨w.heap.size, 1, none⟩ = some (.int .u32 (f.id : Nat)) := by rw [blk_cell HK6.out]; rfl
    have c2 : w6.cell? ⟨w.heap.size, 2, none⟩ = some (.bool true) := by rw [blk_cell HK6.out]; rfl
    have c3 : w6.cell? ⟨w.heap.size, 3, none⟩ = some (.bool f.rtr) := by rw [blk_cell HK6.out]; rfl
    go_wp2
    go_ret
    exact ⟨rfl, HF6.out, HB6.out⟩
end Go.Proofs.YtnfnjmllgklaaaaGreat

/- classic.Body. -/
namespace Go.Proofs.YtnfnjmllgklaaaaGreat
open Go Go.RowKit Go.Shelf Om

theorem code_1 (n : Nat) (h : n ≤ 8) : codeOf 1 n = some n := by simp [codeOf, h]
theorem cbody_eq (f : Om.Frame) : cBody f = crcAdd 1 ((cHead f ++ bitsOf f.data.length 4) ++ bytesBits f.data) := rfl

set_option maxRecDepth 100000 in
set_option maxHeartbeats 4000000 in
theorem cbody_any (f : Om.Frame) (D : Option Addr) (cap : Nat) (w : World) (hok : f.ok = true) (hkd : f.kind = 1) (hr : Rd w D (bytesV f.data)) :
    Calls Tryz.prog 149 #[frV f D cap] w (Row2Post 5 w.heap.size (bitsV (cBody f)) w) := by
  obtain ⟨h8, -⟩ := ok_1 hok hkd
  have hchk := fun W => fcheckf_any f D cap W (by omega)
  rw [if_pos hok] at hchk
  have hhead := fun W => chead_any f D cap W hok
  have hcode := fun W => code_any 1 f.data.length W (by omega)
  unfold codeV at hcode
  rw [code_1 _ h8] at hcode
  simp only [Option.getD_some, Option.isSome_some, if_true] at hcode
  have hk0 := heap_alloc_new w (.cells (frCells f D cap) 25)
  have hB0 := (Below.refl w.heap.size w).alloc (Nat.le_refl _) (.cells (frCells f D cap) 25)
  have hw1 : IntKind.u64.wrap ((f.data.length : Nat) : Int) = ((f.data.length : Nat) : Int) := wrapU _ (by omega) (by omega)
  have HH8 := Lib.hid h8
  have HRD := Lib.hid hr
  have HHD := Lib.hid (chead_length f)
  have HBE := Lib.hid (cbody_eq f)
  have HOK := Lib.hid hok
  simp only [frCells] at hk0 hB0
  unfold frV at hchk hhead ⊢
  rw [hkd] at hchk hhead hk0 hB0 ⊢
  have HKD := Lib.hid hkd
  clear h8 hr hok hkd
  go_enter Tryz.func149, Tryz.ntmps149
  go_wp2_with fail
  refine (hchk _).mono ?_
  rintro e w1 ⟨rfl, hB1⟩
  have hk1 := blk_below hk0 hB1 (by simp)
  have HB1 := Lib.hid (hB0.trans (hB1.mono (by simp)))
  have HK1 := Lib.hid hk1
  clear hchk hk0 hB0 hB1 hk1
  obtain ⟨c0, c1, c2, c3, c4, c5, c6, c7, c8, c9, c10⟩ := fr_cells (f := { f with kind := 1 }) HK1.out
  simp only at c0 c1 c2 c3 c4 c5 c6 c7 c8 c9 c10
  go_wp2_with fail
  refine (hhead _).mono ?_
  rintro e w2 ⟨rfl, hF2, hB2⟩
  clear c0 c1 c2 c3 c4 c5 c6 c7 c8 c9 c10 hhead
  have HF2 := Lib.hid hF2
  have HK2 := Lib.hid (blk_below HK1.out hB2 (lt_of_block HK1.out))
  have HB2 := Lib.hid (HB1.out.trans (hB2.mono HB1.out.size))
  have HS2 := Lib.hid hB2.size
  clear hF2 hB2
  have hK2 := HK2.out
  have c0 : w2.cell? ⟨w.heap.size, 0, none⟩ = some (.int .i64 1) := by rw [blk_cell hK2]; rfl
  have c10 : w2.cell? ⟨w.heap.size, 10, none⟩ = some (.slice D f.data.length cap) := by rw [blk_cell hK2]; rfl
  clear hK2
  go_wp2_with fail
  refine (hcode _).mono ?_
  rintro e w3 ⟨rfl, hB3⟩
  clear c0 c10 hcode
  obtain ⟨b, hb⟩ : ∃ b, b = w1.heap.size + 1 := ⟨_, rfl⟩
  rw [← hb]
  rw [← hb] at HF2
  obtain ⟨A2, cc2, hfb, hfo⟩ := HF2.out
  have HF3 : Hid (FieldsAt 202 w3 b b (cHead f)) := Lib.hid ⟨A2, cc2, blk_kept hfb hB3, own_kept hfo hB3⟩
  have HK3 := Lib.hid (blk_kept HK2.out hB3)
  have HB3 := Lib.hid (below_then HB2.out hB3)
  clear hfb hfo hB3
  have HLT : Hid (w.heap.size < b) := Lib.hid (by have := lt_of_block HK1.out; omega)
  clear hb
  have hput := cput_any b b f.data.length 4 (cHead f) w3 HF3.out (Nat.le_refl _) (by have := HH8.out; omega) (by decide) (by have := HHD.out; omega)
  go_wp2_with fail
  refine Calls.mono (show Calls _ _ #[.pointer (some ⟨b, 0, none⟩), .int .u64 (f.data.length : Nat), .int .i64 4] _ _ from hput) ?_
  rintro e w4 ⟨rfl, ⟨A4, cc4, hb4, hO4⟩, hB4⟩
  have HK4 := Lib.hid (blk_below HK3.out hB4 HLT.out)
  have HB4 := Lib.hid (HB3.out.trans (hB4.mono (Nat.le_of_lt HLT.out)))
  have hK4 := HK4.out
  have c10 : w4.cell? ⟨w.heap.size, 10, none⟩ = some (.slice D f.data.length cap) := by rw [blk_cell hK4]; rfl
  have d0 := cell_of_one hb4
  have x0 := ext_cell_of d0
  have x10 := ext_cell_of c10
  have HO4 := Lib.hid hO4
  have HBB4 := Lib.hid hb4
  clear hK4 hput hB4 hb4 hO4 c10 d0
  go_wp2
  refine wp_region_mix #[[], [0], [0, 1], [0, 1, 2], [], [4], [4, 5], [0, 1, 2, 3, 4, 5, 6], [0, 1, 2, 3, 4, 5, 6, 7], [0, 1, 2, 3, 4, 5, 6, 7, 8], [0, 1, 2, 3, 4, 5, 6, 7, 8, 9], [0, 1, 2, 3, 4, 5, 6, 7, 8, 9], [0, 1, 2, 3, 4, 5, 6, 7, 8, 9, 10, 11], [0, 1, 2, 3, 4, 5, 6, 7, 8, 9, 10, 11, 12]] [(0, 0), (1, 0), (2, 0), (3, 1), (4, 0), (5, 1), (6, 3), (7, 2), (8, 2), (9, 2), (10, 0), (11, 0), (12, 0), (13, 0)] (by kernel_rfl) (by kernel_rfl) ?_
  refine mg_in ?_
  repeat ((first | refine mg_py rfl rfl (fun K hK => ?_) | refine mg_sy rfl rfl (fun K hK => ?_)); go_simp; refine hK _ ?_; clear hK K)
  clear x0 x10
  have hd4 : Below w4.heap.size w4 w4.drew := (Below.refl _ _).drew
  have hby := bytes_any D cap f.data w4.drew ((HRD.out.kept HB4.out).kept hd4) (by have := HH8.out; omega)
  refine mg_kp rfl ?_
  go_wp2_with fail
  refine hby.mono ?_
  rintro e w5 ⟨A5, c5, rfl, hO5, hB5⟩
  have HB5 := Lib.hid hB5
  have HB54 := Lib.hid (hd4.trans hB5)
  have HO5 := Lib.hid hO5
  clear hby hd4 hB5 hO5
  go_wp2
  refine ⟨HB5.out, ?_⟩
  refine mg_ef rfl ?_
  go_wp2
  change MixG _ _ _ _ _ _
  refine mg_ef rfl ?_
  have hO45 := own_kept HO4.out HB54.out
  have hlen : (cHead f ++ bitsOf f.data.length 4).length ≤ 39 := by have := HHD.out; rw [List.length_append, bitsOf_length]; omega
  have hlen2 : (bytesBits f.data).length ≤ 64 := by have := HH8.out; rw [bytesBits_length]; omega
  have hcat := concat_new [(A4, cc4, bitsV (cHead f ++ bitsOf f.data.length 4)), (A5, c5, bitsV (bytesBits f.data))] #[.slice A4 (bitsV (cHead f ++ bitsOf f.data.length 4)).length cc4, .slice A5 (bitsV (bytesBits f.data)).length c5] w5 rfl
    (by intro r hr; rcases List.mem_cons.1 hr with rfl | hr; exact ⟨own_rd hO45, bitsV_one _⟩; rcases List.mem_cons.1 hr with rfl | hr; exact ⟨own_rd HO5.out, bitsV_one _⟩; cases hr) (by simp [catOf, bitsV_length]; simp at hlen; omega) 2 rfl (by decide)
  have hce : catOf [(A4, cc4, bitsV (cHead f ++ bitsOf f.data.length 4)), (A5, c5, bitsV (bytesBits f.data))] = bitsV ((cHead f ++ bitsOf f.data.length 4) ++ bytesBits f.data) := by simp [catOf, bitsV_append]
  obtain ⟨X, hX⟩ : ∃ X, X = (cHead f ++ bitsOf f.data.length 4) ++ bytesBits f.data := ⟨_, rfl⟩
  have hXB := HBE.out
  rw [← hX] at hXB
  rw [hce, ← hX] at hcat
  have HXB := Lib.hid hXB
  have HXL : Hid (X.length ≤ 65536) := Lib.hid (by rw [hX, List.length_append]; omega)
  clear hX hXB
  have HL := Lib.hid hlen
  have HL2 := Lib.hid hlen2
  clear hO45 hlen hlen2 hce
  go_wp2_with fail
  refine hcat.mono ?_
  rintro e w6 ⟨A6, c6, rfl, hO6, hB6⟩
  rw [bitsV_length] at hO6
  have hadd := add_any 1 A6 c6 X w6 (by decide) (by decide) HXL.out (own_cap hO6) (own_rd hO6)
  rw [← HXB.out] at hadd
  have HB6 := Lib.hid (below_then (below_then HB4.out HB54.out) hB6)
  clear hcat hO6 hB6
  simp only [bitsV_length]
  go_wp2
  change MixG _ _ _ _ _ _
  refine mg_ef rfl ?_
  go_wp2_with fail
  refine Calls.mono (show Calls _ _ #[.int .i64 1, .slice A6 X.length c6] _ _ from hadd) ?_
  rintro e w7 ⟨A7, c7, rfl, hO7, hB7⟩
  have HO7 := Lib.hid hO7
  have HB7 := Lib.hid (below_then HB6.out hB7)
  have HS7 := Lib.hid HB6.out.size
  clear hadd hO7 hB7
  go_wp2
  change MixG _ _ _ _ _ _
  repeat (refine mg_py rfl rfl (fun K hK => ?_); go_simp; refine hK _ ?_; clear hK K)
  refine mg_end ?_
  go_wp2
  go_ret2
  exact ⟨A7, c7, rfl, own_mono HO7.out HS7.out, HB7.out⟩
end Go.Proofs.YtnfnjmllgklaaaaGreat
