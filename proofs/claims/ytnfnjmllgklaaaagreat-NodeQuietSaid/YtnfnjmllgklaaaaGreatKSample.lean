/- Sample, out of what a phase does. -/
import Derived.Test.YtnfnjmllgklaaaaGreatKNodeF
set_option linter.unusedVariables false
set_option linter.unusedSimpArgs false
namespace Go.Proofs.YtnfnjmllgklaaaaGreat
open Go Go.RowKit Go.Shelf Om

/-- What Sample asks of a phase's contract. -/
def SampleOf (w : World) (P : Ev → Option Addr → Nat → World → World → Prop) (e : Ending) (w' : World) : Prop :=
  ∃ ev D c W W1, e = .returned (.tuple #[evV ev D c, .int .i64 0]) ∧ Below w.heap.size w W ∧ w.heap.size < W.heap.size ∧ P ev D c W W1 ∧ W1.grownBy w' (some w.heap.size)

set_option maxRecDepth 100000 in
set_option maxHeartbeats 2000000 in
theorem sample_0 (b : Nat) (x : Bool) (w : World) (cs : Array Value) (h : w.heap[b]? = some (.cells cs 120 (0, 0))) (hp : cs[16]? = some (.int .i64 0)) (P : Ev → Option Addr → Nat → World → World → Prop)
    (hcall : ∀ W, Below w.heap.size w W → Calls Tryz.prog 65 #[.pointer (some ⟨b, 0, none⟩), .int .u8 (bi x)] W fun e W' => ∃ ev D c, e = .returned (evV ev D c) ∧ P ev D c W W')
    (hkeep : ∀ ev D c W W1, w.heap.size < W.heap.size → P ev D c W W1 → W1.heap[w.heap.size]? = W.heap[w.heap.size]?) :
    Calls Tryz.prog 21 #[.pointer (some ⟨b, 0, none⟩), .int .u8 (bi x)] w (SampleOf w P) := by
  have c16 : w.cell? ⟨b, 16, none⟩ = some (.int .i64 0) := by rw [blk_cell h]; exact hp
  have hx : ¬ (bi x > 1) := by cases x <;> decide
  have hlt := lt_of_block h
  have HCALL := Lib.hid hcall
  have HKEEP := Lib.hid hkeep
  clear h hp hcall hkeep
  generalize bi x = y at *
  go_enter Tryz.func21, Tryz.ntmps21
  go_wp2_with fail
  refine (HCALL.out _ ?_).mono ?_
  · exact ((Below.refl w.heap.size w).alloc (Nat.le_refl _) _).alloc (by simp) _
  rintro e w1 ⟨ev, D, c, rfl, hP⟩
  have hz := HKEEP.out _ _ _ _ _ (by simp; omega) hP
  have hn := blk_alloc (heap_alloc_new w (.cells #[.int .i64 0, .int .i64 0, .int .i64 0, .int .u32 0, .bool false, .bool false, .bool false, .bool false, .bool false, .int .u8 0, .int .u8 0, .int .u32 0, .slice none 0 0] 37)) (.cells #[.func (.func 65) #[] #[], .func (.func 66) #[] #[], .func (.func 67) #[] #[], .func (.func 68) #[] #[], .func (.func 69) #[] #[], .func (.func 70) #[] #[], .func (.func 70) #[] #[], .func (.func 71) #[] #[], .func (.func 72) #[] #[], .func (.func 73) #[] #[], .func (.func 74) #[] #[], .func (.func 75) #[] #[]] 126)
  have hn1 := hz.trans hn
  have HP := Lib.hid hP
  have HN1 := Lib.hid hn1
  clear hP hz hn hn1
  obtain ⟨d0, d1, d2, d3, d4, d5, d6, d7, d8, d9, d10, d11, d12⟩ := ev0_cells HN1.out
  obtain ⟨g0, g1, g2, g3, g4, g5, g6, g7, g8, g9, g10, g11, g12⟩ := free_13 HN1.out
  unfold evV evCells
  go_wp2
  have hs := set13_blk (show w1.heap[w.heap.size]? = some (.cells #[.int .i64 0, .int .i64 0, .int .i64 0, .int .u32 0, .bool false, .bool false, .bool false, .bool false, .bool false, .int .u8 0, .int .u8 0, .int .u32 0, .slice none 0 0] 37 (0, 0)) from HN1.out) (.int .i64 (ev.kind : Nat)) (.int .i64 (ev.err : Nat)) (.int .i64 ev.f.kind) (.int .u32 (ev.f.id : Nat)) (.bool ev.f.ext) (.bool ev.f.rtr) (.bool ev.f.brs) (.bool ev.f.esi) (.bool ev.f.sec) (.int .u8 (ev.f.sdt : Nat)) (.int .u8 (ev.f.vcid : Nat)) (.int .u32 (ev.f.af : Nat)) (.slice D ev.f.data.length c)
  have hg := set13_grown w1 w.heap.size (.int .i64 (ev.kind : Nat)) (.int .i64 (ev.err : Nat)) (.int .i64 ev.f.kind) (.int .u32 (ev.f.id : Nat)) (.bool ev.f.ext) (.bool ev.f.rtr) (.bool ev.f.brs) (.bool ev.f.esi) (.bool ev.f.sec) (.int .u8 (ev.f.sdt : Nat)) (.int .u8 (ev.f.vcid : Nat)) (.int .u32 (ev.f.af : Nat)) (.slice D ev.f.data.length c)
  clear d0 d1 d2 d3 d4 d5 d6 d7 d8 d9 d10 d11 d12 g0 g1 g2 g3 g4 g5 g6 g7 g8 g9 g10 g11 g12
  have z0 := blk_cell hs 0
  have z1 := blk_cell hs 1
  have z2 := blk_cell hs 2
  have z3 := blk_cell hs 3
  have z4 := blk_cell hs 4
  have z5 := blk_cell hs 5
  have z6 := blk_cell hs 6
  have z7 := blk_cell hs 7
  have z8 := blk_cell hs 8
  have z9 := blk_cell hs 9
  have z10 := blk_cell hs 10
  have z11 := blk_cell hs 11
  have z12 := blk_cell hs 12
  refine bodyPost_ret (v := .tuple #[evV ev D c, .int .i64 0]) ?_ rfl ⟨ev, D, c, _, w1, rfl, ((Below.refl w.heap.size w).alloc (Nat.le_refl _) _).alloc (by simp) _, (by simp; omega), HP.out, hg⟩
  unfold evV evCells
  clear hg hs
  generalize (((((((((((((w1).setCell ⟨w.heap.size, 0, none⟩ _).setCell ⟨w.heap.size, 1, none⟩ _).setCell ⟨w.heap.size, 2, none⟩ _).setCell ⟨w.heap.size, 3, none⟩ _).setCell ⟨w.heap.size, 4, none⟩ _).setCell ⟨w.heap.size, 5, none⟩ _).setCell ⟨w.heap.size, 6, none⟩ _).setCell ⟨w.heap.size, 7, none⟩ _).setCell ⟨w.heap.size, 8, none⟩ _).setCell ⟨w.heap.size, 9, none⟩ _).setCell ⟨w.heap.size, 10, none⟩ _).setCell ⟨w.heap.size, 11, none⟩ _).setCell ⟨w.heap.size, 12, none⟩ _ = X1 at *
  simp [results, Tryz.results21, go_sem, z0, z1, z2, z3, z4, z5, z6, z7, z8, z9, z10, z11, z12]

set_option maxRecDepth 100000 in
set_option maxHeartbeats 2000000 in
theorem sample_1 (b : Nat) (x : Bool) (w : World) (cs : Array Value) (h : w.heap[b]? = some (.cells cs 120 (0, 0))) (hp : cs[16]? = some (.int .i64 1)) (P : Ev → Option Addr → Nat → World → World → Prop)
    (hcall : ∀ W, Below w.heap.size w W → Calls Tryz.prog 66 #[.pointer (some ⟨b, 0, none⟩), .int .u8 (bi x)] W fun e W' => ∃ ev D c, e = .returned (evV ev D c) ∧ P ev D c W W')
    (hkeep : ∀ ev D c W W1, w.heap.size < W.heap.size → P ev D c W W1 → W1.heap[w.heap.size]? = W.heap[w.heap.size]?) :
    Calls Tryz.prog 21 #[.pointer (some ⟨b, 0, none⟩), .int .u8 (bi x)] w (SampleOf w P) := by
  have c16 : w.cell? ⟨b, 16, none⟩ = some (.int .i64 1) := by rw [blk_cell h]; exact hp
  have hx : ¬ (bi x > 1) := by cases x <;> decide
  have hlt := lt_of_block h
  have HCALL := Lib.hid hcall
  have HKEEP := Lib.hid hkeep
  clear h hp hcall hkeep
  generalize bi x = y at *
  go_enter Tryz.func21, Tryz.ntmps21
  go_wp2_with fail
  refine (HCALL.out _ ?_).mono ?_
  · exact ((Below.refl w.heap.size w).alloc (Nat.le_refl _) _).alloc (by simp) _
  rintro e w1 ⟨ev, D, c, rfl, hP⟩
  have hz := HKEEP.out _ _ _ _ _ (by simp; omega) hP
  have hn := blk_alloc (heap_alloc_new w (.cells #[.int .i64 0, .int .i64 0, .int .i64 0, .int .u32 0, .bool false, .bool false, .bool false, .bool false, .bool false, .int .u8 0, .int .u8 0, .int .u32 0, .slice none 0 0] 37)) (.cells #[.func (.func 65) #[] #[], .func (.func 66) #[] #[], .func (.func 67) #[] #[], .func (.func 68) #[] #[], .func (.func 69) #[] #[], .func (.func 70) #[] #[], .func (.func 70) #[] #[], .func (.func 71) #[] #[], .func (.func 72) #[] #[], .func (.func 73) #[] #[], .func (.func 74) #[] #[], .func (.func 75) #[] #[]] 126)
  have hn1 := hz.trans hn
  have HP := Lib.hid hP
  have HN1 := Lib.hid hn1
  clear hP hz hn hn1
  obtain ⟨d0, d1, d2, d3, d4, d5, d6, d7, d8, d9, d10, d11, d12⟩ := ev0_cells HN1.out
  obtain ⟨g0, g1, g2, g3, g4, g5, g6, g7, g8, g9, g10, g11, g12⟩ := free_13 HN1.out
  unfold evV evCells
  go_wp2
  have hs := set13_blk (show w1.heap[w.heap.size]? = some (.cells #[.int .i64 0, .int .i64 0, .int .i64 0, .int .u32 0, .bool false, .bool false, .bool false, .bool false, .bool false, .int .u8 0, .int .u8 0, .int .u32 0, .slice none 0 0] 37 (0, 0)) from HN1.out) (.int .i64 (ev.kind : Nat)) (.int .i64 (ev.err : Nat)) (.int .i64 ev.f.kind) (.int .u32 (ev.f.id : Nat)) (.bool ev.f.ext) (.bool ev.f.rtr) (.bool ev.f.brs) (.bool ev.f.esi) (.bool ev.f.sec) (.int .u8 (ev.f.sdt : Nat)) (.int .u8 (ev.f.vcid : Nat)) (.int .u32 (ev.f.af : Nat)) (.slice D ev.f.data.length c)
  have hg := set13_grown w1 w.heap.size (.int .i64 (ev.kind : Nat)) (.int .i64 (ev.err : Nat)) (.int .i64 ev.f.kind) (.int .u32 (ev.f.id : Nat)) (.bool ev.f.ext) (.bool ev.f.rtr) (.bool ev.f.brs) (.bool ev.f.esi) (.bool ev.f.sec) (.int .u8 (ev.f.sdt : Nat)) (.int .u8 (ev.f.vcid : Nat)) (.int .u32 (ev.f.af : Nat)) (.slice D ev.f.data.length c)
  clear d0 d1 d2 d3 d4 d5 d6 d7 d8 d9 d10 d11 d12 g0 g1 g2 g3 g4 g5 g6 g7 g8 g9 g10 g11 g12
  have z0 := blk_cell hs 0
  have z1 := blk_cell hs 1
  have z2 := blk_cell hs 2
  have z3 := blk_cell hs 3
  have z4 := blk_cell hs 4
  have z5 := blk_cell hs 5
  have z6 := blk_cell hs 6
  have z7 := blk_cell hs 7
  have z8 := blk_cell hs 8
  have z9 := blk_cell hs 9
  have z10 := blk_cell hs 10
  have z11 := blk_cell hs 11
  have z12 := blk_cell hs 12
  refine bodyPost_ret (v := .tuple #[evV ev D c, .int .i64 0]) ?_ rfl ⟨ev, D, c, _, w1, rfl, ((Below.refl w.heap.size w).alloc (Nat.le_refl _) _).alloc (by simp) _, (by simp; omega), HP.out, hg⟩
  unfold evV evCells
  clear hg hs
  generalize (((((((((((((w1).setCell ⟨w.heap.size, 0, none⟩ _).setCell ⟨w.heap.size, 1, none⟩ _).setCell ⟨w.heap.size, 2, none⟩ _).setCell ⟨w.heap.size, 3, none⟩ _).setCell ⟨w.heap.size, 4, none⟩ _).setCell ⟨w.heap.size, 5, none⟩ _).setCell ⟨w.heap.size, 6, none⟩ _).setCell ⟨w.heap.size, 7, none⟩ _).setCell ⟨w.heap.size, 8, none⟩ _).setCell ⟨w.heap.size, 9, none⟩ _).setCell ⟨w.heap.size, 10, none⟩ _).setCell ⟨w.heap.size, 11, none⟩ _).setCell ⟨w.heap.size, 12, none⟩ _ = X1 at *
  simp [results, Tryz.results21, go_sem, z0, z1, z2, z3, z4, z5, z6, z7, z8, z9, z10, z11, z12]

set_option maxRecDepth 100000 in
set_option maxHeartbeats 2000000 in
theorem sample_2 (b : Nat) (x : Bool) (w : World) (cs : Array Value) (h : w.heap[b]? = some (.cells cs 120 (0, 0))) (hp : cs[16]? = some (.int .i64 2)) (P : Ev → Option Addr → Nat → World → World → Prop)
    (hcall : ∀ W, Below w.heap.size w W → Calls Tryz.prog 67 #[.pointer (some ⟨b, 0, none⟩), .int .u8 (bi x)] W fun e W' => ∃ ev D c, e = .returned (evV ev D c) ∧ P ev D c W W')
    (hkeep : ∀ ev D c W W1, w.heap.size < W.heap.size → P ev D c W W1 → W1.heap[w.heap.size]? = W.heap[w.heap.size]?) :
    Calls Tryz.prog 21 #[.pointer (some ⟨b, 0, none⟩), .int .u8 (bi x)] w (SampleOf w P) := by
  have c16 : w.cell? ⟨b, 16, none⟩ = some (.int .i64 2) := by rw [blk_cell h]; exact hp
  have hx : ¬ (bi x > 1) := by cases x <;> decide
  have hlt := lt_of_block h
  have HCALL := Lib.hid hcall
  have HKEEP := Lib.hid hkeep
  clear h hp hcall hkeep
  generalize bi x = y at *
  go_enter Tryz.func21, Tryz.ntmps21
  go_wp2_with fail
  refine (HCALL.out _ ?_).mono ?_
  · exact ((Below.refl w.heap.size w).alloc (Nat.le_refl _) _).alloc (by simp) _
  rintro e w1 ⟨ev, D, c, rfl, hP⟩
  have hz := HKEEP.out _ _ _ _ _ (by simp; omega) hP
  have hn := blk_alloc (heap_alloc_new w (.cells #[.int .i64 0, .int .i64 0, .int .i64 0, .int .u32 0, .bool false, .bool false, .bool false, .bool false, .bool false, .int .u8 0, .int .u8 0, .int .u32 0, .slice none 0 0] 37)) (.cells #[.func (.func 65) #[] #[], .func (.func 66) #[] #[], .func (.func 67) #[] #[], .func (.func 68) #[] #[], .func (.func 69) #[] #[], .func (.func 70) #[] #[], .func (.func 70) #[] #[], .func (.func 71) #[] #[], .func (.func 72) #[] #[], .func (.func 73) #[] #[], .func (.func 74) #[] #[], .func (.func 75) #[] #[]] 126)
  have hn1 := hz.trans hn
  have HP := Lib.hid hP
  have HN1 := Lib.hid hn1
  clear hP hz hn hn1
  obtain ⟨d0, d1, d2, d3, d4, d5, d6, d7, d8, d9, d10, d11, d12⟩ := ev0_cells HN1.out
  obtain ⟨g0, g1, g2, g3, g4, g5, g6, g7, g8, g9, g10, g11, g12⟩ := free_13 HN1.out
  unfold evV evCells
  go_wp2
  have hs := set13_blk (show w1.heap[w.heap.size]? = some (.cells #[.int .i64 0, .int .i64 0, .int .i64 0, .int .u32 0, .bool false, .bool false, .bool false, .bool false, .bool false, .int .u8 0, .int .u8 0, .int .u32 0, .slice none 0 0] 37 (0, 0)) from HN1.out) (.int .i64 (ev.kind : Nat)) (.int .i64 (ev.err : Nat)) (.int .i64 ev.f.kind) (.int .u32 (ev.f.id : Nat)) (.bool ev.f.ext) (.bool ev.f.rtr) (.bool ev.f.brs) (.bool ev.f.esi) (.bool ev.f.sec) (.int .u8 (ev.f.sdt : Nat)) (.int .u8 (ev.f.vcid : Nat)) (.int .u32 (ev.f.af : Nat)) (.slice D ev.f.data.length c)
  have hg := set13_grown w1 w.heap.size (.int .i64 (ev.kind : Nat)) (.int .i64 (ev.err : Nat)) (.int .i64 ev.f.kind) (.int .u32 (ev.f.id : Nat)) (.bool ev.f.ext) (.bool ev.f.rtr) (.bool ev.f.brs) (.bool ev.f.esi) (.bool ev.f.sec) (.int .u8 (ev.f.sdt : Nat)) (.int .u8 (ev.f.vcid : Nat)) (.int .u32 (ev.f.af : Nat)) (.slice D ev.f.data.length c)
  clear d0 d1 d2 d3 d4 d5 d6 d7 d8 d9 d10 d11 d12 g0 g1 g2 g3 g4 g5 g6 g7 g8 g9 g10 g11 g12
  have z0 := blk_cell hs 0
  have z1 := blk_cell hs 1
  have z2 := blk_cell hs 2
  have z3 := blk_cell hs 3
  have z4 := blk_cell hs 4
  have z5 := blk_cell hs 5
  have z6 := blk_cell hs 6
  have z7 := blk_cell hs 7
  have z8 := blk_cell hs 8
  have z9 := blk_cell hs 9
  have z10 := blk_cell hs 10
  have z11 := blk_cell hs 11
  have z12 := blk_cell hs 12
  refine bodyPost_ret (v := .tuple #[evV ev D c, .int .i64 0]) ?_ rfl ⟨ev, D, c, _, w1, rfl, ((Below.refl w.heap.size w).alloc (Nat.le_refl _) _).alloc (by simp) _, (by simp; omega), HP.out, hg⟩
  unfold evV evCells
  clear hg hs
  generalize (((((((((((((w1).setCell ⟨w.heap.size, 0, none⟩ _).setCell ⟨w.heap.size, 1, none⟩ _).setCell ⟨w.heap.size, 2, none⟩ _).setCell ⟨w.heap.size, 3, none⟩ _).setCell ⟨w.heap.size, 4, none⟩ _).setCell ⟨w.heap.size, 5, none⟩ _).setCell ⟨w.heap.size, 6, none⟩ _).setCell ⟨w.heap.size, 7, none⟩ _).setCell ⟨w.heap.size, 8, none⟩ _).setCell ⟨w.heap.size, 9, none⟩ _).setCell ⟨w.heap.size, 10, none⟩ _).setCell ⟨w.heap.size, 11, none⟩ _).setCell ⟨w.heap.size, 12, none⟩ _ = X1 at *
  simp [results, Tryz.results21, go_sem, z0, z1, z2, z3, z4, z5, z6, z7, z8, z9, z10, z11, z12]

set_option maxRecDepth 100000 in
set_option maxHeartbeats 2000000 in
theorem sample_3 (b : Nat) (x : Bool) (w : World) (cs : Array Value) (h : w.heap[b]? = some (.cells cs 120 (0, 0))) (hp : cs[16]? = some (.int .i64 3)) (P : Ev → Option Addr → Nat → World → World → Prop)
    (hcall : ∀ W, Below w.heap.size w W → Calls Tryz.prog 68 #[.pointer (some ⟨b, 0, none⟩), .int .u8 (bi x)] W fun e W' => ∃ ev D c, e = .returned (evV ev D c) ∧ P ev D c W W')
    (hkeep : ∀ ev D c W W1, w.heap.size < W.heap.size → P ev D c W W1 → W1.heap[w.heap.size]? = W.heap[w.heap.size]?) :
    Calls Tryz.prog 21 #[.pointer (some ⟨b, 0, none⟩), .int .u8 (bi x)] w (SampleOf w P) := by
  have c16 : w.cell? ⟨b, 16, none⟩ = some (.int .i64 3) := by rw [blk_cell h]; exact hp
  have hx : ¬ (bi x > 1) := by cases x <;> decide
  have hlt := lt_of_block h
  have HCALL := Lib.hid hcall
  have HKEEP := Lib.hid hkeep
  clear h hp hcall hkeep
  generalize bi x = y at *
  go_enter Tryz.func21, Tryz.ntmps21
  go_wp2_with fail
  refine (HCALL.out _ ?_).mono ?_
  · exact ((Below.refl w.heap.size w).alloc (Nat.le_refl _) _).alloc (by simp) _
  rintro e w1 ⟨ev, D, c, rfl, hP⟩
  have hz := HKEEP.out _ _ _ _ _ (by simp; omega) hP
  have hn := blk_alloc (heap_alloc_new w (.cells #[.int .i64 0, .int .i64 0, .int .i64 0, .int .u32 0, .bool false, .bool false, .bool false, .bool false, .bool false, .int .u8 0, .int .u8 0, .int .u32 0, .slice none 0 0] 37)) (.cells #[.func (.func 65) #[] #[], .func (.func 66) #[] #[], .func (.func 67) #[] #[], .func (.func 68) #[] #[], .func (.func 69) #[] #[], .func (.func 70) #[] #[], .func (.func 70) #[] #[], .func (.func 71) #[] #[], .func (.func 72) #[] #[], .func (.func 73) #[] #[], .func (.func 74) #[] #[], .func (.func 75) #[] #[]] 126)
  have hn1 := hz.trans hn
  have HP := Lib.hid hP
  have HN1 := Lib.hid hn1
  clear hP hz hn hn1
  obtain ⟨d0, d1, d2, d3, d4, d5, d6, d7, d8, d9, d10, d11, d12⟩ := ev0_cells HN1.out
  obtain ⟨g0, g1, g2, g3, g4, g5, g6, g7, g8, g9, g10, g11, g12⟩ := free_13 HN1.out
  unfold evV evCells
  go_wp2
  have hs := set13_blk (show w1.heap[w.heap.size]? = some (.cells #[.int .i64 0, .int .i64 0, .int .i64 0, .int .u32 0, .bool false, .bool false, .bool false, .bool false, .bool false, .int .u8 0, .int .u8 0, .int .u32 0, .slice none 0 0] 37 (0, 0)) from HN1.out) (.int .i64 (ev.kind : Nat)) (.int .i64 (ev.err : Nat)) (.int .i64 ev.f.kind) (.int .u32 (ev.f.id : Nat)) (.bool ev.f.ext) (.bool ev.f.rtr) (.bool ev.f.brs) (.bool ev.f.esi) (.bool ev.f.sec) (.int .u8 (ev.f.sdt : Nat)) (.int .u8 (ev.f.vcid : Nat)) (.int .u32 (ev.f.af : Nat)) (.slice D ev.f.data.length c)
  have hg := set13_grown w1 w.heap.size (.int .i64 (ev.kind : Nat)) (.int .i64 (ev.err : Nat)) (.int .i64 ev.f.kind) (.int .u32 (ev.f.id : Nat)) (.bool ev.f.ext) (.bool ev.f.rtr) (.bool ev.f.brs) (.bool ev.f.esi) (.bool ev.f.sec) (.int .u8 (ev.f.sdt : Nat)) (.int .u8 (ev.f.vcid : Nat)) (.int .u32 (ev.f.af : Nat)) (.slice D ev.f.data.length c)
  clear d0 d1 d2 d3 d4 d5 d6 d7 d8 d9 d10 d11 d12 g0 g1 g2 g3 g4 g5 g6 g7 g8 g9 g10 g11 g12
  have z0 := blk_cell hs 0
  have z1 := blk_cell hs 1
  have z2 := blk_cell hs 2
  have z3 := blk_cell hs 3
  have z4 := blk_cell hs 4
  have z5 := blk_cell hs 5
  have z6 := blk_cell hs 6
  have z7 := blk_cell hs 7
  have z8 := blk_cell hs 8
  have z9 := blk_cell hs 9
  have z10 := blk_cell hs 10
  have z11 := blk_cell hs 11
  have z12 := blk_cell hs 12
  refine bodyPost_ret (v := .tuple #[evV ev D c, .int .i64 0]) ?_ rfl ⟨ev, D, c, _, w1, rfl, ((Below.refl w.heap.size w).alloc (Nat.le_refl _) _).alloc (by simp) _, (by simp; omega), HP.out, hg⟩
  unfold evV evCells
  clear hg hs
  generalize (((((((((((((w1).setCell ⟨w.heap.size, 0, none⟩ _).setCell ⟨w.heap.size, 1, none⟩ _).setCell ⟨w.heap.size, 2, none⟩ _).setCell ⟨w.heap.size, 3, none⟩ _).setCell ⟨w.heap.size, 4, none⟩ _).setCell ⟨w.heap.size, 5, none⟩ _).setCell ⟨w.heap.size, 6, none⟩ _).setCell ⟨w.heap.size, 7, none⟩ _).setCell ⟨w.heap.size, 8, none⟩ _).setCell ⟨w.heap.size, 9, none⟩ _).setCell ⟨w.heap.size, 10, none⟩ _).setCell ⟨w.heap.size, 11, none⟩ _).setCell ⟨w.heap.size, 12, none⟩ _ = X1 at *
  simp [results, Tryz.results21, go_sem, z0, z1, z2, z3, z4, z5, z6, z7, z8, z9, z10, z11, z12]

set_option maxRecDepth 100000 in
set_option maxHeartbeats 2000000 in
theorem sample_4 (b : Nat) (x : Bool) (w : World) (cs : Array Value) (h : w.heap[b]? = some (.cells cs 120 (0, 0))) (hp : cs[16]? = some (.int .i64 4)) (P : Ev → Option Addr → Nat → World → World → Prop)
    (hcall : ∀ W, Below w.heap.size w W → Calls Tryz.prog 69 #[.pointer (some ⟨b, 0, none⟩), .int .u8 (bi x)] W fun e W' => ∃ ev D c, e = .returned (evV ev D c) ∧ P ev D c W W')
    (hkeep : ∀ ev D c W W1, w.heap.size < W.heap.size → P ev D c W W1 → W1.heap[w.heap.size]? = W.heap[w.heap.size]?) :
    Calls Tryz.prog 21 #[.pointer (some ⟨b, 0, none⟩), .int .u8 (bi x)] w (SampleOf w P) := by
  have c16 : w.cell? ⟨b, 16, none⟩ = some (.int .i64 4) := by rw [blk_cell h]; exact hp
  have hx : ¬ (bi x > 1) := by cases x <;> decide
  have hlt := lt_of_block h
  have HCALL := Lib.hid hcall
  have HKEEP := Lib.hid hkeep
  clear h hp hcall hkeep
  generalize bi x = y at *
  go_enter Tryz.func21, Tryz.ntmps21
  go_wp2_with fail
  refine (HCALL.out _ ?_).mono ?_
  · exact ((Below.refl w.heap.size w).alloc (Nat.le_refl _) _).alloc (by simp) _
  rintro e w1 ⟨ev, D, c, rfl, hP⟩
  have hz := HKEEP.out _ _ _ _ _ (by simp; omega) hP
  have hn := blk_alloc (heap_alloc_new w (.cells #[.int .i64 0, .int .i64 0, .int .i64 0, .int .u32 0, .bool false, .bool false, .bool false, .bool false, .bool false, .int .u8 0, .int .u8 0, .int .u32 0, .slice none 0 0] 37)) (.cells #[.func (.func 65) #[] #[], .func (.func 66) #[] #[], .func (.func 67) #[] #[], .func (.func 68) #[] #[], .func (.func 69) #[] #[], .func (.func 70) #[] #[], .func (.func 70) #[] #[], .func (.func 71) #[] #[], .func (.func 72) #[] #[], .func (.func 73) #[] #[], .func (.func 74) #[] #[], .func (.func 75) #[] #[]] 126)
  have hn1 := hz.trans hn
  have HP := Lib.hid hP
  have HN1 := Lib.hid hn1
  clear hP hz hn hn1
  obtain ⟨d0, d1, d2, d3, d4, d5, d6, d7, d8, d9, d10, d11, d12⟩ := ev0_cells HN1.out
  obtain ⟨g0, g1, g2, g3, g4, g5, g6, g7, g8, g9, g10, g11, g12⟩ := free_13 HN1.out
  unfold evV evCells
  go_wp2
  have hs := set13_blk (show w1.heap[w.heap.size]? = some (.cells #[.int .i64 0, .int .i64 0, .int .i64 0, .int .u32 0, .bool false, .bool false, .bool false, .bool false, .bool false, .int .u8 0, .int .u8 0, .int .u32 0, .slice none 0 0] 37 (0, 0)) from HN1.out) (.int .i64 (ev.kind : Nat)) (.int .i64 (ev.err : Nat)) (.int .i64 ev.f.kind) (.int .u32 (ev.f.id : Nat)) (.bool ev.f.ext) (.bool ev.f.rtr) (.bool ev.f.brs) (.bool ev.f.esi) (.bool ev.f.sec) (.int .u8 (ev.f.sdt : Nat)) (.int .u8 (ev.f.vcid : Nat)) (.int .u32 (ev.f.af : Nat)) (.slice D ev.f.data.length c)
  have hg := set13_grown w1 w.heap.size (.int .i64 (ev.kind : Nat)) (.int .i64 (ev.err : Nat)) (.int .i64 ev.f.kind) (.int .u32 (ev.f.id : Nat)) (.bool ev.f.ext) (.bool ev.f.rtr) (.bool ev.f.brs) (.bool ev.f.esi) (.bool ev.f.sec) (.int .u8 (ev.f.sdt : Nat)) (.int .u8 (ev.f.vcid : Nat)) (.int .u32 (ev.f.af : Nat)) (.slice D ev.f.data.length c)
  clear d0 d1 d2 d3 d4 d5 d6 d7 d8 d9 d10 d11 d12 g0 g1 g2 g3 g4 g5 g6 g7 g8 g9 g10 g11 g12
  have z0 := blk_cell hs 0
  have z1 := blk_cell hs 1
  have z2 := blk_cell hs 2
  have z3 := blk_cell hs 3
  have z4 := blk_cell hs 4
  have z5 := blk_cell hs 5
  have z6 := blk_cell hs 6
  have z7 := blk_cell hs 7
  have z8 := blk_cell hs 8
  have z9 := blk_cell hs 9
  have z10 := blk_cell hs 10
  have z11 := blk_cell hs 11
  have z12 := blk_cell hs 12
  refine bodyPost_ret (v := .tuple #[evV ev D c, .int .i64 0]) ?_ rfl ⟨ev, D, c, _, w1, rfl, ((Below.refl w.heap.size w).alloc (Nat.le_refl _) _).alloc (by simp) _, (by simp; omega), HP.out, hg⟩
  unfold evV evCells
  clear hg hs
  generalize (((((((((((((w1).setCell ⟨w.heap.size, 0, none⟩ _).setCell ⟨w.heap.size, 1, none⟩ _).setCell ⟨w.heap.size, 2, none⟩ _).setCell ⟨w.heap.size, 3, none⟩ _).setCell ⟨w.heap.size, 4, none⟩ _).setCell ⟨w.heap.size, 5, none⟩ _).setCell ⟨w.heap.size, 6, none⟩ _).setCell ⟨w.heap.size, 7, none⟩ _).setCell ⟨w.heap.size, 8, none⟩ _).setCell ⟨w.heap.size, 9, none⟩ _).setCell ⟨w.heap.size, 10, none⟩ _).setCell ⟨w.heap.size, 11, none⟩ _).setCell ⟨w.heap.size, 12, none⟩ _ = X1 at *
  simp [results, Tryz.results21, go_sem, z0, z1, z2, z3, z4, z5, z6, z7, z8, z9, z10, z11, z12]

set_option maxRecDepth 100000 in
set_option maxHeartbeats 2000000 in
theorem sample_5 (b : Nat) (x : Bool) (w : World) (cs : Array Value) (h : w.heap[b]? = some (.cells cs 120 (0, 0))) (hp : cs[16]? = some (.int .i64 5)) (P : Ev → Option Addr → Nat → World → World → Prop)
    (hcall : ∀ W, Below w.heap.size w W → Calls Tryz.prog 70 #[.pointer (some ⟨b, 0, none⟩), .int .u8 (bi x)] W fun e W' => ∃ ev D c, e = .returned (evV ev D c) ∧ P ev D c W W')
    (hkeep : ∀ ev D c W W1, w.heap.size < W.heap.size → P ev D c W W1 → W1.heap[w.heap.size]? = W.heap[w.heap.size]?) :
    Calls Tryz.prog 21 #[.pointer (some ⟨b, 0, none⟩), .int .u8 (bi x)] w (SampleOf w P) := by
  have c16 : w.cell? ⟨b, 16, none⟩ = some (.int .i64 5) := by rw [blk_cell h]; exact hp
  have hx : ¬ (bi x > 1) := by cases x <;> decide
  have hlt := lt_of_block h
  have HCALL := Lib.hid hcall
  have HKEEP := Lib.hid hkeep
  clear h hp hcall hkeep
  generalize bi x = y at *
  go_enter Tryz.func21, Tryz.ntmps21
  go_wp2_with fail
  refine (HCALL.out _ ?_).mono ?_
  · exact ((Below.refl w.heap.size w).alloc (Nat.le_refl _) _).alloc (by simp) _
  rintro e w1 ⟨ev, D, c, rfl, hP⟩
  have hz := HKEEP.out _ _ _ _ _ (by simp; omega) hP
  have hn := blk_alloc (heap_alloc_new w (.cells #[.int .i64 0, .int .i64 0, .int .i64 0, .int .u32 0, .bool false, .bool false, .bool false, .bool false, .bool false, .int .u8 0, .int .u8 0, .int .u32 0, .slice none 0 0] 37)) (.cells #[.func (.func 65) #[] #[], .func (.func 66) #[] #[], .func (.func 67) #[] #[], .func (.func 68) #[] #[], .func (.func 69) #[] #[], .func (.func 70) #[] #[], .func (.func 70) #[] #[], .func (.func 71) #[] #[], .func (.func 72) #[] #[], .func (.func 73) #[] #[], .func (.func 74) #[] #[], .func (.func 75) #[] #[]] 126)
  have hn1 := hz.trans hn
  have HP := Lib.hid hP
  have HN1 := Lib.hid hn1
  clear hP hz hn hn1
  obtain ⟨d0, d1, d2, d3, d4, d5, d6, d7, d8, d9, d10, d11, d12⟩ := ev0_cells HN1.out
  obtain ⟨g0, g1, g2, g3, g4, g5, g6, g7, g8, g9, g10, g11, g12⟩ := free_13 HN1.out
  unfold evV evCells
  go_wp2
  have hs := set13_blk (show w1.heap[w.heap.size]? = some (.cells #[.int .i64 0, .int .i64 0, .int .i64 0, .int .u32 0, .bool false, .bool false, .bool false, .bool false, .bool false, .int .u8 0, .int .u8 0, .int .u32 0, .slice none 0 0] 37 (0, 0)) from HN1.out) (.int .i64 (ev.kind : Nat)) (.int .i64 (ev.err : Nat)) (.int .i64 ev.f.kind) (.int .u32 (ev.f.id : Nat)) (.bool ev.f.ext) (.bool ev.f.rtr) (.bool ev.f.brs) (.bool ev.f.esi) (.bool ev.f.sec) (.int .u8 (ev.f.sdt : Nat)) (.int .u8 (ev.f.vcid : Nat)) (.int .u32 (ev.f.af : Nat)) (.slice D ev.f.data.length c)
  have hg := set13_grown w1 w.heap.size (.int .i64 (ev.kind : Nat)) (.int .i64 (ev.err : Nat)) (.int .i64 ev.f.kind) (.int .u32 (ev.f.id : Nat)) (.bool ev.f.ext) (.bool ev.f.rtr) (.bool ev.f.brs) (.bool ev.f.esi) (.bool ev.f.sec) (.int .u8 (ev.f.sdt : Nat)) (.int .u8 (ev.f.vcid : Nat)) (.int .u32 (ev.f.af : Nat)) (.slice D ev.f.data.length c)
  clear d0 d1 d2 d3 d4 d5 d6 d7 d8 d9 d10 d11 d12 g0 g1 g2 g3 g4 g5 g6 g7 g8 g9 g10 g11 g12
  have z0 := blk_cell hs 0
  have z1 := blk_cell hs 1
  have z2 := blk_cell hs 2
  have z3 := blk_cell hs 3
  have z4 := blk_cell hs 4
  have z5 := blk_cell hs 5
  have z6 := blk_cell hs 6
  have z7 := blk_cell hs 7
  have z8 := blk_cell hs 8
  have z9 := blk_cell hs 9
  have z10 := blk_cell hs 10
  have z11 := blk_cell hs 11
  have z12 := blk_cell hs 12
  refine bodyPost_ret (v := .tuple #[evV ev D c, .int .i64 0]) ?_ rfl ⟨ev, D, c, _, w1, rfl, ((Below.refl w.heap.size w).alloc (Nat.le_refl _) _).alloc (by simp) _, (by simp; omega), HP.out, hg⟩
  unfold evV evCells
  clear hg hs
  generalize (((((((((((((w1).setCell ⟨w.heap.size, 0, none⟩ _).setCell ⟨w.heap.size, 1, none⟩ _).setCell ⟨w.heap.size, 2, none⟩ _).setCell ⟨w.heap.size, 3, none⟩ _).setCell ⟨w.heap.size, 4, none⟩ _).setCell ⟨w.heap.size, 5, none⟩ _).setCell ⟨w.heap.size, 6, none⟩ _).setCell ⟨w.heap.size, 7, none⟩ _).setCell ⟨w.heap.size, 8, none⟩ _).setCell ⟨w.heap.size, 9, none⟩ _).setCell ⟨w.heap.size, 10, none⟩ _).setCell ⟨w.heap.size, 11, none⟩ _).setCell ⟨w.heap.size, 12, none⟩ _ = X1 at *
  simp [results, Tryz.results21, go_sem, z0, z1, z2, z3, z4, z5, z6, z7, z8, z9, z10, z11, z12]

set_option maxRecDepth 100000 in
set_option maxHeartbeats 2000000 in
theorem sample_6 (b : Nat) (x : Bool) (w : World) (cs : Array Value) (h : w.heap[b]? = some (.cells cs 120 (0, 0))) (hp : cs[16]? = some (.int .i64 6)) (P : Ev → Option Addr → Nat → World → World → Prop)
    (hcall : ∀ W, Below w.heap.size w W → Calls Tryz.prog 70 #[.pointer (some ⟨b, 0, none⟩), .int .u8 (bi x)] W fun e W' => ∃ ev D c, e = .returned (evV ev D c) ∧ P ev D c W W')
    (hkeep : ∀ ev D c W W1, w.heap.size < W.heap.size → P ev D c W W1 → W1.heap[w.heap.size]? = W.heap[w.heap.size]?) :
    Calls Tryz.prog 21 #[.pointer (some ⟨b, 0, none⟩), .int .u8 (bi x)] w (SampleOf w P) := by
  have c16 : w.cell? ⟨b, 16, none⟩ = some (.int .i64 6) := by rw [blk_cell h]; exact hp
  have hx : ¬ (bi x > 1) := by cases x <;> decide
  have hlt := lt_of_block h
  have HCALL := Lib.hid hcall
  have HKEEP := Lib.hid hkeep
  clear h hp hcall hkeep
  generalize bi x = y at *
  go_enter Tryz.func21, Tryz.ntmps21
  go_wp2_with fail
  refine (HCALL.out _ ?_).mono ?_
  · exact ((Below.refl w.heap.size w).alloc (Nat.le_refl _) _).alloc (by simp) _
  rintro e w1 ⟨ev, D, c, rfl, hP⟩
  have hz := HKEEP.out _ _ _ _ _ (by simp; omega) hP
  have hn := blk_alloc (heap_alloc_new w (.cells #[.int .i64 0, .int .i64 0, .int .i64 0, .int .u32 0, .bool false, .bool false, .bool false, .bool false, .bool false, .int .u8 0, .int .u8 0, .int .u32 0, .slice none 0 0] 37)) (.cells #[.func (.func 65) #[] #[], .func (.func 66) #[] #[], .func (.func 67) #[] #[], .func (.func 68) #[] #[], .func (.func 69) #[] #[], .func (.func 70) #[] #[], .func (.func 70) #[] #[], .func (.func 71) #[] #[], .func (.func 72) #[] #[], .func (.func 73) #[] #[], .func (.func 74) #[] #[], .func (.func 75) #[] #[]] 126)
  have hn1 := hz.trans hn
  have HP := Lib.hid hP
  have HN1 := Lib.hid hn1
  clear hP hz hn hn1
  obtain ⟨d0, d1, d2, d3, d4, d5, d6, d7, d8, d9, d10, d11, d12⟩ := ev0_cells HN1.out
  obtain ⟨g0, g1, g2, g3, g4, g5, g6, g7, g8, g9, g10, g11, g12⟩ := free_13 HN1.out
  unfold evV evCells
  go_wp2
  have hs := set13_blk (show w1.heap[w.heap.size]? = some (.cells #[.int .i64 0, .int .i64 0, .int .i64 0, .int .u32 0, .bool false, .bool false, .bool false, .bool false, .bool false, .int .u8 0, .int .u8 0, .int .u32 0, .slice none 0 0] 37 (0, 0)) from HN1.out) (.int .i64 (ev.kind : Nat)) (.int .i64 (ev.err : Nat)) (.int .i64 ev.f.kind) (.int .u32 (ev.f.id : Nat)) (.bool ev.f.ext) (.bool ev.f.rtr) (.bool ev.f.brs) (.bool ev.f.esi) (.bool ev.f.sec) (.int .u8 (ev.f.sdt : Nat)) (.int .u8 (ev.f.vcid : Nat)) (.int .u32 (ev.f.af : Nat)) (.slice D ev.f.data.length c)
  have hg := set13_grown w1 w.heap.size (.int .i64 (ev.kind : Nat)) (.int .i64 (ev.err : Nat)) (.int .i64 ev.f.kind) (.int .u32 (ev.f.id : Nat)) (.bool ev.f.ext) (.bool ev.f.rtr) (.bool ev.f.brs) (.bool ev.f.esi) (.bool ev.f.sec) (.int .u8 (ev.f.sdt : Nat)) (.int .u8 (ev.f.vcid : Nat)) (.int .u32 (ev.f.af : Nat)) (.slice D ev.f.data.length c)
  clear d0 d1 d2 d3 d4 d5 d6 d7 d8 d9 d10 d11 d12 g0 g1 g2 g3 g4 g5 g6 g7 g8 g9 g10 g11 g12
  have z0 := blk_cell hs 0
  have z1 := blk_cell hs 1
  have z2 := blk_cell hs 2
  have z3 := blk_cell hs 3
  have z4 := blk_cell hs 4
  have z5 := blk_cell hs 5
  have z6 := blk_cell hs 6
  have z7 := blk_cell hs 7
  have z8 := blk_cell hs 8
  have z9 := blk_cell hs 9
  have z10 := blk_cell hs 10
  have z11 := blk_cell hs 11
  have z12 := blk_cell hs 12
  refine bodyPost_ret (v := .tuple #[evV ev D c, .int .i64 0]) ?_ rfl ⟨ev, D, c, _, w1, rfl, ((Below.refl w.heap.size w).alloc (Nat.le_refl _) _).alloc (by simp) _, (by simp; omega), HP.out, hg⟩
  unfold evV evCells
  clear hg hs
  generalize (((((((((((((w1).setCell ⟨w.heap.size, 0, none⟩ _).setCell ⟨w.heap.size, 1, none⟩ _).setCell ⟨w.heap.size, 2, none⟩ _).setCell ⟨w.heap.size, 3, none⟩ _).setCell ⟨w.heap.size, 4, none⟩ _).setCell ⟨w.heap.size, 5, none⟩ _).setCell ⟨w.heap.size, 6, none⟩ _).setCell ⟨w.heap.size, 7, none⟩ _).setCell ⟨w.heap.size, 8, none⟩ _).setCell ⟨w.heap.size, 9, none⟩ _).setCell ⟨w.heap.size, 10, none⟩ _).setCell ⟨w.heap.size, 11, none⟩ _).setCell ⟨w.heap.size, 12, none⟩ _ = X1 at *
  simp [results, Tryz.results21, go_sem, z0, z1, z2, z3, z4, z5, z6, z7, z8, z9, z10, z11, z12]

set_option maxRecDepth 100000 in
set_option maxHeartbeats 2000000 in
theorem sample_7 (b : Nat) (x : Bool) (w : World) (cs : Array Value) (h : w.heap[b]? = some (.cells cs 120 (0, 0))) (hp : cs[16]? = some (.int .i64 7)) (P : Ev → Option Addr → Nat → World → World → Prop)
    (hcall : ∀ W, Below w.heap.size w W → Calls Tryz.prog 71 #[.pointer (some ⟨b, 0, none⟩), .int .u8 (bi x)] W fun e W' => ∃ ev D c, e = .returned (evV ev D c) ∧ P ev D c W W')
    (hkeep : ∀ ev D c W W1, w.heap.size < W.heap.size → P ev D c W W1 → W1.heap[w.heap.size]? = W.heap[w.heap.size]?) :
    Calls Tryz.prog 21 #[.pointer (some ⟨b, 0, none⟩), .int .u8 (bi x)] w (SampleOf w P) := by
  have c16 : w.cell? ⟨b, 16, none⟩ = some (.int .i64 7) := by rw [blk_cell h]; exact hp
  have hx : ¬ (bi x > 1) := by cases x <;> decide
  have hlt := lt_of_block h
  have HCALL := Lib.hid hcall
  have HKEEP := Lib.hid hkeep
  clear h hp hcall hkeep
  generalize bi x = y at *
  go_enter Tryz.func21, Tryz.ntmps21
  go_wp2_with fail
  refine (HCALL.out _ ?_).mono ?_
  · exact ((Below.refl w.heap.size w).alloc (Nat.le_refl _) _).alloc (by simp) _
  rintro e w1 ⟨ev, D, c, rfl, hP⟩
  have hz := HKEEP.out _ _ _ _ _ (by simp; omega) hP
  have hn := blk_alloc (heap_alloc_new w (.cells #[.int .i64 0, .int .i64 0, .int .i64 0, .int .u32 0, .bool false, .bool false, .bool false, .bool false, .bool false, .int .u8 0, .int .u8 0, .int .u32 0, .slice none 0 0] 37)) (.cells #[.func (.func 65) #[] #[], .func (.func 66) #[] #[], .func (.func 67) #[] #[], .func (.func 68) #[] #[], .func (.func 69) #[] #[], .func (.func 70) #[] #[], .func (.func 70) #[] #[], .func (.func 71) #[] #[], .func (.func 72) #[] #[], .func (.func 73) #[] #[], .func (.func 74) #[] #[], .func (.func 75) #[] #[]] 126)
  have hn1 := hz.trans hn
  have HP := Lib.hid hP
  have HN1 := Lib.hid hn1
  clear hP hz hn hn1
  obtain ⟨d0, d1, d2, d3, d4, d5, d6, d7, d8, d9, d10, d11, d12⟩ := ev0_cells HN1.out
  obtain ⟨g0, g1, g2, g3, g4, g5, g6, g7, g8, g9, g10, g11, g12⟩ := free_13 HN1.out
  unfold evV evCells
  go_wp2
  have hs := set13_blk (show w1.heap[w.heap.size]? = some (.cells #[.int .i64 0, .int .i64 0, .int .i64 0, .int .u32 0, .bool false, .bool false, .bool false, .bool false, .bool false, .int .u8 0, .int .u8 0, .int .u32 0, .slice none 0 0] 37 (0, 0)) from HN1.out) (.int .i64 (ev.kind : Nat)) (.int .i64 (ev.err : Nat)) (.int .i64 ev.f.kind) (.int .u32 (ev.f.id : Nat)) (.bool ev.f.ext) (.bool ev.f.rtr) (.bool ev.f.brs) (.bool ev.f.esi) (.bool ev.f.sec) (.int .u8 (ev.f.sdt : Nat)) (.int .u8 (ev.f.vcid : Nat)) (.int .u32 (ev.f.af : Nat)) (.slice D ev.f.data.length c)
  have hg := set13_grown w1 w.heap.size (.int .i64 (ev.kind : Nat)) (.int .i64 (ev.err : Nat)) (.int .i64 ev.f.kind) (.int .u32 (ev.f.id : Nat)) (.bool ev.f.ext) (.bool ev.f.rtr) (.bool ev.f.brs) (.bool ev.f.esi) (.bool ev.f.sec) (.int .u8 (ev.f.sdt : Nat)) (.int .u8 (ev.f.vcid : Nat)) (.int .u32 (ev.f.af : Nat)) (.slice D ev.f.data.length c)
  clear d0 d1 d2 d3 d4 d5 d6 d7 d8 d9 d10 d11 d12 g0 g1 g2 g3 g4 g5 g6 g7 g8 g9 g10 g11 g12
  have z0 := blk_cell hs 0
  have z1 := blk_cell hs 1
  have z2 := blk_cell hs 2
  have z3 := blk_cell hs 3
  have z4 := blk_cell hs 4
  have z5 := blk_cell hs 5
  have z6 := blk_cell hs 6
  have z7 := blk_cell hs 7
  have z8 := blk_cell hs 8
  have z9 := blk_cell hs 9
  have z10 := blk_cell hs 10
  have z11 := blk_cell hs 11
  have z12 := blk_cell hs 12
  refine bodyPost_ret (v := .tuple #[evV ev D c, .int .i64 0]) ?_ rfl ⟨ev, D, c, _, w1, rfl, ((Below.refl w.heap.size w).alloc (Nat.le_refl _) _).alloc (by simp) _, (by simp; omega), HP.out, hg⟩
  unfold evV evCells
  clear hg hs
  generalize (((((((((((((w1).setCell ⟨w.heap.size, 0, none⟩ _).setCell ⟨w.heap.size, 1, none⟩ _).setCell ⟨w.heap.size, 2, none⟩ _).setCell ⟨w.heap.size, 3, none⟩ _).setCell ⟨w.heap.size, 4, none⟩ _).setCell ⟨w.heap.size, 5, none⟩ _).setCell ⟨w.heap.size, 6, none⟩ _).setCell ⟨w.heap.size, 7, none⟩ _).setCell ⟨w.heap.size, 8, none⟩ _).setCell ⟨w.heap.size, 9, none⟩ _).setCell ⟨w.heap.size, 10, none⟩ _).setCell ⟨w.heap.size, 11, none⟩ _).setCell ⟨w.heap.size, 12, none⟩ _ = X1 at *
  simp [results, Tryz.results21, go_sem, z0, z1, z2, z3, z4, z5, z6, z7, z8, z9, z10, z11, z12]

set_option maxRecDepth 100000 in
set_option maxHeartbeats 2000000 in
theorem sample_8 (b : Nat) (x : Bool) (w : World) (cs : Array Value) (h : w.heap[b]? = some (.cells cs 120 (0, 0))) (hp : cs[16]? = some (.int .i64 8)) (P : Ev → Option Addr → Nat → World → World → Prop)
    (hcall : ∀ W, Below w.heap.size w W → Calls Tryz.prog 72 #[.pointer (some ⟨b, 0, none⟩), .int .u8 (bi x)] W fun e W' => ∃ ev D c, e = .returned (evV ev D c) ∧ P ev D c W W')
    (hkeep : ∀ ev D c W W1, w.heap.size < W.heap.size → P ev D c W W1 → W1.heap[w.heap.size]? = W.heap[w.heap.size]?) :
    Calls Tryz.prog 21 #[.pointer (some ⟨b, 0, none⟩), .int .u8 (bi x)] w (SampleOf w P) := by
  have c16 : w.cell? ⟨b, 16, none⟩ = some (.int .i64 8) := by rw [blk_cell h]; exact hp
  have hx : ¬ (bi x > 1) := by cases x <;> decide
  have hlt := lt_of_block h
  have HCALL := Lib.hid hcall
  have HKEEP := Lib.hid hkeep
  clear h hp hcall hkeep
  generalize bi x = y at *
  go_enter Tryz.func21, Tryz.ntmps21
  go_wp2_with fail
  refine (HCALL.out _ ?_).mono ?_
  · exact ((Below.refl w.heap.size w).alloc (Nat.le_refl _) _).alloc (by simp) _
  rintro e w1 ⟨ev, D, c, rfl, hP⟩
  have hz := HKEEP.out _ _ _ _ _ (by simp; omega) hP
  have hn := blk_alloc (heap_alloc_new w (.cells #[.int .i64 0, .int .i64 0, .int .i64 0, .int .u32 0, .bool false, .bool false, .bool false, .bool false, .bool false, .int .u8 0, .int .u8 0, .int .u32 0, .slice none 0 0] 37)) (.cells #[.func (.func 65) #[] #[], .func (.func 66) #[] #[], .func (.func 67) #[] #[], .func (.func 68) #[] #[], .func (.func 69) #[] #[], .func (.func 70) #[] #[], .func (.func 70) #[] #[], .func (.func 71) #[] #[], .func (.func 72) #[] #[], .func (.func 73) #[] #[], .func (.func 74) #[] #[], .func (.func 75) #[] #[]] 126)
  have hn1 := hz.trans hn
  have HP := Lib.hid hP
  have HN1 := Lib.hid hn1
  clear hP hz hn hn1
  obtain ⟨d0, d1, d2, d3, d4, d5, d6, d7, d8, d9, d10, d11, d12⟩ := ev0_cells HN1.out
  obtain ⟨g0, g1, g2, g3, g4, g5, g6, g7, g8, g9, g10, g11, g12⟩ := free_13 HN1.out
  unfold evV evCells
  go_wp2
  have hs := set13_blk (show w1.heap[w.heap.size]? = some (.cells #[.int .i64 0, .int .i64 0, .int .i64 0, .int .u32 0, .bool false, .bool false, .bool false, .bool false, .bool false, .int .u8 0, .int .u8 0, .int .u32 0, .slice none 0 0] 37 (0, 0)) from HN1.out) (.int .i64 (ev.kind : Nat)) (.int .i64 (ev.err : Nat)) (.int .i64 ev.f.kind) (.int .u32 (ev.f.id : Nat)) (.bool ev.f.ext) (.bool ev.f.rtr) (.bool ev.f.brs) (.bool ev.f.esi) (.bool ev.f.sec) (.int .u8 (ev.f.sdt : Nat)) (.int .u8 (ev.f.vcid : Nat)) (.int .u32 (ev.f.af : Nat)) (.slice D ev.f.data.length c)
  have hg := set13_grown w1 w.heap.size (.int .i64 (ev.kind : Nat)) (.int .i64 (ev.err : Nat)) (.int .i64 ev.f.kind) (.int .u32 (ev.f.id : Nat)) (.bool ev.f.ext) (.bool ev.f.rtr) (.bool ev.f.brs) (.bool ev.f.esi) (.bool ev.f.sec) (.int .u8 (ev.f.sdt : Nat)) (.int .u8 (ev.f.vcid : Nat)) (.int .u32 (ev.f.af : Nat)) (.slice D ev.f.data.length c)
  clear d0 d1 d2 d3 d4 d5 d6 d7 d8 d9 d10 d11 d12 g0 g1 g2 g3 g4 g5 g6 g7 g8 g9 g10 g11 g12
  have z0 := blk_cell hs 0
  have z1 := blk_cell hs 1
  have z2 := blk_cell hs 2
  have z3 := blk_cell hs 3
  have z4 := blk_cell hs 4
  have z5 := blk_cell hs 5
  have z6 := blk_cell hs 6
  have z7 := blk_cell hs 7
  have z8 := blk_cell hs 8
  have z9 := blk_cell hs 9
  have z10 := blk_cell hs 10
  have z11 := blk_cell hs 11
  have z12 := blk_cell hs 12
  refine bodyPost_ret (v := .tuple #[evV ev D c, .int .i64 0]) ?_ rfl ⟨ev, D, c, _, w1, rfl, ((Below.refl w.heap.size w).alloc (Nat.le_refl _) _).alloc (by simp) _, (by simp; omega), HP.out, hg⟩
  unfold evV evCells
  clear hg hs
  generalize (((((((((((((w1).setCell ⟨w.heap.size, 0, none⟩ _).setCell ⟨w.heap.size, 1, none⟩ _).setCell ⟨w.heap.size, 2, none⟩ _).setCell ⟨w.heap.size, 3, none⟩ _).setCell ⟨w.heap.size, 4, none⟩ _).setCell ⟨w.heap.size, 5, none⟩ _).setCell ⟨w.heap.size, 6, none⟩ _).setCell ⟨w.heap.size, 7, none⟩ _).setCell ⟨w.heap.size, 8, none⟩ _).setCell ⟨w.heap.size, 9, none⟩ _).setCell ⟨w.heap.size, 10, none⟩ _).setCell ⟨w.heap.size, 11, none⟩ _).setCell ⟨w.heap.size, 12, none⟩ _ = X1 at *
  simp [results, Tryz.results21, go_sem, z0, z1, z2, z3, z4, z5, z6, z7, z8, z9, z10, z11, z12]

set_option maxRecDepth 100000 in
set_option maxHeartbeats 2000000 in
theorem sample_9 (b : Nat) (x : Bool) (w : World) (cs : Array Value) (h : w.heap[b]? = some (.cells cs 120 (0, 0))) (hp : cs[16]? = some (.int .i64 9)) (P : Ev → Option Addr → Nat → World → World → Prop)
    (hcall : ∀ W, Below w.heap.size w W → Calls Tryz.prog 73 #[.pointer (some ⟨b, 0, none⟩), .int .u8 (bi x)] W fun e W' => ∃ ev D c, e = .returned (evV ev D c) ∧ P ev D c W W')
    (hkeep : ∀ ev D c W W1, w.heap.size < W.heap.size → P ev D c W W1 → W1.heap[w.heap.size]? = W.heap[w.heap.size]?) :
    Calls Tryz.prog 21 #[.pointer (some ⟨b, 0, none⟩), .int .u8 (bi x)] w (SampleOf w P) := by
  have c16 : w.cell? ⟨b, 16, none⟩ = some (.int .i64 9) := by rw [blk_cell h]; exact hp
  have hx : ¬ (bi x > 1) := by cases x <;> decide
  have hlt := lt_of_block h
  have HCALL := Lib.hid hcall
  have HKEEP := Lib.hid hkeep
  clear h hp hcall hkeep
  generalize bi x = y at *
  go_enter Tryz.func21, Tryz.ntmps21
  go_wp2_with fail
  refine (HCALL.out _ ?_).mono ?_
  · exact ((Below.refl w.heap.size w).alloc (Nat.le_refl _) _).alloc (by simp) _
  rintro e w1 ⟨ev, D, c, rfl, hP⟩
  have hz := HKEEP.out _ _ _ _ _ (by simp; omega) hP
  have hn := blk_alloc (heap_alloc_new w (.cells #[.int .i64 0, .int .i64 0, .int .i64 0, .int .u32 0, .bool false, .bool false, .bool false, .bool false, .bool false, .int .u8 0, .int .u8 0, .int .u32 0, .slice none 0 0] 37)) (.cells #[.func (.func 65) #[] #[], .func (.func 66) #[] #[], .func (.func 67) #[] #[], .func (.func 68) #[] #[], .func (.func 69) #[] #[], .func (.func 70) #[] #[], .func (.func 70) #[] #[], .func (.func 71) #[] #[], .func (.func 72) #[] #[], .func (.func 73) #[] #[], .func (.func 74) #[] #[], .func (.func 75) #[] #[]] 126)
  have hn1 := hz.trans hn
  have HP := Lib.hid hP
  have HN1 := Lib.hid hn1
  clear hP hz hn hn1
  obtain ⟨d0, d1, d2, d3, d4, d5, d6, d7, d8, d9, d10, d11, d12⟩ := ev0_cells HN1.out
  obtain ⟨g0, g1, g2, g3, g4, g5, g6, g7, g8, g9, g10, g11, g12⟩ := free_13 HN1.out
  unfold evV evCells
  go_wp2
  have hs := set13_blk (show w1.heap[w.heap.size]? = some (.cells #[.int .i64 0, .int .i64 0, .int .i64 0, .int .u32 0, .bool false, .bool false, .bool false, .bool false, .bool false, .int .u8 0, .int .u8 0, .int .u32 0, .slice none 0 0] 37 (0, 0)) from HN1.out) (.int .i64 (ev.kind : Nat)) (.int .i64 (ev.err : Nat)) (.int .i64 ev.f.kind) (.int .u32 (ev.f.id : Nat)) (.bool ev.f.ext) (.bool ev.f.rtr) (.bool ev.f.brs) (.bool ev.f.esi) (.bool ev.f.sec) (.int .u8 (ev.f.sdt : Nat)) (.int .u8 (ev.f.vcid : Nat)) (.int .u32 (ev.f.af : Nat)) (.slice D ev.f.data.length c)
  have hg := set13_grown w1 w.heap.size (.int .i64 (ev.kind : Nat)) (.int .i64 (ev.err : Nat)) (.int .i64 ev.f.kind) (.int .u32 (ev.f.id : Nat)) (.bool ev.f.ext) (.bool ev.f.rtr) (.bool ev.f.brs) (.bool ev.f.esi) (.bool ev.f.sec) (.int .u8 (ev.f.sdt : Nat)) (.int .u8 (ev.f.vcid : Nat)) (.int .u32 (ev.f.af : Nat)) (.slice D ev.f.data.length c)
  clear d0 d1 d2 d3 d4 d5 d6 d7 d8 d9 d10 d11 d12 g0 g1 g2 g3 g4 g5 g6 g7 g8 g9 g10 g11 g12
  have z0 := blk_cell hs 0
  have z1 := blk_cell hs 1
  have z2 := blk_cell hs 2
  have z3 := blk_cell hs 3
  have z4 := blk_cell hs 4
  have z5 := blk_cell hs 5
  have z6 := blk_cell hs 6
  have z7 := blk_cell hs 7
  have z8 := blk_cell hs 8
  have z9 := blk_cell hs 9
  have z10 := blk_cell hs 10
  have z11 := blk_cell hs 11
  have z12 := blk_cell hs 12
  refine bodyPost_ret (v := .tuple #[evV ev D c, .int .i64 0]) ?_ rfl ⟨ev, D, c, _, w1, rfl, ((Below.refl w.heap.size w).alloc (Nat.le_refl _) _).alloc (by simp) _, (by simp; omega), HP.out, hg⟩
  unfold evV evCells
  clear hg hs
  generalize (((((((((((((w1).setCell ⟨w.heap.size, 0, none⟩ _).setCell ⟨w.heap.size, 1, none⟩ _).setCell ⟨w.heap.size, 2, none⟩ _).setCell ⟨w.heap.size, 3, none⟩ _).setCell ⟨w.heap.size, 4, none⟩ _).setCell ⟨w.heap.size, 5, none⟩ _).setCell ⟨w.heap.size, 6, none⟩ _).setCell ⟨w.heap.size, 7, none⟩ _).setCell ⟨w.heap.size, 8, none⟩ _).setCell ⟨w.heap.size, 9, none⟩ _).setCell ⟨w.heap.size, 10, none⟩ _).setCell ⟨w.heap.size, 11, none⟩ _).setCell ⟨w.heap.size, 12, none⟩ _ = X1 at *
  simp [results, Tryz.results21, go_sem, z0, z1, z2, z3, z4, z5, z6, z7, z8, z9, z10, z11, z12]

set_option maxRecDepth 100000 in
set_option maxHeartbeats 2000000 in
theorem sample_10 (b : Nat) (x : Bool) (w : World) (cs : Array Value) (h : w.heap[b]? = some (.cells cs 120 (0, 0))) (hp : cs[16]? = some (.int .i64 10)) (P : Ev → Option Addr → Nat → World → World → Prop)
    (hcall : ∀ W, Below w.heap.size w W → Calls Tryz.prog 74 #[.pointer (some ⟨b, 0, none⟩), .int .u8 (bi x)] W fun e W' => ∃ ev D c, e = .returned (evV ev D c) ∧ P ev D c W W')
    (hkeep : ∀ ev D c W W1, w.heap.size < W.heap.size → P ev D c W W1 → W1.heap[w.heap.size]? = W.heap[w.heap.size]?) :
    Calls Tryz.prog 21 #[.pointer (some ⟨b, 0, none⟩), .int .u8 (bi x)] w (SampleOf w P) := by
  have c16 : w.cell? ⟨b, 16, none⟩ = some (.int .i64 10) := by rw [blk_cell h]; exact hp
  have hx : ¬ (bi x > 1) := by cases x <;> decide
  have hlt := lt_of_block h
  have HCALL := Lib.hid hcall
  have HKEEP := Lib.hid hkeep
  clear h hp hcall hkeep
  generalize bi x = y at *
  go_enter Tryz.func21, Tryz.ntmps21
  go_wp2_with fail
  refine (HCALL.out _ ?_).mono ?_
  · exact ((Below.refl w.heap.size w).alloc (Nat.le_refl _) _).alloc (by simp) _
  rintro e w1 ⟨ev, D, c, rfl, hP⟩
  have hz := HKEEP.out _ _ _ _ _ (by simp; omega) hP
  have hn := blk_alloc (heap_alloc_new w (.cells #[.int .i64 0, .int .i64 0, .int .i64 0, .int .u32 0, .bool false, .bool false, .bool false, .bool false, .bool false, .int .u8 0, .int .u8 0, .int .u32 0, .slice none 0 0] 37)) (.cells #[.func (.func 65) #[] #[], .func (.func 66) #[] #[], .func (.func 67) #[] #[], .func (.func 68) #[] #[], .func (.func 69) #[] #[], .func (.func 70) #[] #[], .func (.func 70) #[] #[], .func (.func 71) #[] #[], .func (.func 72) #[] #[], .func (.func 73) #[] #[], .func (.func 74) #[] #[], .func (.func 75) #[] #[]] 126)
  have hn1 := hz.trans hn
  have HP := Lib.hid hP
  have HN1 := Lib.hid hn1
  clear hP hz hn hn1
  obtain ⟨d0, d1, d2, d3, d4, d5, d6, d7, d8, d9, d10, d11, d12⟩ := ev0_cells HN1.out
  obtain ⟨g0, g1, g2, g3, g4, g5, g6, g7, g8, g9, g10, g11, g12⟩ := free_13 HN1.out
  unfold evV evCells
  go_wp2
  have hs := set13_blk (show w1.heap[w.heap.size]? = some (.cells #[.int .i64 0, .int .i64 0, .int .i64 0, .int .u32 0, .bool false, .bool false, .bool false, .bool false, .bool false, .int .u8 0, .int .u8 0, .int .u32 0, .slice none 0 0] 37 (0, 0)) from HN1.out) (.int .i64 (ev.kind : Nat)) (.int .i64 (ev.err : Nat)) (.int .i64 ev.f.kind) (.int .u32 (ev.f.id : Nat)) (.bool ev.f.ext) (.bool ev.f.rtr) (.bool ev.f.brs) (.bool ev.f.esi) (.bool ev.f.sec) (.int .u8 (ev.f.sdt : Nat)) (.int .u8 (ev.f.vcid : Nat)) (.int .u32 (ev.f.af : Nat)) (.slice D ev.f.data.length c)
  have hg := set13_grown w1 w.heap.size (.int .i64 (ev.kind : Nat)) (.int .i64 (ev.err : Nat)) (.int .i64 ev.f.kind) (.int .u32 (ev.f.id : Nat)) (.bool ev.f.ext) (.bool ev.f.rtr) (.bool ev.f.brs) (.bool ev.f.esi) (.bool ev.f.sec) (.int .u8 (ev.f.sdt : Nat)) (.int .u8 (ev.f.vcid : Nat)) (.int .u32 (ev.f.af : Nat)) (.slice D ev.f.data.length c)
  clear d0 d1 d2 d3 d4 d5 d6 d7 d8 d9 d10 d11 d12 g0 g1 g2 g3 g4 g5 g6 g7 g8 g9 g10 g11 g12
  have z0 := blk_cell hs 0
  have z1 := blk_cell hs 1
  have z2 := blk_cell hs 2
  have z3 := blk_cell hs 3
  have z4 := blk_cell hs 4
  have z5 := blk_cell hs 5
  have z6 := blk_cell hs 6
  have z7 := blk_cell hs 7
  have z8 := blk_cell hs 8
  have z9 := blk_cell hs 9
  have z10 := blk_cell hs 10
  have z11 := blk_cell hs 11
  have z12 := blk_cell hs 12
  refine bodyPost_ret (v := .tuple #[evV ev D c, .int .i64 0]) ?_ rfl ⟨ev, D, c, _, w1, rfl, ((Below.refl w.heap.size w).alloc (Nat.le_refl _) _).alloc (by simp) _, (by simp; omega), HP.out, hg⟩
  unfold evV evCells
  clear hg hs
  generalize (((((((((((((w1).setCell ⟨w.heap.size, 0, none⟩ _).setCell ⟨w.heap.size, 1, none⟩ _).setCell ⟨w.heap.size, 2, none⟩ _).setCell ⟨w.heap.size, 3, none⟩ _).setCell ⟨w.heap.size, 4, none⟩ _).setCell ⟨w.heap.size, 5, none⟩ _).setCell ⟨w.heap.size, 6, none⟩ _).setCell ⟨w.heap.size, 7, none⟩ _).setCell ⟨w.heap.size, 8, none⟩ _).setCell ⟨w.heap.size, 9, none⟩ _).setCell ⟨w.heap.size, 10, none⟩ _).setCell ⟨w.heap.size, 11, none⟩ _).setCell ⟨w.heap.size, 12, none⟩ _ = X1 at *
  simp [results, Tryz.results21, go_sem, z0, z1, z2, z3, z4, z5, z6, z7, z8, z9, z10, z11, z12]

set_option maxRecDepth 100000 in
set_option maxHeartbeats 2000000 in
theorem sample_11 (b : Nat) (x : Bool) (w : World) (cs : Array Value) (h : w.heap[b]? = some (.cells cs 120 (0, 0))) (hp : cs[16]? = some (.int .i64 11)) (P : Ev → Option Addr → Nat → World → World → Prop)
    (hcall : ∀ W, Below w.heap.size w W → Calls Tryz.prog 75 #[.pointer (some ⟨b, 0, none⟩), .int .u8 (bi x)] W fun e W' => ∃ ev D c, e = .returned (evV ev D c) ∧ P ev D c W W')
    (hkeep : ∀ ev D c W W1, w.heap.size < W.heap.size → P ev D c W W1 → W1.heap[w.heap.size]? = W.heap[w.heap.size]?) :
    Calls Tryz.prog 21 #[.pointer (some ⟨b, 0, none⟩), .int .u8 (bi x)] w (SampleOf w P) := by
  have c16 : w.cell? ⟨b, 16, none⟩ = some (.int .i64 11) := by rw [blk_cell h]; exact hp
  have hx : ¬ (bi x > 1) := by cases x <;> decide
  have hlt := lt_of_block h
  have HCALL := Lib.hid hcall
  have HKEEP := Lib.hid hkeep
  clear h hp hcall hkeep
  generalize bi x = y at *
  go_enter Tryz.func21, Tryz.ntmps21
  go_wp2_with fail
  refine (HCALL.out _ ?_).mono ?_
  · exact ((Below.refl w.heap.size w).alloc (Nat.le_refl _) _).alloc (by simp) _
  rintro e w1 ⟨ev, D, c, rfl, hP⟩
  have hz := HKEEP.out _ _ _ _ _ (by simp; omega) hP
  have hn := blk_alloc (heap_alloc_new w (.cells #[.int .i64 0, .int .i64 0, .int .i64 0, .int .u32 0, .bool false, .bool false, .bool false, .bool false, .bool false, .int .u8 0, .int .u8 0, .int .u32 0, .slice none 0 0] 37)) (.cells #[.func (.func 65) #[] #[], .func (.func 66) #[] #[], .func (.func 67) #[] #[], .func (.func 68) #[] #[], .func (.func 69) #[] #[], .func (.func 70) #[] #[], .func (.func 70) #[] #[], .func (.func 71) #[] #[], .func (.func 72) #[] #[], .func (.func 73) #[] #[], .func (.func 74) #[] #[], .func (.func 75) #[] #[]] 126)
  have hn1 := hz.trans hn
  have HP := Lib.hid hP
  have HN1 := Lib.hid hn1
  clear hP hz hn hn1
  obtain ⟨d0, d1, d2, d3, d4, d5, d6, d7, d8, d9, d10, d11, d12⟩ := ev0_cells HN1.out
  obtain ⟨g0, g1, g2, g3, g4, g5, g6, g7, g8, g9, g10, g11, g12⟩ := free_13 HN1.out
  unfold evV evCells
  go_wp2
  have hs := set13_blk (show w1.heap[w.heap.size]? = some (.cells #[.int .i64 0, .int .i64 0, .int .i64 0, .int .u32 0, .bool false, .bool false, .bool false, .bool false, .bool false, .int .u8 0, .int .u8 0, .int .u32 0, .slice none 0 0] 37 (0, 0)) from HN1.out) (.int .i64 (ev.kind : Nat)) (.int .i64 (ev.err : Nat)) (.int .i64 ev.f.kind) (.int .u32 (ev.f.id : Nat)) (.bool ev.f.ext) (.bool ev.f.rtr) (.bool ev.f.brs) (.bool ev.f.esi) (.bool ev.f.sec) (.int .u8 (ev.f.sdt : Nat)) (.int .u8 (ev.f.vcid : Nat)) (.int .u32 (ev.f.af : Nat)) (.slice D ev.f.data.length c)
  have hg := set13_grown w1 w.heap.size (.int .i64 (ev.kind : Nat)) (.int .i64 (ev.err : Nat)) (.int .i64 ev.f.kind) (.int .u32 (ev.f.id : Nat)) (.bool ev.f.ext) (.bool ev.f.rtr) (.bool ev.f.brs) (.bool ev.f.esi) (.bool ev.f.sec) (.int .u8 (ev.f.sdt : Nat)) (.int .u8 (ev.f.vcid : Nat)) (.int .u32 (ev.f.af : Nat)) (.slice D ev.f.data.length c)
  clear d0 d1 d2 d3 d4 d5 d6 d7 d8 d9 d10 d11 d12 g0 g1 g2 g3 g4 g5 g6 g7 g8 g9 g10 g11 g12
  have z0 := blk_cell hs 0
  have z1 := blk_cell hs 1
  have z2 := blk_cell hs 2
  have z3 := blk_cell hs 3
  have z4 := blk_cell hs 4
  have z5 := blk_cell hs 5
  have z6 := blk_cell hs 6
  have z7 := blk_cell hs 7
  have z8 := blk_cell hs 8
  have z9 := blk_cell hs 9
  have z10 := blk_cell hs 10
  have z11 := blk_cell hs 11
  have z12 := blk_cell hs 12
  refine bodyPost_ret (v := .tuple #[evV ev D c, .int .i64 0]) ?_ rfl ⟨ev, D, c, _, w1, rfl, ((Below.refl w.heap.size w).alloc (Nat.le_refl _) _).alloc (by simp) _, (by simp; omega), HP.out, hg⟩
  unfold evV evCells
  clear hg hs
  generalize (((((((((((((w1).setCell ⟨w.heap.size, 0, none⟩ _).setCell ⟨w.heap.size, 1, none⟩ _).setCell ⟨w.heap.size, 2, none⟩ _).setCell ⟨w.heap.size, 3, none⟩ _).setCell ⟨w.heap.size, 4, none⟩ _).setCell ⟨w.heap.size, 5, none⟩ _).setCell ⟨w.heap.size, 6, none⟩ _).setCell ⟨w.heap.size, 7, none⟩ _).setCell ⟨w.heap.size, 8, none⟩ _).setCell ⟨w.heap.size, 9, none⟩ _).setCell ⟨w.heap.size, 10, none⟩ _).setCell ⟨w.heap.size, 11, none⟩ _).setCell ⟨w.heap.size, 12, none⟩ _ = X1 at *
  simp [results, Tryz.results21, go_sem, z0, z1, z2, z3, z4, z5, z6, z7, z8, z9, z10, z11, z12]
end Go.Proofs.YtnfnjmllgklaaaaGreat
