/- fault: a node's counters. -/
import Derived.Test.YtnfnjmllgklaaaaGreatKCrcAdd
import Derived.Test.YtnfnjmllgklaaaaGreatKNodeP
set_option linter.unusedVariables false
set_option linter.unusedSimpArgs false
namespace Go.Proofs.YtnfnjmllgklaaaaGreat
open Go Go.RowKit Go.Shelf Om

def faV (s : Om.Fault) : Value := .agg #[.int .i64 (s.tec : Nat), .int .i64 (s.rec_ : Nat), .bool s.off]
theorem fault_parts {s : Om.Fault} (h : s.ok = true) : s.tec ≤ 263 ∧ s.rec_ ≤ 255 ∧ s.off = decide (255 < s.tec) := by
  simp only [Om.Fault.ok, Bool.and_eq_true, decide_eq_true_eq, beq_iff_eq] at h
  exact ⟨h.1.1, h.1.2, h.2⟩

set_option maxRecDepth 100000 in
set_option maxHeartbeats 1000000 in
theorem faultCheck_any (s : Om.Fault) (h : s.ok = true) (w : World) :
    Calls Tryz.prog 24 #[faV s] w fun e w' => e = .returned (.int .i64 0) ∧ Below w.heap.size w w' := by
  obtain ⟨t, r, o⟩ := s
  obtain ⟨h1, h2, h3⟩ := fault_parts h
  simp only at h1 h2 h3
  have hB : ∀ o, Below w.heap.size w (w.alloc o) := fun o => (Below.refl _ _).alloc (Nat.le_refl _) o
  have a1 : ¬ ((t : Int) < 0) := by omega
  have a2 : ¬ ((t : Int) > 263) := by omega
  have a3 : ¬ ((r : Int) < 0) := by omega
  have a4 : ¬ ((r : Int) > 255) := by omega
  unfold faV
  clear h h1 h2
  by_cases h5 : 255 < t
  · have h6 : o = true := by rw [h3]; simpa using h5
    have h7 : (t : Int) > 255 := by omega
    subst h6
    clear h3 h5
    go_enter Tryz.func24, Tryz.ntmps24
    go_wp2
    go_ret
    exact ⟨rfl, hB _⟩
  · have h6 : o = false := by rw [h3]; simpa using h5
    have h7 : ¬ ((t : Int) > 255) := by omega
    subst h6
    clear h3 h5
    go_enter Tryz.func24, Tryz.ntmps24
    go_wp2
    go_ret
    exact ⟨rfl, hB _⟩

set_option maxRecDepth 100000 in
set_option maxHeartbeats 1000000 in
theorem faultmode_any (s : Om.Fault) (w : World) (h : s.ok = true) :
    Calls Tryz.prog 222 #[faV s] w fun e w' => e = .returned (.int .i64 (s.mode : Nat)) ∧ Below w.heap.size w w' := by
  obtain ⟨t, r, o⟩ := s
  obtain ⟨h1, h2, -⟩ := fault_parts h
  simp only at h1 h2
  have hB : ∀ o, Below w.heap.size w (w.alloc o) := fun o => (Below.refl _ _).alloc (Nat.le_refl _) o
  unfold faV
  cases o
  · by_cases h5 : 127 < t ∨ 127 < r
    · have hm : Om.Fault.mode ⟨t, r, false⟩ = 1 := by simp [Om.Fault.mode, h5]
      have h6 : max (t : Int) (r : Int) > 127 := by omega
      have HM := Lib.hid hm
      clear h h5 hm
      go_enter Tryz.func222, Tryz.ntmps222
      go_wp2
      go_ret
      exact ⟨by rw [HM.out]; rfl, hB _⟩
    · have hm : Om.Fault.mode ⟨t, r, false⟩ = 0 := by simp [Om.Fault.mode]; omega
      have h6 : ¬ (max (t : Int) (r : Int) > 127) := by omega
      have HM := Lib.hid hm
      clear h h5 hm
      go_enter Tryz.func222, Tryz.ntmps222
      go_wp2
      go_ret
      exact ⟨by rw [HM.out]; rfl, hB _⟩
  · have hm : Om.Fault.mode ⟨t, r, true⟩ = 2 := rfl
    have HM := Lib.hid hm
    clear h hm
    go_enter Tryz.func222, Tryz.ntmps222
    go_wp2
    go_ret
    exact ⟨by rw [HM.out]; rfl, hB _⟩

set_option maxRecDepth 100000 in
set_option maxHeartbeats 1000000 in
theorem faultMode_any (s : Om.Fault) (w : World) (h : s.ok = true) :
    Calls Tryz.prog 170 #[faV s] w fun e w' => e = .returned (.tuple #[.int .i64 (s.mode : Nat), .int .i64 0]) ∧ Below w.heap.size w w' := by
  have hc := fun w => faultCheck_any s h w
  have hm := fun w => faultmode_any s w h
  have hk := heap_alloc_new w (.cells #[.int .i64 (s.tec : Nat), .int .i64 (s.rec_ : Nat), .bool s.off] 42)
  have hB0 := (Below.refl w.heap.size w).alloc (Nat.le_refl _) (.cells #[.int .i64 (s.tec : Nat), .int .i64 (s.rec_ : Nat), .bool s.off] 42)
  unfold faV at *
  clear h
  go_enter Tryz.func170, Tryz.ntmps170
  go_wp2_with fail
  refine (hc _).mono ?_
  rintro e w1 ⟨rfl, hB1⟩
  have hk1 := blk_below hk hB1 (by simp)
  have c0 : w1.cell? ⟨w.heap.size, 0, none⟩ = some (.int .i64 (s.tec : Nat)) := by rw [blk_cell hk1]; rfl
  have c1 : w1.cell? ⟨w.heap.size, 1, none⟩ = some (.int .i64 (s.rec_ : Nat)) := by rw [blk_cell hk1]; rfl
  have c2 : w1.cell? ⟨w.heap.size, 2, none⟩ = some (.bool s.off) := by rw [blk_cell hk1]; rfl
  have hB2 := hB0.trans (hB1.mono (by simp))
  clear hk hk1 hB0 hB1 hc
  go_wp2_with fail
  refine (hm _).mono ?_
  rintro e w2 ⟨rfl, hB3⟩
  clear hm
  go_wp2
  go_ret2
  exact ⟨rfl, hB2.trans (hB3.mono hB2.size)⟩
end Go.Proofs.YtnfnjmllgklaaaaGreat

/- fault: what an event does. -/
namespace Go.Proofs.YtnfnjmllgklaaaaGreat
open Go Go.RowKit Go.Shelf Om

theorem two_boxes (w : World) (o o' : Obj) : Below w.heap.size w ((w.alloc o).alloc o') := ((Below.refl w.heap.size w).alloc (Nat.le_refl _) o).alloc (by simp) o'

set_option maxRecDepth 100000 in
set_option maxHeartbeats 1000000 in
theorem sent_any (s : Om.Fault) (w : World) (h : s.ok = true) :
    Calls Tryz.prog 216 #[faV s] w fun e w' => e = .returned (faV { s with tec := s.tec - 1 }) ∧ Below w.heap.size w w' := by
  obtain ⟨t, r, o⟩ := s
  obtain ⟨h1, -, -⟩ := fault_parts h
  simp only at h1
  have h3 : ((t : Int) - 1 ≤ 9223372036854775807) := by omega
  have h4 : (-9223372036854775808 ≤ (t : Int) - 1) := by omega
  have hx : max 0 ((t : Int) - 1) = ((t - 1 : Nat) : Int) := by omega
  have hB := two_boxes w
  have HX := Lib.hid hx
  unfold faV
  clear h hx
  go_enter Tryz.func216, Tryz.ntmps216
  go_wp2
  exact bodyPost_ret (v := .agg #[.int .i64 (max 0 ((t : Int) - 1)), .int .i64 (r : Nat), .bool o]) (by simp [results, Tryz.results216, go_sem]) rfl ⟨by rw [HX.out], hB _ _⟩

set_option maxRecDepth 100000 in
set_option maxHeartbeats 1000000 in
theorem got_any (s : Om.Fault) (w : World) (h : s.ok = true) :
    Calls Tryz.prog 217 #[faV s] w fun e w' => e = .returned (faV { s with rec_ := if 127 < s.rec_ then 120 else s.rec_ - 1 }) ∧ Below w.heap.size w w' := by
  obtain ⟨t, r, o⟩ := s
  obtain ⟨-, h1, -⟩ := fault_parts h
  simp only at h1
  have hB := two_boxes w
  unfold faV
  by_cases h5 : 127 < r
  · have h6 : (r : Int) > 127 := by omega
    have hx : (if 127 < r then 120 else r - 1 : Nat) = 120 := if_pos h5
    have HX := Lib.hid hx
    clear h hx h5
    go_enter Tryz.func217, Tryz.ntmps217
    go_wp2
    exact bodyPost_ret (v := .agg #[.int .i64 (t : Nat), .int .i64 120, .bool o]) (by simp [results, Tryz.results217, go_sem]) rfl ⟨by simp only [HX.out] <;> rfl, hB _ _⟩
  · have h6 : ¬ ((r : Int) > 127) := by omega
    have hx : (if 127 < r then 120 else r - 1 : Nat) = r - 1 := if_neg h5
    have hy : max 0 ((r : Int) - 1) = ((r - 1 : Nat) : Int) := by omega
    have h3 : ((r : Int) - 1 ≤ 9223372036854775807) := by omega
    have h4 : (-9223372036854775808 ≤ (r : Int) - 1) := by omega
    have HX := Lib.hid hx
    have HY := Lib.hid hy
    clear h hx hy h5
    go_enter Tryz.func217, Tryz.ntmps217
    go_wp2
    exact bodyPost_ret (v := .agg #[.int .i64 (t : Nat), .int .i64 (max 0 ((r : Int) - 1)), .bool o]) (by simp [results, Tryz.results217, go_sem]) rfl ⟨by simp only [HX.out, HY.out], hB _ _⟩

set_option maxRecDepth 100000 in
set_option maxHeartbeats 1000000 in
theorem sendError_any (s : Om.Fault) (w : World) (h : s.ok = true) :
    Calls Tryz.prog 218 #[faV s] w fun e w' => e = .returned (faV s.sendError) ∧ Below w.heap.size w w' := by
  obtain ⟨t, r, o⟩ := s
  obtain ⟨h1, -, -⟩ := fault_parts h
  simp only at h1
  have hB := two_boxes w
  have hd : decide ((t : Int) + 8 > 255) = decide (255 < t + 8) := by rw [Bool.eq_iff_iff]; simp; omega
  have HD := Lib.hid hd
  unfold faV Om.Fault.sendError
  clear h hd
  go_enter Tryz.func218, Tryz.ntmps218
  go_wp2
  exact bodyPost_ret (v := .agg #[.int .i64 ((t : Int) + 8), .int .i64 (r : Nat), .bool (decide ((t : Int) + 8 > 255))]) (by simp [results, Tryz.results218, go_sem]) rfl ⟨by rw [HD.out]; rfl, hB _ _⟩

set_option maxRecDepth 100000 in
set_option maxHeartbeats 1000000 in
theorem getError_any (s : Om.Fault) (w : World) (h : s.ok = true) :
    Calls Tryz.prog 219 #[faV s] w fun e w' => e = .returned (faV { s with rec_ := min 255 (s.rec_ + 1) }) ∧ Below w.heap.size w w' := by
  obtain ⟨t, r, o⟩ := s
  obtain ⟨-, h1, -⟩ := fault_parts h
  simp only at h1
  have hB := two_boxes w
  have hy : min 255 ((r : Int) + 1) = ((min 255 (r + 1) : Nat) : Int) := by omega
  have HY := Lib.hid hy
  unfold faV
  clear h hy
  go_enter Tryz.func219, Tryz.ntmps219
  go_wp2
  exact bodyPost_ret (v := .agg #[.int .i64 (t : Nat), .int .i64 (min 255 ((r : Int) + 1)), .bool o]) (by simp [results, Tryz.results219, go_sem]) rfl ⟨by simp only [HY.out], hB _ _⟩

set_option maxRecDepth 100000 in
set_option maxHeartbeats 1000000 in
theorem unheard_any (s : Om.Fault) (w : World) (h : s.ok = true) :
    Calls Tryz.prog 220 #[faV s] w fun e w' => e = .returned (faV (if s.mode = 0 then s.sendError else s)) ∧ Below w.heap.size w w' := by
  have hm := fun w => faultmode_any s w h
  have hs := fun w => sendError_any s w h
  have hBB := two_boxes w (.cells #[.int .i64 (s.tec : Nat), .int .i64 (s.rec_ : Nat), .bool s.off] 42) (.cells #[.int .i64 0, .int .i64 0, .bool false] 42)
  have hk := blk_alloc (heap_alloc_new w (.cells #[.int .i64 (s.tec : Nat), .int .i64 (s.rec_ : Nat), .bool s.off] 42)) (.cells #[.int .i64 0, .int .i64 0, .bool false] 42)
  have hk2 := heap_alloc_new (w.alloc (.cells #[.int .i64 (s.tec : Nat), .int .i64 (s.rec_ : Nat), .bool s.off] 42)) (.cells #[.int .i64 0, .int .i64 0, .bool false] 42)
  rw [World.size_alloc] at hk2
  unfold faV at hm hs ⊢
  by_cases h0 : s.mode = 0
  · have hd : (((s.mode : Nat) : Int) == 0) = true := by rw [h0]; rfl
    rw [if_pos h0]
    obtain ⟨g, hg⟩ : ∃ g, g = s.sendError := ⟨_, rfl⟩
    rw [← hg] at hs ⊢
    clear h0 hg
    go_enter Tryz.func220, Tryz.ntmps220
    go_wp2_with fail
    refine (hm _).mono ?_
    rintro e w1 ⟨rfl, hB1⟩
    have hk1 := blk_below hk hB1 (by simp; omega)
    have hk3 := blk_below hk2 hB1 (by simp)
    have c0 : w1.cell? ⟨w.heap.size, 0, none⟩ = some (.int .i64 (s.tec : Nat)) := by rw [blk_cell hk1]; rfl
    have c1 : w1.cell? ⟨w.heap.size, 1, none⟩ = some (.int .i64 (s.rec_ : Nat)) := by rw [blk_cell hk1]; rfl
    have c2 : w1.cell? ⟨w.heap.size, 2, none⟩ = some (.bool s.off) := by rw [blk_cell hk1]; rfl
    have hBw := hBB.trans (hB1.mono (by simp; omega))
    have HK3 := Lib.hid hk3
    clear hm hk hk2 hk1 hk3 hB1
    go_wp2_with fail
    refine (hs _).mono ?_
    rintro e w2 ⟨rfl, hB2⟩
    have hk4 := blk_below HK3.out hB2 (by have := lt_of_block HK3.out; omega)
    have d0 : w2.cell? ⟨w.heap.size + 1, 0, none⟩ = some (.int .i64 0) := by rw [blk_cell hk4]; rfl
    have d1 : w2.cell? ⟨w.heap.size + 1, 1, none⟩ = some (.int .i64 0) := by rw [blk_cell hk4]; rfl
    have d2 : w2.cell? ⟨w.heap.size + 1, 2, none⟩ = some (.bool false) := by rw [blk_cell hk4]; rfl
    have f0 := blk_free hk4 0
    have f1 := blk_free hk4 1
    have f2 := blk_free hk4 2
    have hB3 := hBw.trans (hB2.mono hBw.size)
    have HB3 := Lib.hid hB3
    clear hs c0 c1 c2 hk4 hB3 hBw hB2
    go_wp2
    exact bodyPost_ret (v := .agg #[.int .i64 (g.tec : Nat), .int .i64 (g.rec_ : Nat), .bool g.off]) (by simp [results, Tryz.results220, go_sem, d0, d1, d2]) rfl ⟨rfl, ((HB3.out.setCell (by simp) _).setCell (by simp) _).setCell (by simp) _⟩
  · have hd : (((s.mode : Nat) : Int) == 0) = false := by simp; omega
    rw [if_neg h0]
    clear h0
    go_enter Tryz.func220, Tryz.ntmps220
    go_wp2_with fail
    refine (hm _).mono ?_
    rintro e w1 ⟨rfl, hB1⟩
    have hk1 := blk_below hk hB1 (by simp; omega)
    have hk3 := blk_below hk2 hB1 (by simp)
    have c0 : w1.cell? ⟨w.heap.size, 0, none⟩ = some (.int .i64 (s.tec : Nat)) := by rw [blk_cell hk1]; rfl
    have c1 : w1.cell? ⟨w.heap.size, 1, none⟩ = some (.int .i64 (s.rec_ : Nat)) := by rw [blk_cell hk1]; rfl
    have c2 : w1.cell? ⟨w.heap.size, 2, none⟩ = some (.bool s.off) := by rw [blk_cell hk1]; rfl
    have hBw := hBB.trans (hB1.mono (by simp; omega))
    have HK3 := Lib.hid hk3
    clear hm hk hk2 hk1 hk3 hB1
    have d0 : w1.cell? ⟨w.heap.size + 1, 0, none⟩ = some (.int .i64 0) := by rw [blk_cell HK3.out]; rfl
    have d1 : w1.cell? ⟨w.heap.size + 1, 1, none⟩ = some (.int .i64 0) := by rw [blk_cell HK3.out]; rfl
    have d2 : w1.cell? ⟨w.heap.size + 1, 2, none⟩ = some (.bool false) := by rw [blk_cell HK3.out]; rfl
    have f0 := blk_free HK3.out 0
    have f1 := blk_free HK3.out 1
    have f2 := blk_free HK3.out 2
    go_wp2
    exact bodyPost_ret (v := .agg #[.int .i64 (s.tec : Nat), .int .i64 (s.rec_ : Nat), .bool s.off]) (by simp [results, Tryz.results220, go_sem, d0, d1, d2]) rfl ⟨rfl, ((hBw.setCell (by simp) _).setCell (by simp) _).setCell (by simp) _⟩
end Go.Proofs.YtnfnjmllgklaaaaGreat
