/- Load: a node is given a frame. -/
import Derived.Test.YtnfnjmllgklaaaaGreatKWire
import Derived.Test.YtnfnjmllgklaaaaGreatKMixB
set_option linter.unusedVariables false
set_option linter.unusedSimpArgs false
namespace Go.Proofs.YtnfnjmllgklaaaaGreat
open Go Go.RowKit Go.Shelf Om

theorem load_blk {W : World} {b : Nat} {T : TypeId} {a0 a1 a2 a3 a4 a5 a6 a7 a8 a9 a10 a11 a12 a13 a14 a15 a16 a17 a18 a19 a20 a21 a22 a23 : Value} (hb : W.heap[b]? = some (.cells #[a0, a1, a2, a3, a4, a5, a6, a7, a8, a9, a10, a11, a12, a13, a14, a15, a16, a17, a18, a19, a20, a21, a22, a23] T (0, 0))) (v1 v2 v3 v4 v5 v6 v7 v8 v9 v10 v11 v12 v13 v14 v15 : Value) :
    ((((((((((((((((W).setCell ⟨b, 1, none⟩ v1).setCell ⟨b, 2, none⟩ v2).setCell ⟨b, 3, none⟩ v3).setCell ⟨b, 4, none⟩ v4).setCell ⟨b, 5, none⟩ v5).setCell ⟨b, 6, none⟩ v6).setCell ⟨b, 7, none⟩ v7).setCell ⟨b, 8, none⟩ v8).setCell ⟨b, 9, none⟩ v9).setCell ⟨b, 10, none⟩ v10).setCell ⟨b, 11, none⟩ v11).setCell ⟨b, 12, none⟩ v12).setCell ⟨b, 13, none⟩ v13).setCell ⟨b, 14, none⟩ v14).setCell ⟨b, 15, none⟩ v15).heap[b]? = some (.cells #[a0, v1, v2, v3, v4, v5, v6, v7, v8, v9, v10, v11, v12, v13, v14, v15, a16, a17, a18, a19, a20, a21, a22, a23] T (0, 0)) := by
  have h := blk_set (blk_set (blk_set (blk_set (blk_set (blk_set (blk_set (blk_set (blk_set (blk_set (blk_set (blk_set (blk_set (blk_set (blk_set hb 1 v1) 2 v2) 3 v3) 4 v4) 5 v5) 6 v6) 7 v7) 8 v8) 9 v9) 10 v10) 11 v11) 12 v12) 13 v13) 14 v14) 15 v15
  simpa using h
theorem load_grown (W : World) (b : Nat) (v1 v2 v3 v4 v5 v6 v7 v8 v9 v10 v11 v12 v13 v14 v15 : Value) : W.grownBy ((((((((((((((((W).setCell ⟨b, 1, none⟩ v1).setCell ⟨b, 2, none⟩ v2).setCell ⟨b, 3, none⟩ v3).setCell ⟨b, 4, none⟩ v4).setCell ⟨b, 5, none⟩ v5).setCell ⟨b, 6, none⟩ v6).setCell ⟨b, 7, none⟩ v7).setCell ⟨b, 8, none⟩ v8).setCell ⟨b, 9, none⟩ v9).setCell ⟨b, 10, none⟩ v10).setCell ⟨b, 11, none⟩ v11).setCell ⟨b, 12, none⟩ v12).setCell ⟨b, 13, none⟩ v13).setCell ⟨b, 14, none⟩ v14).setCell ⟨b, 15, none⟩ v15) (some b) :=
  World.grownBy.trans (World.grownBy.trans (World.grownBy.trans (World.grownBy.trans (World.grownBy.trans (World.grownBy.trans (World.grownBy.trans (World.grownBy.trans (World.grownBy.trans (World.grownBy.trans (World.grownBy.trans (World.grownBy.trans (World.grownBy.trans (World.grownBy.trans (grown_set W ⟨b, 1, none⟩ v1) (grown_set _ ⟨b, 2, none⟩ v2)) (grown_set _ ⟨b, 3, none⟩ v3)) (grown_set _ ⟨b, 4, none⟩ v4)) (grown_set _ ⟨b, 5, none⟩ v5)) (grown_set _ ⟨b, 6, none⟩ v6)) (grown_set _ ⟨b, 7, none⟩ v7)) (grown_set _ ⟨b, 8, none⟩ v8)) (grown_set _ ⟨b, 9, none⟩ v9)) (grown_set _ ⟨b, 10, none⟩ v10)) (grown_set _ ⟨b, 11, none⟩ v11)) (grown_set _ ⟨b, 12, none⟩ v12)) (grown_set _ ⟨b, 13, none⟩ v13)) (grown_set _ ⟨b, 14, none⟩ v14)) (grown_set _ ⟨b, 15, none⟩ v15)

/-- What Load leaves. -/
theorem load_end {S Sm : Nat → Prop} {b : Nat} {n : N} {c : NC} {f : Om.Frame} {wf : Om.Wire} {w w4 X : World} {A A4 : Option Addr} {cw c4 B4 : Nat} (h : NodeIn w S b n c Sm) (hB : Below w.heap.size w w4) (hlt : b < w.heap.size)
    (hs : X.heap[b]? = some (.cells (nCells { n with has := true, f := f, w := wf } ⟨A4, c4, A, cw, c.row⟩) 120 (0, 0))) (hg : w4.grownBy X (some b))
    (h4 : X.ownsRow B4 5 1 (.slice A4 f.data.length c4) f.data.length (bytesV f.data)) (hw : X.ownsRow w.heap.size 5 1 (.slice A wf.bits.length cw) wf.bits.length (bitsV wf.bits))
    (l4 : ∀ k, (Value.slice A4 f.data.length c4).ownBlock = some k → w.heap.size ≤ k ∧ k < w4.heap.size) (lw : ∀ k, (Value.slice A wf.bits.length cw).ownBlock = some k → w.heap.size ≤ k ∧ k < w4.heap.size) :
    ∃ S', NodeAt X S' b { n with has := true, f := f, w := wf } ∧ Moved S w X ∧ ∀ k, S' k → S k ∨ w.heap.size ≤ k := by
  have hnew : ∀ k, w.heap.size ≤ k → k < w4.heap.size → (S k ∨ (w.heap.size ≤ k ∧ k < w4.heap.size)) ∧ k ≠ b ∧ ¬ Sm k := fun k h1 h2 => ⟨.inr ⟨h1, h2⟩, by omega, fun hk => by have := h.lt k (h.sub k hk); omega⟩
  refine ⟨fun k => S k ∨ (w.heap.size ≤ k ∧ k < w4.heap.size), ⟨⟨A4, c4, A, cw, c.row⟩, Sm, hs, .inl h.own, ?_, fun k hk => .inl (h.sub k hk), h.nb, ?_, ?_, ?_⟩, ?_, fun k hk => hk.imp id And.left⟩
  · rintro k (hk | hk)
    · have := h.lt k hk; have := hB.size; have := hg.size; omega
    · have := hg.size; omega
  · exact ⟨own_rd h4, fun ad e _ => by subst e; exact hnew _ (l4 _ rfl).1 (l4 _ rfl).2⟩
  · exact ⟨own_rd hw, fun ad e _ => by subst e; exact hnew _ (lw _ rfl).1 (lw _ rfl).2⟩
  · refine h.row.agree (Nat.le_trans hB.size hg.size) (fun k hk => ?_)
    have hk1 := h.lt k (h.sub k hk)
    exact (hg.block k (Nat.lt_of_lt_of_le hk1 hB.size) (fun e => h.nb (by cases e; exact hk))).trans (hB.block k hk1)
  · exact (Moved.of_below hB).trans (Moved.of_grown hg h.own) (fun j hj => .inl hj)

set_option maxRecDepth 100000 in
set_option maxHeartbeats 8000000 in
theorem load_any (S Sm : Nat → Prop) (b : Nat) (n : N) (c : NC) (f : Om.Frame) (D : Option Addr) (cap : Nat) (w : World) (h : NodeIn w S b n c Sm) (hok : f.ok = true) (hx : f.kind = 3 → n.knows = true) (hhas : n.has = false) (hr : Rd w D (bytesV f.data))
    (hwire : ∀ W, Below w.heap.size w W → Calls Tryz.prog 59 #[frV f D cap] W (WirePost W.heap.size (wire f) W)) (hl : f.data.length ≤ 100000) :
    Calls Tryz.prog 18 #[.pointer (some ⟨b, 0, none⟩), frV f D cap] w fun e w' => e = .returned (.int .i64 0) ∧ ∃ S', NodeAt w' S' b { n with has := true, f := f, w := wire f } ∧ Moved S w w' ∧ ∀ k, S' k → S k ∨ w.heap.size ≤ k := by
  have hchk := fun W => fcheckf_any f D cap W (by omega)
  rw [if_pos hok] at hchk
  have hcopy := fun W (hW : Below w.heap.size w W) => copy_any f D cap W (hr.kept hW) (by omega)
  have hk0 := heap_alloc_new w (.cells (frCells f D cap) 25)
  have hB0 := (Below.refl w.heap.size w).alloc (Nat.le_refl _) (.cells (frCells f D cap) 25)
  have c0 : w.cell? ⟨b, 0, none⟩ = some (.bool n.knows) := blk_cell h.blk 0
  have c1 : w.cell? ⟨b, 1, none⟩ = some (.bool false) := by rw [← hhas]; exact blk_cell h.blk 1
  have hlt : b < w.heap.size := lt_of_block h.blk
  have hk3 : (f.kind == 3 && !n.knows) = false := by
    by_cases e : f.kind = 3
    · rw [hx e]; simp
    · simp [e]
  have H := Lib.hid h
  have HWIRE := Lib.hid hwire
  have HCOPY := Lib.hid hcopy
  have HK3 := Lib.hid hk3
  simp only [frCells] at hk0 hB0
  have HK0 := Lib.hid hk0
  have HB0 := Lib.hid hB0
  unfold frV at hchk ⊢
  clear h hwire hcopy hk0 hB0 hk3 hhas hok hr
  obtain ⟨x3, e4, hc0⟩ : ∃ x3, (f.kind == 3) = x3 ∧ (x3 = true → n.knows = true) := ⟨_, rfl, fun e => hx (by simpa using e)⟩
  clear hx
  cases x3
  rotate_left
  · rw [hc0 rfl] at c0
    clear hc0
    go_enter Tryz.func18, Tryz.ntmps18
    go_wp2_with fail
    refine (hchk _).mono ?_
    rintro e w1 ⟨rfl, hB1⟩
    have HK1 := Lib.hid (blk_below HK0.out hB1 (by simp))
    have HB1 := Lib.hid (HB0.out.trans (hB1.mono (by simp)))
    have h1 := (HB1.out.cell (p := ⟨b, 0, none⟩) hlt).trans c0
    have h2 := (HB1.out.cell (p := ⟨b, 1, none⟩) hlt).trans c1
    clear hchk hB1 c0 c1
    obtain ⟨k0, k1, k2, k3, k4, k5, k6, k7, k8, k9, k10⟩ := fr_cells (f := f) HK1.out
    go_wp2_with fail
    have hw1 := HWIRE.out w1 HB1.out
    unfold frV at hw1
    refine hw1.mono ?_
    rintro e w2 ⟨A, cw, rfl, hO, hB2⟩
    have HO2 := Lib.hid hO
    have HK2 := Lib.hid (blk_kept HK1.out hB2)
    have HB2 := Lib.hid (below_then HB1.out hB2)
    have HS1 := Lib.hid HB1.out.size
    clear hw1 hO hB2 h1 h2 k0 k1 k2 k3 k4 k5 k6 k7 k8 k9 k10
    unfold wireV
    obtain ⟨w3, hw3⟩ : ∃ w3, w3 = w2.alloc (.cells #[.slice A (wire f).bits.length cw, .int .i64 ((wire f).arb : Nat), .int .i64 ((wire f).ack : Nat)] 32) := ⟨_, rfl⟩
    have HK3 : Hid (w3.heap[w.heap.size]? = some (.cells #[.int .i64 f.kind, .int .u32 (f.id : Nat), .bool f.ext, .bool f.rtr, .bool f.brs, .bool f.esi, .bool f.sec, .int .u8 (f.sdt : Nat), .int .u8 (f.vcid : Nat), .int .u32 (f.af : Nat), .slice D f.data.length cap] 25 (0, 0))) := Lib.hid (by rw [hw3]; exact blk_alloc HK2.out _)
    have HW3 : Hid (w3.heap[w2.heap.size]? = some (.cells #[.slice A (wire f).bits.length cw, .int .i64 ((wire f).arb : Nat), .int .i64 ((wire f).ack : Nat)] 32 (0, 0))) := Lib.hid (by rw [hw3]; exact heap_alloc_new w2 _)
    have HO3 : Hid (w3.ownsRow w.heap.size 5 1 (.slice A (wire f).bits.length cw) (wire f).bits.length (bitsV (wire f).bits)) := Lib.hid (by rw [hw3]; exact own_mono (HO2.out.alloc _) HS1.out)
    have HB3 : Hid (Below w.heap.size w w3) := Lib.hid (by rw [hw3]; exact HB2.out.alloc HB2.out.size _)
    have HS2 := Lib.hid HB2.out.size
    have HZ3 : Hid (w3.heap.size = w2.heap.size + 1) := Lib.hid (by rw [hw3]; simp)
    have hneb : w.heap.size ≠ b := by omega
    have hnew : w2.heap.size ≠ b := by have := HS2.out; omega
    have x0 := OmB.chg_cell_of (b := b) (show w3.cell? ⟨w.heap.size, 0, none⟩ = some (.int .i64 f.kind) from blk_cell HK3.out 0) (by first | exact hneb | exact hnew)
    have x1 := OmB.chg_cell_of (b := b) (show w3.cell? ⟨w.heap.size, 1, none⟩ = some (.int .u32 (f.id : Nat)) from blk_cell HK3.out 1) (by first | exact hneb | exact hnew)
    have x2 := OmB.chg_cell_of (b := b) (show w3.cell? ⟨w.heap.size, 2, none⟩ = some (.bool f.ext) from blk_cell HK3.out 2) (by first | exact hneb | exact hnew)
    have x3 := OmB.chg_cell_of (b := b) (show w3.cell? ⟨w.heap.size, 3, none⟩ = some (.bool f.rtr) from blk_cell HK3.out 3) (by first | exact hneb | exact hnew)
    have x4 := OmB.chg_cell_of (b := b) (show w3.cell? ⟨w.heap.size, 4, none⟩ = some (.bool f.brs) from blk_cell HK3.out 4) (by first | exact hneb | exact hnew)
    have x5 := OmB.chg_cell_of (b := b) (show w3.cell? ⟨w.heap.size, 5, none⟩ = some (.bool f.esi) from blk_cell HK3.out 5) (by first | exact hneb | exact hnew)
    have x6 := OmB.chg_cell_of (b := b) (show w3.cell? ⟨w.heap.size, 6, none⟩ = some (.bool f.sec) from blk_cell HK3.out 6) (by first | exact hneb | exact hnew)
    have x7 := OmB.chg_cell_of (b := b) (show w3.cell? ⟨w.heap.size, 7, none⟩ = some (.int .u8 (f.sdt : Nat)) from blk_cell HK3.out 7) (by first | exact hneb | exact hnew)
    have x8 := OmB.chg_cell_of (b := b) (show w3.cell? ⟨w.heap.size, 8, none⟩ = some (.int .u8 (f.vcid : Nat)) from blk_cell HK3.out 8) (by first | exact hneb | exact hnew)
    have x9 := OmB.chg_cell_of (b := b) (show w3.cell? ⟨w.heap.size, 9, none⟩ = some (.int .u32 (f.af : Nat)) from blk_cell HK3.out 9) (by first | exact hneb | exact hnew)
    have x10 := OmB.chg_cell_of (b := b) (show w3.cell? ⟨w.heap.size, 10, none⟩ = some (.slice D f.data.length cap) from blk_cell HK3.out 10) (by first | exact hneb | exact hnew)
    have y0 := OmB.chg_cell_of (b := b) (show w3.cell? ⟨w2.heap.size, 0, none⟩ = some (.slice A (wire f).bits.length cw) from blk_cell HW3.out 0) (by first | exact hneb | exact hnew)
    have y1 := OmB.chg_cell_of (b := b) (show w3.cell? ⟨w2.heap.size, 1, none⟩ = some (.int .i64 ((wire f).arb : Nat)) from blk_cell HW3.out 1) (by first | exact hneb | exact hnew)
    have y2 := OmB.chg_cell_of (b := b) (show w3.cell? ⟨w2.heap.size, 2, none⟩ = some (.int .i64 ((wire f).ack : Nat)) from blk_cell HW3.out 2) (by first | exact hneb | exact hnew)
    go_wp2
    rw [← hw3]
    clear hw3
    clear hneb hnew
    refine OmB.wp_region_mix (bb := b) #[[], [], [], [], [3], [], [0, 3, 4], [0, 3, 4, 6], [0, 3, 4, 6, 7], [0, 1, 3, 4, 6, 7, 8], [0, 1, 3, 4, 6, 7, 8, 9], [0, 1, 3, 4, 6, 7, 8, 9, 10], [0, 1, 2, 3, 4, 5, 6, 7, 8, 9, 10, 11], [0, 1, 2, 3, 4, 5, 6, 7, 8, 9, 10, 11, 12], [0, 1, 2, 3, 4, 5, 6, 7, 8, 9, 10, 11, 12, 13]] [(0, 0), (1, 0), (2, 0), (3, 1), (5, 1), (4, 3), (6, 0), (7, 0), (8, 3), (9, 0), (10, 0), (11, 3), (12, 0), (13, 0), (14, 2)] (by kernel_rfl) (by kernel_rfl) ?_
    refine OmB.mg_in ?_
    repeat ((first | refine OmB.mg_py rfl rfl (fun K hK => ?_) | refine OmB.mg_sy rfl rfl (fun K hK => ?_)); go_simp; refine hK _ ?_; clear hK K)
    clear x0 x1 x2 x3 x4 x5 x6 x7 x8 x9 x10 y0 y1 y2
    have hcp := HCOPY.out w3.drew HB3.out.drew
    unfold frV at hcp
    refine OmB.mg_kp rfl ?_
    go_wp2_with fail
    refine hcp.mono ?_
    rintro e w4 ⟨A4, c4, rfl, hO4, hB4⟩
    have hB34 : Below w3.heap.size w3 w4 := (Below.refl w3.heap.size w3).drew.trans hB4
    have HB4' := Lib.hid hB4
    have HO4 := Lib.hid hO4
    have HB4 := Lib.hid (below_then HB3.out hB34)
    have HOw := Lib.hid (own_kept HO3.out hB34)
    have HBb := Lib.hid ((HB4.out.block b hlt).trans H.out.blk)
    clear hcp hO4 hB4 hB34
    have q1 : w4.cell? ⟨b, 1, none⟩ = some (.bool n.has) := blk_cell HBb.out 1
    have q2 : w4.cell? ⟨b, 2, none⟩ = some (.int .i64 n.f.kind) := blk_cell HBb.out 2
    have q3 : w4.cell? ⟨b, 3, none⟩ = some (.int .u32 (n.f.id : Nat)) := blk_cell HBb.out 3
    have q4 : w4.cell? ⟨b, 4, none⟩ = some (.bool n.f.ext) := blk_cell HBb.out 4
    have q5 : w4.cell? ⟨b, 5, none⟩ = some (.bool n.f.rtr) := blk_cell HBb.out 5
    have q6 : w4.cell? ⟨b, 6, none⟩ = some (.bool n.f.brs) := blk_cell HBb.out 6
    have q7 : w4.cell? ⟨b, 7, none⟩ = some (.bool n.f.esi) := blk_cell HBb.out 7
    have q8 : w4.cell? ⟨b, 8, none⟩ = some (.bool n.f.sec) := blk_cell HBb.out 8
    have q9 : w4.cell? ⟨b, 9, none⟩ = some (.int .u8 (n.f.sdt : Nat)) := blk_cell HBb.out 9
    have q10 : w4.cell? ⟨b, 10, none⟩ = some (.int .u8 (n.f.vcid : Nat)) := blk_cell HBb.out 10
    have q11 : w4.cell? ⟨b, 11, none⟩ = some (.int .u32 (n.f.af : Nat)) := blk_cell HBb.out 11
    have q12 : w4.cell? ⟨b, 12, none⟩ = some (.slice c.fD n.f.data.length c.fc) := blk_cell HBb.out 12
    have q13 : w4.cell? ⟨b, 13, none⟩ = some (.slice c.wA n.w.bits.length c.wc) := blk_cell HBb.out 13
    have q14 : w4.cell? ⟨b, 14, none⟩ = some (.int .i64 (n.w.arb : Nat)) := blk_cell HBb.out 14
    have q15 : w4.cell? ⟨b, 15, none⟩ = some (.int .i64 (n.w.ack : Nat)) := blk_cell HBb.out 15
    have r1 := blk_free HBb.out 1
    have r2 := blk_free HBb.out 2
    have r3 := blk_free HBb.out 3
    have r4 := blk_free HBb.out 4
    have r5 := blk_free HBb.out 5
    have r6 := blk_free HBb.out 6
    have r7 := blk_free HBb.out 7
    have r8 := blk_free HBb.out 8
    have r9 := blk_free HBb.out 9
    have r10 := blk_free HBb.out 10
    have r11 := blk_free HBb.out 11
    have r12 := blk_free HBb.out 12
    have r13 := blk_free HBb.out 13
    have r14 := blk_free HBb.out 14
    have r15 := blk_free HBb.out 15
    go_wp2
    refine ⟨OmB.chg_of_below HB4'.out, ?_⟩
    repeat (refine OmB.mg_py rfl rfl (fun K hK => ?_); go_simp; refine hK _ ?_; clear hK K)
    refine OmB.mg_kp rfl ?_
    go_wp2
    refine ⟨OmB.chg_of_grown (grown_set _ ⟨b, 1, none⟩ _), ?_⟩
    repeat (refine OmB.mg_py rfl rfl (fun K hK => ?_); go_simp; refine hK _ ?_; clear hK K)
    refine OmB.mg_kp rfl ?_
    go_wp2
    refine ⟨OmB.chg_of_grown ?_, ?_⟩
    · exact World.grownBy.trans (World.grownBy.trans (World.grownBy.trans (World.grownBy.trans (World.grownBy.trans (World.grownBy.trans (World.grownBy.trans (World.grownBy.trans (World.grownBy.trans (World.grownBy.trans (grown_set _ ⟨b, 2, none⟩ _) (grown_set _ ⟨b, 3, none⟩ _)) (grown_set _ ⟨b, 4, none⟩ _)) (grown_set _ ⟨b, 5, none⟩ _)) (grown_set _ ⟨b, 6, none⟩ _)) (grown_set _ ⟨b, 7, none⟩ _)) (grown_set _ ⟨b, 8, none⟩ _)) (grown_set _ ⟨b, 9, none⟩ _)) (grown_set _ ⟨b, 10, none⟩ _)) (grown_set _ ⟨b, 11, none⟩ _)) (grown_set _ ⟨b, 12, none⟩ _)
    repeat (refine OmB.mg_py rfl rfl (fun K hK => ?_); go_simp; refine hK _ ?_; clear hK K)
    refine OmB.mg_ef rfl ?_
    go_wp2
    change OmB.MixG _ _ _ _ _ _ _
    refine OmB.mg_end ?_
    go_wp2
    go_ret
    have hs := load_blk HBb.out (.bool true) (.int .i64 f.kind) (.int .u32 (f.id : Nat)) (.bool f.ext) (.bool f.rtr) (.bool f.brs) (.bool f.esi) (.bool f.sec) (.int .u8 (f.sdt : Nat)) (.int .u8 (f.vcid : Nat)) (.int .u32 (f.af : Nat)) (.slice A4 f.data.length c4) (.slice A (wire f).bits.length cw) (.int .i64 ((wire f).arb : Nat)) (.int .i64 ((wire f).ack : Nat))
    have hg := load_grown w4 b (.bool true) (.int .i64 f.kind) (.int .u32 (f.id : Nat)) (.bool f.ext) (.bool f.rtr) (.bool f.brs) (.bool f.esi) (.bool f.sec) (.int .u8 (f.sdt : Nat)) (.int .u8 (f.vcid : Nat)) (.int .u32 (f.af : Nat)) (.slice A4 f.data.length c4) (.slice A (wire f).bits.length cw) (.int .i64 ((wire f).arb : Nat)) (.int .i64 ((wire f).ack : Nat))
    have hO4 := HO4.out.kept hg (.inr (own_ne HO4.out HBb.out (by decide)))
    have hOw := HOw.out.kept hg (.inr (own_ne HOw.out HBb.out (by decide)))
    have l4 := fun k hk => HO4.out.lt k hk
    have lw := fun k hk => HOw.out.lt k hk
    clear q1 q2 q3 q4 q5 q6 q7 q8 q9 q10 q11 q12 q13 q14 q15 r1 r2 r3 r4 r5 r6 r7 r8 r9 r10 r11 r12 r13 r14 r15
    refine ⟨rfl, load_end H.out HB4.out hlt hs hg hO4 hOw (fun k hk => ⟨by have := (l4 k hk).1; have := HS2.out; have := HZ3.out; simp at *; omega, (l4 k hk).2⟩) lw⟩
  · clear hc0
    go_enter Tryz.func18, Tryz.ntmps18
    go_wp2_with fail
    refine (hchk _).mono ?_
    rintro e w1 ⟨rfl, hB1⟩
    have HK1 := Lib.hid (blk_below HK0.out hB1 (by simp))
    have HB1 := Lib.hid (HB0.out.trans (hB1.mono (by simp)))
    have h1 := (HB1.out.cell (p := ⟨b, 0, none⟩) hlt).trans c0
    have h2 := (HB1.out.cell (p := ⟨b, 1, none⟩) hlt).trans c1
    clear hchk hB1 c0 c1
    obtain ⟨k0, k1, k2, k3, k4, k5, k6, k7, k8, k9, k10⟩ := fr_cells (f := f) HK1.out
    go_wp2_with fail
    have hw1 := HWIRE.out w1 HB1.out
    unfold frV at hw1
    refine hw1.mono ?_
    rintro e w2 ⟨A, cw, rfl, hO, hB2⟩
    have HO2 := Lib.hid hO
    have HK2 := Lib.hid (blk_kept HK1.out hB2)
    have HB2 := Lib.hid (below_then HB1.out hB2)
    have HS1 := Lib.hid HB1.out.size
    clear hw1 hO hB2 h1 h2 k0 k1 k2 k3 k4 k5 k6 k7 k8 k9 k10
    unfold wireV
    obtain ⟨w3, hw3⟩ : ∃ w3, w3 = w2.alloc (.cells #[.slice A (wire f).bits.length cw, .int .i64 ((wire f).arb : Nat), .int .i64 ((wire f).ack : Nat)] 32) := ⟨_, rfl⟩
    have HK3 : Hid (w3.heap[w.heap.size]? = some (.cells #[.int .i64 f.kind, .int .u32 (f.id : Nat), .bool f.ext, .bool f.rtr, .bool f.brs, .bool f.esi, .bool f.sec, .int .u8 (f.sdt : Nat), .int .u8 (f.vcid : Nat), .int .u32 (f.af : Nat), .slice D f.data.length cap] 25 (0, 0))) := Lib.hid (by rw [hw3]; exact blk_alloc HK2.out _)
    have HW3 : Hid (w3.heap[w2.heap.size]? = some (.cells #[.slice A (wire f).bits.length cw, .int .i64 ((wire f).arb : Nat), .int .i64 ((wire f).ack : Nat)] 32 (0, 0))) := Lib.hid (by rw [hw3]; exact heap_alloc_new w2 _)
    have HO3 : Hid (w3.ownsRow w.heap.size 5 1 (.slice A (wire f).bits.length cw) (wire f).bits.length (bitsV (wire f).bits)) := Lib.hid (by rw [hw3]; exact own_mono (HO2.out.alloc _) HS1.out)
    have HB3 : Hid (Below w.heap.size w w3) := Lib.hid (by rw [hw3]; exact HB2.out.alloc HB2.out.size _)
    have HS2 := Lib.hid HB2.out.size
    have HZ3 : Hid (w3.heap.size = w2.heap.size + 1) := Lib.hid (by rw [hw3]; simp)
    have hneb : w.heap.size ≠ b := by omega
    have hnew : w2.heap.size ≠ b := by have := HS2.out; omega
    have x0 := OmB.chg_cell_of (b := b) (show w3.cell? ⟨w.heap.size, 0, none⟩ = some (.int .i64 f.kind) from blk_cell HK3.out 0) (by first | exact hneb | exact hnew)
    have x1 := OmB.chg_cell_of (b := b) (show w3.cell? ⟨w.heap.size, 1, none⟩ = some (.int .u32 (f.id : Nat)) from blk_cell HK3.out 1) (by first | exact hneb | exact hnew)
    have x2 := OmB.chg_cell_of (b := b) (show w3.cell? ⟨w.heap.size, 2, none⟩ = some (.bool f.ext) from blk_cell HK3.out 2) (by first | exact hneb | exact hnew)
    have x3 := OmB.chg_cell_of (b := b) (show w3.cell? ⟨w.heap.size, 3, none⟩ = some (.bool f.rtr) from blk_cell HK3.out 3) (by first | exact hneb | exact hnew)
    have x4 := OmB.chg_cell_of (b := b) (show w3.cell? ⟨w.heap.size, 4, none⟩ = some (.bool f.brs) from blk_cell HK3.out 4) (by first | exact hneb | exact hnew)
    have x5 := OmB.chg_cell_of (b := b) (show w3.cell? ⟨w.heap.size, 5, none⟩ = some (.bool f.esi) from blk_cell HK3.out 5) (by first | exact hneb | exact hnew)
    have x6 := OmB.chg_cell_of (b := b) (show w3.cell? ⟨w.heap.size, 6, none⟩ = some (.bool f.sec) from blk_cell HK3.out 6) (by first | exact hneb | exact hnew)
    have x7 := OmB.chg_cell_of (b := b) (show w3.cell? ⟨w.heap.size, 7, none⟩ = some (.int .u8 (f.sdt : Nat)) from blk_cell HK3.out 7) (by first | exact hneb | exact hnew)
    have x8 := OmB.chg_cell_of (b := b) (show w3.cell? ⟨w.heap.size, 8, none⟩ = some (.int .u8 (f.vcid : Nat)) from blk_cell HK3.out 8) (by first | exact hneb | exact hnew)
    have x9 := OmB.chg_cell_of (b := b) (show w3.cell? ⟨w.heap.size, 9, none⟩ = some (.int .u32 (f.af : Nat)) from blk_cell HK3.out 9) (by first | exact hneb | exact hnew)
    have x10 := OmB.chg_cell_of (b := b) (show w3.cell? ⟨w.heap.size, 10, none⟩ = some (.slice D f.data.length cap) from blk_cell HK3.out 10) (by first | exact hneb | exact hnew)
    have y0 := OmB.chg_cell_of (b := b) (show w3.cell? ⟨w2.heap.size, 0, none⟩ = some (.slice A (wire f).bits.length cw) from blk_cell HW3.out 0) (by first | exact hneb | exact hnew)
    have y1 := OmB.chg_cell_of (b := b) (show w3.cell? ⟨w2.heap.size, 1, none⟩ = some (.int .i64 ((wire f).arb : Nat)) from blk_cell HW3.out 1) (by first | exact hneb | exact hnew)
    have y2 := OmB.chg_cell_of (b := b) (show w3.cell? ⟨w2.heap.size, 2, none⟩ = some (.int .i64 ((wire f).ack : Nat)) from blk_cell HW3.out 2) (by first | exact hneb | exact hnew)
    go_wp2
    rw [← hw3]
    clear hw3
    clear hneb hnew
    refine OmB.wp_region_mix (bb := b) #[[], [], [], [], [3], [], [0, 3, 4], [0, 3, 4, 6], [0, 3, 4, 6, 7], [0, 1, 3, 4, 6, 7, 8], [0, 1, 3, 4, 6, 7, 8, 9], [0, 1, 3, 4, 6, 7, 8, 9, 10], [0, 1, 2, 3, 4, 5, 6, 7, 8, 9, 10, 11], [0, 1, 2, 3, 4, 5, 6, 7, 8, 9, 10, 11, 12], [0, 1, 2, 3, 4, 5, 6, 7, 8, 9, 10, 11, 12, 13]] [(0, 0), (1, 0), (2, 0), (3, 1), (5, 1), (4, 3), (6, 0), (7, 0), (8, 3), (9, 0), (10, 0), (11, 3), (12, 0), (13, 0), (14, 2)] (by kernel_rfl) (by kernel_rfl) ?_
    refine OmB.mg_in ?_
    repeat ((first | refine OmB.mg_py rfl rfl (fun K hK => ?_) | refine OmB.mg_sy rfl rfl (fun K hK => ?_)); go_simp; refine hK _ ?_; clear hK K)
    clear x0 x1 x2 x3 x4 x5 x6 x7 x8 x9 x10 y0 y1 y2
    have hcp := HCOPY.out w3.drew HB3.out.drew
    unfold frV at hcp
    refine OmB.mg_kp rfl ?_
    go_wp2_with fail
    refine hcp.mono ?_
    rintro e w4 ⟨A4, c4, rfl, hO4, hB4⟩
    have hB34 : Below w3.heap.size w3 w4 := (Below.refl w3.heap.size w3).drew.trans hB4
    have HB4' := Lib.hid hB4
    have HO4 := Lib.hid hO4
    have HB4 := Lib.hid (below_then HB3.out hB34)
    have HOw := Lib.hid (own_kept HO3.out hB34)
    have HBb := Lib.hid ((HB4.out.block b hlt).trans H.out.blk)
    clear hcp hO4 hB4 hB34
    have q1 : w4.cell? ⟨b, 1, none⟩ = some (.bool n.has) := blk_cell HBb.out 1
    have q2 : w4.cell? ⟨b, 2, none⟩ = some (.int .i64 n.f.kind) := blk_cell HBb.out 2
    have q3 : w4.cell? ⟨b, 3, none⟩ = some (.int .u32 (n.f.id : Nat)) := blk_cell HBb.out 3
    have q4 : w4.cell? ⟨b, 4, none⟩ = some (.bool n.f.ext) := blk_cell HBb.out 4
    have q5 : w4.cell? ⟨b, 5, none⟩ = some (.bool n.f.rtr) := blk_cell HBb.out 5
    have q6 : w4.cell? ⟨b, 6, none⟩ = some (.bool n.f.brs) := blk_cell HBb.out 6
    have q7 : w4.cell? ⟨b, 7, none⟩ = some (.bool n.f.esi) := blk_cell HBb.out 7
    have q8 : w4.cell? ⟨b, 8, none⟩ = some (.bool n.f.sec) := blk_cell HBb.out 8
    have q9 : w4.cell? ⟨b, 9, none⟩ = some (.int .u8 (n.f.sdt : Nat)) := blk_cell HBb.out 9
    have q10 : w4.cell? ⟨b, 10, none⟩ = some (.int .u8 (n.f.vcid : Nat)) := blk_cell HBb.out 10
    have q11 : w4.cell? ⟨b, 11, none⟩ = some (.int .u32 (n.f.af : Nat)) := blk_cell HBb.out 11
    have q12 : w4.cell? ⟨b, 12, none⟩ = some (.slice c.fD n.f.data.length c.fc) := blk_cell HBb.out 12
    have q13 : w4.cell? ⟨b, 13, none⟩ = some (.slice c.wA n.w.bits.length c.wc) := blk_cell HBb.out 13
    have q14 : w4.cell? ⟨b, 14, none⟩ = some (.int .i64 (n.w.arb : Nat)) := blk_cell HBb.out 14
    have q15 : w4.cell? ⟨b, 15, none⟩ = some (.int .i64 (n.w.ack : Nat)) := blk_cell HBb.out 15
    have r1 := blk_free HBb.out 1
    have r2 := blk_free HBb.out 2
    have r3 := blk_free HBb.out 3
    have r4 := blk_free HBb.out 4
    have r5 := blk_free HBb.out 5
    have r6 := blk_free HBb.out 6
    have r7 := blk_free HBb.out 7
    have r8 := blk_free HBb.out 8
    have r9 := blk_free HBb.out 9
    have r10 := blk_free HBb.out 10
    have r11 := blk_free HBb.out 11
    have r12 := blk_free HBb.out 12
    have r13 := blk_free HBb.out 13
    have r14 := blk_free HBb.out 14
    have r15 := blk_free HBb.out 15
    go_wp2
    refine ⟨OmB.chg_of_below HB4'.out, ?_⟩
    repeat (refine OmB.mg_py rfl rfl (fun K hK => ?_); go_simp; refine hK _ ?_; clear hK K)
    refine OmB.mg_kp rfl ?_
    go_wp2
    refine ⟨OmB.chg_of_grown (grown_set _ ⟨b, 1, none⟩ _), ?_⟩
    repeat (refine OmB.mg_py rfl rfl (fun K hK => ?_); go_simp; refine hK _ ?_; clear hK K)
    refine OmB.mg_kp rfl ?_
    go_wp2
    refine ⟨OmB.chg_of_grown ?_, ?_⟩
    · exact World.grownBy.trans (World.grownBy.trans (World.grownBy.trans (World.grownBy.trans (World.grownBy.trans (World.grownBy.trans (World.grownBy.trans (World.grownBy.trans (World.grownBy.trans (World.grownBy.trans (grown_set _ ⟨b, 2, none⟩ _) (grown_set _ ⟨b, 3, none⟩ _)) (grown_set _ ⟨b, 4, none⟩ _)) (grown_set _ ⟨b, 5, none⟩ _)) (grown_set _ ⟨b, 6, none⟩ _)) (grown_set _ ⟨b, 7, none⟩ _)) (grown_set _ ⟨b, 8, none⟩ _)) (grown_set _ ⟨b, 9, none⟩ _)) (grown_set _ ⟨b, 10, none⟩ _)) (grown_set _ ⟨b, 11, none⟩ _)) (grown_set _ ⟨b, 12, none⟩ _)
    repeat (refine OmB.mg_py rfl rfl (fun K hK => ?_); go_simp; refine hK _ ?_; clear hK K)
    refine OmB.mg_ef rfl ?_
    go_wp2
    change OmB.MixG _ _ _ _ _ _ _
    refine OmB.mg_end ?_
    go_wp2
    go_ret
    have hs := load_blk HBb.out (.bool true) (.int .i64 f.kind) (.int .u32 (f.id : Nat)) (.bool f.ext) (.bool f.rtr) (.bool f.brs) (.bool f.esi) (.bool f.sec) (.int .u8 (f.sdt : Nat)) (.int .u8 (f.vcid : Nat)) (.int .u32 (f.af : Nat)) (.slice A4 f.data.length c4) (.slice A (wire f).bits.length cw) (.int .i64 ((wire f).arb : Nat)) (.int .i64 ((wire f).ack : Nat))
    have hg := load_grown w4 b (.bool true) (.int .i64 f.kind) (.int .u32 (f.id : Nat)) (.bool f.ext) (.bool f.rtr) (.bool f.brs) (.bool f.esi) (.bool f.sec) (.int .u8 (f.sdt : Nat)) (.int .u8 (f.vcid : Nat)) (.int .u32 (f.af : Nat)) (.slice A4 f.data.length c4) (.slice A (wire f).bits.length cw) (.int .i64 ((wire f).arb : Nat)) (.int .i64 ((wire f).ack : Nat))
    have hO4 := HO4.out.kept hg (.inr (own_ne HO4.out HBb.out (by decide)))
    have hOw := HOw.out.kept hg (.inr (own_ne HOw.out HBb.out (by decide)))
    have l4 := fun k hk => HO4.out.lt k hk
    have lw := fun k hk => HOw.out.lt k hk
    clear q1 q2 q3 q4 q5 q6 q7 q8 q9 q10 q11 q12 q13 q14 q15 r1 r2 r3 r4 r5 r6 r7 r8 r9 r10 r11 r12 r13 r14 r15
    refine ⟨rfl, load_end H.out HB4.out hlt hs hg hO4 hOw (fun k hk => ⟨by have := (l4 k hk).1; have := HS2.out; have := HZ3.out; simp at *; omega, (l4 k hk).2⟩) lw⟩
end Go.Proofs.YtnfnjmllgklaaaaGreat
