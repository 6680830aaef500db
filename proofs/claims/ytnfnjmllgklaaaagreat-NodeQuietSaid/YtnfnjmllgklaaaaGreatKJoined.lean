/- Sample at Join and at Idle; joined. -/
import Derived.Test.YtnfnjmllgklaaaaGreatKLoad
import Derived.Test.YtnfnjmllgklaaaaGreatKAlone
set_option linter.unusedVariables false
set_option linter.unusedSimpArgs false
namespace Go.Proofs.YtnfnjmllgklaaaaGreat
open Go Go.RowKit Go.Shelf Om

/-- What a phase does that turns the node's own cells alone. -/
def PhaseP (w : World) (b : Nat) (c : NC) (r : Ev × N) (ev : Ev) (D : Option Addr) (c' : Nat) (W W1 : World) : Prop :=
  ev = r.1 ∧ D = none ∧ c' = 0 ∧ W1.heap[b]? = some (.cells (nCells r.2 c) 120 (0, 0)) ∧ W.grownBy W1 (some b) ∧ b < w.heap.size
theorem phaseP_keep {w : World} {b : Nat} {c : NC} {r : Ev × N} : ∀ ev D c' W W1, w.heap.size < W.heap.size → PhaseP w b c r ev D c' W W1 → W1.heap[w.heap.size]? = W.heap[w.heap.size]? :=
  fun _ _ _ _ _ hl h => h.2.2.2.2.1.block _ hl (fun e => by cases e; have := h.2.2.2.2.2; omega)
theorem phaseP_of {w W : World} {b : Nat} {c : NC} {r : Ev × N} {e : Ending} {w' : World} (hb : b < w.heap.size) (h : PhasePost b c r W e w') : ∃ ev D c', e = .returned (evV ev D c') ∧ PhaseP w b c r ev D c' W w' :=
  ⟨r.1, none, 0, h.1, rfl, rfl, rfl, h.2.1, h.2.2, hb⟩
/-- What Sample leaves behind such a phase. -/
def QuietPost (S Sm : Nat → Prop) (b : Nat) (c : NC) (r : Ev × N) (w : World) (e : Ending) (w' : World) : Prop :=
  e = .returned (.tuple #[evV r.1 none 0, .int .i64 0]) ∧ NodeIn w' S b r.2 c Sm ∧ w.grownBy w' (some b)
theorem quietPost_of {S Sm : Nat → Prop} {b : Nat} {n : N} {c : NC} {r : Ev × N} {w : World} {e : Ending} {w' : World} (h : NodeIn w S b n c Sm) (hf : r.2.f = n.f) (hw : r.2.w = n.w) (hr : r.2.row = n.row) (hs : SampleOf w (PhaseP w b c r) e w') : QuietPost S Sm b c r w e w' := by
  obtain ⟨ev, D, c', W, W1, rfl, hB, hl, ⟨rfl, rfl, rfl, hk, hg, hb⟩, hg2⟩ := hs
  have hg1 : w.grownBy W1 (some b) := ⟨hg.os.trans hB.os, hg.tape.trans hB.tape, hg.output.trans hB.output, Nat.le_trans hB.size hg.size, fun k hk1 hn => (hg.block k (Nat.lt_of_lt_of_le hk1 hB.size) hn).trans (hB.block k hk1)⟩
  have hg3 := grown_new hg1 hg2 (Nat.le_refl _)
  refine ⟨rfl, h.upd ?_ hg3 hf hw hr, hg3⟩
  exact (hg2.block b (lt_of_block hk) (fun e => by cases e; omega)).trans hk
theorem counted_same (n : N) (x : Bool) (m k : Nat) : (n.counted x m k).2.f = n.f ∧ (n.counted x m k).2.w = n.w ∧ (n.counted x m k).2.row = n.row := by
  simp only [N.counted]
  generalize (if x = true then n.count + 1 else 0) = c
  split <;> exact ⟨rfl, rfl, rfl⟩
theorem sampleJoin_any (S Sm : Nat → Prop) (b : Nat) (x : Bool) (n : N) (c : NC) (w : World) (h : NodeIn w S b n c Sm) (hp : n.phase = 0) (hc : n.count < 11) :
    Calls Tryz.prog 21 #[.pointer (some ⟨b, 0, none⟩), .int .u8 (bi x)] w (QuietPost S Sm b c (n.take x) w) := by
  rw [take_0 hp]
  have hlt := lt_of_block h.blk
  refine (sample_0 b x w _ h.blk (by simp [nCells, hp]) (PhaseP w b c (n.counted x 11 1)) (fun W hW => (join_any b x n c W ((hW.block b hlt).trans h.blk) hc).mono fun e W' hh => phaseP_of hlt hh) phaseP_keep).mono fun e w' hh => ?_
  obtain ⟨h1, h2, h3⟩ := counted_same n x 11 1
  exact quietPost_of h h1 h2 h3 hh
theorem sampleIdle_any (S Sm : Nat → Prop) (b : Nat) (n : N) (c : NC) (w : World) (h : NodeIn w S b n c Sm) (hp : n.phase = 1) (hh : n.has = false) :
    Calls Tryz.prog 21 #[.pointer (some ⟨b, 0, none⟩), .int .u8 (bi true)] w (QuietPost S Sm b c (n.take true) w) := by
  rw [take_1 hp]
  have hlt := lt_of_block h.blk
  have hi : n.idle true = (Ev.none, { n with sender := n.has }) := by unfold N.idle; rw [if_neg (by rw [hh]; decide)]; rfl
  refine (sample_1 b true w _ h.blk (by simp [nCells, hp]) (PhaseP w b c (n.idle true)) (fun W hW => (idle1_any b n c W ((hW.block b hlt).trans h.blk) hh).mono fun e W' hh => phaseP_of hlt hh) phaseP_keep).mono fun e w' hh => ?_
  refine quietPost_of h ?_ ?_ ?_ hh <;> rw [hi]
/-- A node that has seen nothing but ones. -/
def onesN (k : Bool) : Nat → N
  | 0 => N.new k
  | i + 1 => ((onesN k i).take true).2
theorem onesN_quiet (k : Bool) : ∀ i, Quiet (onesN k i) i
  | 0 => quiet_new k
  | i + 1 => (quiet_step (onesN_quiet k i)).1
theorem sampleOnes_any (S Sm : Nat → Prop) (b : Nat) (k : Bool) (i : Nat) (c : NC) (w : World) (h : NodeIn w S b (onesN k i) c Sm) :
    Calls Tryz.prog 21 #[.pointer (some ⟨b, 0, none⟩), .int .u8 1] w (QuietPost S Sm b c (Ev.none, onesN k (i + 1)) w) := by
  have hq := onesN_quiet k i
  have hs := quiet_step hq
  have hr : (onesN k i).take true = (Ev.none, onesN k (i + 1)) := by rw [← hs.2.1]; rfl
  rw [← hr]
  rcases hq.phase with ⟨e, hc, hi⟩ | ⟨e, hc, hi⟩
  · exact sampleJoin_any S Sm b true _ c w h e (by omega)
  · exact sampleIdle_any S Sm b _ c w h e hq.has
set_option maxRecDepth 100000 in
set_option maxHeartbeats 2000000 in
theorem joined_any (k : Bool) (w : World) :
    Calls Tryz.prog 17 #[.bool k] w fun e w' => ∃ b S, e = .returned (pt b) ∧ w.heap.size ≤ b ∧ NodeAt w' S b (onesN k 11) ∧ (∀ j, S j → w.heap.size ≤ j) ∧ Below w.heap.size w w' := by
  have hnew := nodeNew_any k w
  have HNEW := Lib.hid hnew
  clear hnew
  go_enter Tryz.func17, Tryz.ntmps17
  go_wp2_with fail
  refine HNEW.out.mono ?_
  rintro e w1 ⟨b, rfl, hb, ⟨c, Sm, hN⟩, hB⟩
  have HN := Lib.hid hN
  have HB := Lib.hid hB
  have HLB := Lib.hid hb
  clear hN hB hb
  unfold pt
  go_wp2
  go_loopw [6] (fun i W => ∃ j : Nat, j ≤ 11 ∧ i = .int .i64 j ∧ NodeIn W (fun j => w.heap.size ≤ j ∧ j < w1.heap.size) b (onesN k j) c Sm ∧ Below w.heap.size w W) (fun i _ => 11 - (intOf i).toNat)
  case atStart => exact ⟨0, by omega, rfl, HN.out, HB.out⟩
  case round =>
    obtain ⟨j, hj, rfl, hn, hBr⟩ := hrel
    by_cases hlt : j < 11
    · have hs := sampleOnes_any _ _ b k j c wr hn
      have HS := Lib.hid hs
      have HBr := Lib.hid hBr
      clear hs hn hBr
      go_wp2_with fail
      refine HS.out.mono ?_
      rintro e w2 ⟨rfl, hn2, hg2⟩
      have HN2 := Lib.hid hn2
      have HG2 := Lib.hid (HBr.out.grown hg2 HBr.out.size (by intro k hk; cases hk; exact HLB.out))
      clear hn2 hg2
      go_wp2
      go_roundw
      case rel => exact ⟨j + 1, by omega, by go_num, HN2.out, HG2.out⟩
      case measure => simp [intOf]; omega
    · obtain rfl : j = 11 := by omega
      have HN2 := Lib.hid hn
      have HBr := Lib.hid hBr
      clear hn hBr hlt
      go_wp2
      go_ret
      exact ⟨b, _, rfl, HLB.out, ⟨c, Sm, HN2.out⟩, fun j hj => hj.1, HBr.out⟩
end Go.Proofs.YtnfnjmllgklaaaaGreat
