/- A node in memory; node.New, to. -/
import Derived.Test.YtnfnjmllgklaaaaGreatKScanN
set_option linter.unusedVariables false
set_option linter.unusedSimpArgs false
namespace Go.Proofs.YtnfnjmllgklaaaaGreat
open Go Go.RowKit Go.Shelf Om

/-- Blocks outside a set are as they were. -/
structure Moved (S : Nat → Prop) (w w' : World) : Prop where
  os : w'.os = w.os
  tape : w'.tape = w.tape
  output : w'.output = w.output
  size : w.heap.size ≤ w'.heap.size
  block : ∀ k, k < w.heap.size → ¬ S k → w'.heap[k]? = w.heap[k]?
theorem Moved.of_below {S : Nat → Prop} {w w' : World} (h : Below w.heap.size w w') : Moved S w w' := ⟨h.os, h.tape, h.output, h.size, fun k hk _ => h.block k hk⟩
theorem Moved.of_grown {S : Nat → Prop} {w w' : World} {b : Nat} (h : w.grownBy w' (some b)) (hb : S b) : Moved S w w' := ⟨h.os, h.tape, h.output, h.size, fun k hk hn => h.block k hk (fun e => by cases e; exact hn hb)⟩
theorem Moved.trans {S S' : Nat → Prop} {w w1 w2 : World} (h : Moved S w w1) (k : Moved S' w1 w2) (hS : ∀ j, S' j → S j ∨ w.heap.size ≤ j) : Moved S w w2 :=
  ⟨k.os.trans h.os, k.tape.trans h.tape, k.output.trans h.output, Nat.le_trans h.size k.size, fun j hj hn => (k.block j (Nat.lt_of_lt_of_le hj h.size) (fun hs => by rcases hS j hs with h1 | h1; exact hn h1; omega)).trans (h.block j hj hn)⟩
theorem Moved.mono {S S' : Nat → Prop} {w w' : World} (h : Moved S w w') (hS : ∀ k, S k → S' k) : Moved S' w w' := ⟨h.os, h.tape, h.output, h.size, fun k hk hn => h.block k hk (fun hs => hn (hS k hs))⟩
theorem Moved.refl (S : Nat → Prop) (w : World) : Moved S w w := ⟨rfl, rfl, rfl, Nat.le_refl _, fun _ _ _ => rfl⟩
theorem Moved.below {S : Nat → Prop} {w w' : World} {B : Nat} (h : Moved S w w') (hB : B ≤ w.heap.size) (hS : ∀ k, S k → B ≤ k) : Below B w w' := ⟨h.os, h.tape, h.output, h.size, fun k hk => h.block k (by omega) (fun hs => by have := hS k hs; omega)⟩

structure NC where
  fD : Option Addr
  fc : Nat
  wA : Option Addr
  wc : Nat
  row : Nat
def nCells (n : N) (c : NC) : Array Value :=
  #[.bool n.knows, .bool n.has, .int .i64 n.f.kind, .int .u32 (n.f.id : Nat), .bool n.f.ext, .bool n.f.rtr, .bool n.f.brs, .bool n.f.esi, .bool n.f.sec, .int .u8 (n.f.sdt : Nat), .int .u8 (n.f.vcid : Nat), .int .u32 (n.f.af : Nat), .slice c.fD n.f.data.length c.fc,
    .slice c.wA n.w.bits.length c.wc, .int .i64 (n.w.arb : Nat), .int .i64 (n.w.ack : Nat), .int .i64 (n.phase : Nat), .int .i64 (n.count : Nat), .int .i64 (n.fault.tec : Nat), .int .i64 (n.fault.rec_ : Nat), .bool n.fault.off, .pointer (some ⟨c.row, 0, none⟩), .bool n.quiet, .bool n.sender]
structure NodeIn (W : World) (S : Nat → Prop) (b : Nat) (n : N) (c : NC) (Sm : Nat → Prop) : Prop where
  blk : W.heap[b]? = some (.cells (nCells n c) 120 (0, 0))
  own : S b
  lt : ∀ k, S k → k < W.heap.size
  sub : ∀ k, Sm k → S k
  nb : ¬ Sm b
  f : DataIn W (fun k => S k ∧ k ≠ b ∧ ¬ Sm k) c.fD (bytesV n.f.data)
  w : DataIn W (fun k => S k ∧ k ≠ b ∧ ¬ Sm k) c.wA (bitsV n.w.bits)
  row : MachineAt W Sm c.row n.row
def NodeAt (W : World) (S : Nat → Prop) (b : Nat) (n : N) : Prop := ∃ c Sm, NodeIn W S b n c Sm
theorem NodeAt.agree {W W' : World} {S : Nat → Prop} {b : Nat} {n : N} (h : NodeAt W S b n) (hz : W.heap.size ≤ W'.heap.size) (ha : ∀ k, S k → W'.heap[k]? = W.heap[k]?) : NodeAt W' S b n := by
  obtain ⟨c, Sm, h⟩ := h
  exact ⟨c, Sm, (ha b h.own).trans h.blk, h.own, fun k hk => Nat.lt_of_lt_of_le (h.lt k hk) hz, h.sub, h.nb, h.f.agree (fun _ h => h) (fun k hk => ha k hk.1), h.w.agree (fun _ h => h) (fun k hk => ha k hk.1), h.row.agree hz (fun k hk => ha k (h.sub k hk))⟩
theorem NodeAt.kept {W W' : World} {S : Nat → Prop} {b : Nat} {n : N} (h : NodeAt W S b n) (hB : Below W.heap.size W W') : NodeAt W' S b n := by
  obtain ⟨c, Sm, h1⟩ := h
  exact NodeAt.agree ⟨c, Sm, h1⟩ hB.size (fun k hk => hB.block k (h1.lt k hk))
/-- A change of the node's own cells. -/
theorem NodeIn.upd {W W' : World} {S : Nat → Prop} {b : Nat} {n n' : N} {c : NC} {Sm : Nat → Prop} (h : NodeIn W S b n c Sm) (hk : W'.heap[b]? = some (.cells (nCells n' c) 120 (0, 0))) (hg : W.grownBy W' (some b)) (hf : n'.f = n.f) (hw : n'.w = n.w) (hr : n'.row = n.row) : NodeIn W' S b n' c Sm := by
  have ha : ∀ k, S k → k ≠ b → W'.heap[k]? = W.heap[k]? := fun k hk hn => hg.block k (h.lt k hk) (fun e => hn (by cases e; rfl))
  exact ⟨hk, h.own, fun k hk => Nat.lt_of_lt_of_le (h.lt k hk) hg.size, h.sub, h.nb, by rw [hf]; exact h.f.agree (fun _ h => h) (fun k hk => ha k hk.1 hk.2.1), by rw [hw]; exact h.w.agree (fun _ h => h) (fun k hk => ha k hk.1 hk.2.1),
    by rw [hr]; exact h.row.agree hg.size (fun k hk => ha k (h.sub k hk) (fun e => h.nb (e ▸ hk)))⟩

set_option maxRecDepth 100000 in
set_option maxHeartbeats 1000000 in
theorem nodeNew_any (k : Bool) (w : World) :
    Calls Tryz.prog 27 #[.bool k] w fun e w' => ∃ b, e = .returned (pt b) ∧ w.heap.size ≤ b ∧ NodeAt w' (fun j => w.heap.size ≤ j ∧ j < w'.heap.size) b (N.new k) ∧ Below w.heap.size w w' := by
  have hs := scanNew_any k w
  have HS := Lib.hid hs
  clear hs
  go_enter Tryz.func27, Tryz.ntmps27
  go_wp2_with fail
  refine HS.out.mono ?_
  rintro e w1 ⟨rfl, hM, hB, hz⟩
  have HM := Lib.hid hM
  have HB := Lib.hid hB
  have HZ := Lib.hid hz
  clear hM hB hz
  unfold pt
  go_wp2
  go_ret
  refine ⟨w1.heap.size, rfl, by rw [HZ.out]; omega, ⟨⟨none, 0, none, 0, w.heap.size⟩, fun j => j = w.heap.size, heap_alloc_new w1 _, ⟨by rw [HZ.out]; omega, by simp⟩, fun j hj => hj.2, fun j hj => ?_, fun e => ?_, DataIn.nil _ _ _, DataIn.nil _ _ _, ?_⟩, HB.out.alloc HB.out.size _⟩
  · have hj' : j = w.heap.size := hj
    subst hj'
    exact ⟨Nat.le_refl _, by rw [World.size_alloc, HZ.out]; omega⟩
  · have e' : w1.heap.size = w.heap.size := e
    rw [HZ.out] at e'; omega
  · exact HM.out.agree (by simp) (fun j hj => Below.heap_alloc w1 _ j (by have hj' : j = w.heap.size := hj; rw [HZ.out]; omega))

set_option maxRecDepth 100000 in
set_option maxHeartbeats 1000000 in
theorem to_any (b p : Nat) (n : N) (c : NC) (w : World) (h : w.heap[b]? = some (.cells (nCells n c) 120 (0, 0))) :
    Calls Tryz.prog 83 #[.pointer (some ⟨b, 0, none⟩), .int .i64 p] w fun e w' => e = .returned (.tuple #[]) ∧ w'.heap[b]? = some (.cells (nCells (n.to p) c) 120 (0, 0)) ∧ w.grownBy w' (some b) ∧ w'.heap.size = w.heap.size := by
  have c16 := blk_cell h 16
  have c17 := blk_cell h 17
  have f16 := blk_free h 16
  have f17 := blk_free h 17
  have H := Lib.hid h
  clear h
  simp only [nCells] at c16 c17
  go_enter Tryz.func83, Tryz.ntmps83
  go_wp2
  go_end0
  exact ⟨rfl, blk_set (blk_set H.out 16 (.int .i64 p)) 17 (.int .i64 0), World.grownBy.trans (grown_set w ⟨b, 16, none⟩ _) (grown_set _ ⟨b, 17, none⟩ _), by simp⟩
end Go.Proofs.YtnfnjmllgklaaaaGreat
