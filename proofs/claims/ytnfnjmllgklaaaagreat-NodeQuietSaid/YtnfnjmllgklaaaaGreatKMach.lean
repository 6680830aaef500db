/- The scanning machine in memory. -/
import Derived.Test.YtnfnjmllgklaaaaGreatKClassicW
set_option linter.unusedVariables false
set_option linter.unusedSimpArgs false
namespace Go.Proofs.YtnfnjmllgklaaaaGreat
open Go Go.RowKit Go.Shelf Om

/-! ### blocks that agree -/
theorem own_agree {W W' : World} {B : Nat} {e : TypeId} {v : Value} {n size : Nat} {xs : List Value} (h : W.ownsRow B e size v n xs) (ha : ∀ k, v.ownBlock = some k → W'.heap[k]? = W.heap[k]?) : W'.ownsRow B e size v n xs := by
  refine ⟨h.1, ?_⟩
  rcases h.2 with h2 | ⟨g, cap, cur, rfl, hb, hg, r⟩
  · exact .inl h2
  · exact .inr ⟨g, cap, cur, rfl, hb, (ha g rfl).trans hg, r⟩
theorem rd_agree {W W' : World} {A : Option Addr} {xs : List Value} (h : Rd W A xs) (ha : ∀ ad, A = some ad → xs ≠ [] → W'.heap[ad.block]? = W.heap[ad.block]?) : Rd W' A xs := by
  intro j u hu
  obtain ⟨ad, e, hc⟩ := h j u hu
  refine ⟨ad, e, ?_⟩
  rw [World.cell?_of_block (w := W) (by rw [add_block]; exact ha ad e (by intro e'; simp [e'] at hu))]
  exact hc
/-- Read, from a block that is in a set. -/
def DataIn (W : World) (I : Nat → Prop) (A : Option Addr) (xs : List Value) : Prop := Rd W A xs ∧ ∀ ad, A = some ad → xs ≠ [] → I ad.block
theorem DataIn.agree {W W' : World} {I I' : Nat → Prop} {A : Option Addr} {xs : List Value} (h : DataIn W I A xs) (hI : ∀ k, I k → I' k) (ha : ∀ k, I k → W'.heap[k]? = W.heap[k]?) : DataIn W' I' A xs :=
  ⟨rd_agree h.1 (fun ad e hn => ha _ (h.2 ad e hn)), fun ad e hn => hI _ (h.2 ad e hn)⟩
theorem DataIn.nil (W : World) (I : Nat → Prop) (A : Option Addr) : DataIn W I A [] := ⟨Rd.nil _ _, fun _ _ h => absurd rfl h⟩
def pt (k : Nat) : Value := .pointer (some ⟨k, 0, none⟩)
/-- A box of one value, in a set. -/
def Bx (W : World) (I : Nat → Prop) (k : Nat) (cs : Array Value) (T : TypeId) : Prop := I k ∧ W.heap[k]? = some (.cells cs T (0, 0))
theorem Bx.agree {W W' : World} {I I' : Nat → Prop} {k : Nat} {cs : Array Value} {T : TypeId} (h : Bx W I k cs T) (hI : ∀ k, I k → I' k) (ha : ∀ k, I k → W'.heap[k]? = W.heap[k]?) : Bx W' I' k cs T := ⟨hI _ h.1, (ha _ h.1).trans h.2⟩

/-! ### function values -/
def DoV (W : World) (I : Nat → Prop) (b : Nat) : PK → Value → Prop
  | .fdSum kind, v => ∃ bm bk, v = .func (.func 263) #[] #[pt bm, pt bk] ∧ Bx W I bm #[pt b] 118 ∧ Bx W I bk #[.int .i64 (kind : Nat)] 3
  | .xlCode, v => ∃ bm bw, v = .func (.func 277) #[] #[pt bm, pt bw] ∧ Bx W I bm #[pt b] 118 ∧ Bx W I bw #[.int .i64 8, .bool false] 210
  | .xlData n, v => ∃ bm bs, v = .func (.func 278) #[] #[pt bm, pt bs] ∧ Bx W I bm #[pt b] 118 ∧ Bx W I bs #[.int .i64 (n : Nat)] 3
def MkV (b : Nat) : MK → Value
  | .xlCode => .func (.func 266) #[pt b] #[]
  | .fin => .func (.func 254) #[pt b] #[]
def StepV (W : World) (I : Nat → Prop) (b : Nat) : Stp → Value → Prop
  | .dyn, v => v = .func (.func 124) #[pt b] #[]
  | .last, v => v = .func (.func 259) #[pt b] #[]
  | .part w size prev k, v => ∃ bm bp bw bs bd dv, v = .func (.func 272) #[] #[pt bm, pt bp, pt bw, pt bs, pt bd] ∧ Bx W I bm #[pt b] 118 ∧
      Bx W I bp #[.int .u8 (bi prev)] 5 ∧ Bx W I bw #[.int .i64 (w.every : Nat), .bool w.ahead] 210 ∧ Bx W I bs #[.int .i64 (size : Nat)] 3 ∧ Bx W I bd #[dv] 300 ∧ DoV W I b k dv
  | .mark row k, v => ∃ bm bl bn A c, v = .func (.func 276) #[] #[pt bm, pt bl, pt bn] ∧ Bx W I bm #[pt b] 118 ∧
      Bx W I bl #[.slice A row.length c] 23 ∧ Bx W I bn #[MkV b k] 1 ∧ DataIn W I A (bitsV row)
def NextV (W : World) (I : Nat → Prop) (b : Nat) : Nx → Value → Prop
  | .start, v => v = .func (.func 126) #[pt b] #[]
  | .ident, v => v = .func (.func 175) #[pt b] #[]
  | .extended, v => v = .func (.func 226) #[pt b] #[]
  | .reserved, v => v = .func (.func 245) #[pt b] #[]
  | .format, v => v = .func (.func 225) #[pt b] #[]
  | .newer, v => v = .func (.func 244) #[pt b] #[]
  | .code, v => v = .func (.func 243) #[pt b] #[]
  | .fdCode, v => v = .func (.func 255) #[pt b] #[]
  | .xlHead, v => v = .func (.func 256) #[pt b] #[]
  | .codeEnd a n, v => ∃ bm ba bn, v = .func (.func 251) #[] #[pt bm, pt ba, pt bn] ∧ Bx W I bm #[pt b] 118 ∧ Bx W I ba #[.int .i64 (a : Nat)] 3 ∧ Bx W I bn #[.int .i64 (n : Nat)] 3
  | .fdData s, v => ∃ bm bs, v = .func (.func 261) #[] #[pt bm, pt bs] ∧ Bx W I bm #[pt b] 118 ∧ Bx W I bs #[.int .i64 (s : Nat)] 3
theorem DoV.agree {W W' : World} {I I' : Nat → Prop} {b : Nat} {k : PK} {v : Value} (h : DoV W I b k v) (hI : ∀ k, I k → I' k) (ha : ∀ k, I k → W'.heap[k]? = W.heap[k]?) : DoV W' I' b k v := by
  cases k <;> (obtain ⟨bm, bk, rfl, h1, h2⟩ := h; exact ⟨bm, bk, rfl, h1.agree hI ha, h2.agree hI ha⟩)
theorem StepV.agree {W W' : World} {I I' : Nat → Prop} {b : Nat} {s : Stp} {v : Value} (h : StepV W I b s v) (hI : ∀ k, I k → I' k) (ha : ∀ k, I k → W'.heap[k]? = W.heap[k]?) : StepV W' I' b s v := by
  cases s with
  | dyn => exact h
  | last => exact h
  | part w size prev k =>
    obtain ⟨bm, bp, bw, bs, bd, dv, rfl, h1, h2, h3, h4, h5, h6⟩ := h
    exact ⟨bm, bp, bw, bs, bd, dv, rfl, h1.agree hI ha, h2.agree hI ha, h3.agree hI ha, h4.agree hI ha, h5.agree hI ha, h6.agree hI ha⟩
  | mark row k =>
    obtain ⟨bm, bl, bn, A, c, rfl, h1, h2, h3, h4⟩ := h
    exact ⟨bm, bl, bn, A, c, rfl, h1.agree hI ha, h2.agree hI ha, h3.agree hI ha, h4.agree hI ha⟩
theorem NextV.agree {W W' : World} {I I' : Nat → Prop} {b : Nat} {s : Nx} {v : Value} (h : NextV W I b s v) (hI : ∀ k, I k → I' k) (ha : ∀ k, I k → W'.heap[k]? = W.heap[k]?) : NextV W' I' b s v := by
  cases s with
  | codeEnd a n =>
    obtain ⟨bm, ba, bn, rfl, h1, h2, h3⟩ := h
    exact ⟨bm, ba, bn, rfl, h1.agree hI ha, h2.agree hI ha, h3.agree hI ha⟩
  | fdData s =>
    obtain ⟨bm, bs, rfl, h1, h2⟩ := h
    exact ⟨bm, bs, rfl, h1.agree hI ha, h2.agree hI ha⟩
  | _ => exact h

/-! ### the machine's block -/
/-- What its cells hold besides numbers. -/
structure MC where
  stD : Option Addr
  stc : Nat
  step : Value
  next : Value
  rawA : Option Addr
  rawc : Nat
  lA : Option Addr
  lc : Nat
  ownA : Option Addr
  ownc : Nat
  fD : Option Addr
  fc : Nat
def mCells (m : M) (c : MC) : Array Value :=
  #[.bool m.xl, .int .i64 (m.st.kind : Nat), .int .i64 (m.st.err : Nat), .int .i64 m.st.f.kind, .int .u32 (m.st.f.id : Nat), .bool m.st.f.ext, .bool m.st.f.rtr, .bool m.st.f.brs, .bool m.st.f.esi, .bool m.st.f.sec, .int .u8 (m.st.f.sdt : Nat), .int .u8 (m.st.f.vcid : Nat), .int .u32 (m.st.f.af : Nat), .slice c.stD m.st.f.data.length c.stc,
    .int .i64 (m.seen : Nat), c.step, c.next, .slice c.rawA m.raw.length c.rawc, .slice c.lA m.l.length c.lc, .int .i64 (m.need : Nat), .slice c.ownA m.own.length c.ownc,
    .int .i64 m.f.kind, .int .u32 (m.f.id : Nat), .bool m.f.ext, .bool m.f.rtr, .bool m.f.brs, .bool m.f.esi, .bool m.f.sec, .int .u8 (m.f.sdt : Nat), .int .u8 (m.f.vcid : Nat), .int .u32 (m.f.af : Nat), .slice c.fD m.f.data.length c.fc, .bool m.fits, .int .i64 (m.at_ : Nat)]
def blkA (A : Option Addr) : Option Nat := A.map (·.block)
/-- Blocks of the machine's that nobody writes. -/
def Imm (S : Nat → Prop) (b : Nat) (c : MC) (k : Nat) : Prop := S k ∧ k ≠ b ∧ blkA c.rawA ≠ some k ∧ blkA c.lA ≠ some k ∧ blkA c.ownA ≠ some k
structure MachineIn (W : World) (S : Nat → Prop) (b : Nat) (m : M) (c : MC) : Prop where
  blk : W.heap[b]? = some (.cells (mCells m c) 169 (0, 0))
  own : S b
  lt : ∀ k, S k → k < W.heap.size
  raw : W.ownsRow 0 5 1 (.slice c.rawA m.raw.length c.rawc) m.raw.length (bitsV m.raw)
  l : W.ownsRow 0 5 1 (.slice c.lA m.l.length c.lc) m.l.length (bitsV m.l)
  ow : W.ownsRow 0 5 1 (.slice c.ownA m.own.length c.ownc) m.own.length (bitsV m.own)
  rawS : ∀ k, blkA c.rawA = some k → S k
  lS : ∀ k, blkA c.lA = some k → S k
  ownS : ∀ k, blkA c.ownA = some k → S k
  rawl : ∀ k, blkA c.rawA = some k → blkA c.lA ≠ some k
  rawo : ∀ k, blkA c.rawA = some k → blkA c.ownA ≠ some k
  lo : ∀ k, blkA c.lA = some k → blkA c.ownA ≠ some k
  st : DataIn W (Imm S b c) c.stD (bytesV m.st.f.data)
  f : DataIn W (Imm S b c) c.fD (bytesV m.f.data)
  step : StepV W (Imm S b c) b m.step c.step
  next : NextV W (Imm S b c) b m.next c.next
def MachineAt (W : World) (S : Nat → Prop) (b : Nat) (m : M) : Prop := ∃ c, MachineIn W S b m c
theorem ownBlock_slice (A : Option Addr) (n c : Nat) : (Value.slice A n c).ownBlock = blkA A := by cases A <;> rfl
/-- What stands outside may change, and the machine's own set may grow. -/
theorem MachineIn.agree {W W' : World} {S S' : Nat → Prop} {b : Nat} {m : M} {c : MC} (h : MachineIn W S b m c) (hS : ∀ k, S k → S' k) (hl : ∀ k, S' k → k < W'.heap.size) (ha : ∀ k, S k → W'.heap[k]? = W.heap[k]?) : MachineIn W' S' b m c := by
  have hI : ∀ k, Imm S b c k → Imm S' b c k := fun k hk => ⟨hS k hk.1, hk.2⟩
  have haI : ∀ k, Imm S b c k → W'.heap[k]? = W.heap[k]? := fun k hk => ha k hk.1
  exact ⟨(ha b h.own).trans h.blk, hS b h.own, hl, own_agree h.raw (fun k hk => ha k (h.rawS k (by rw [← ownBlock_slice]; exact hk))), own_agree h.l (fun k hk => ha k (h.lS k (by rw [← ownBlock_slice]; exact hk))),
    own_agree h.ow (fun k hk => ha k (h.ownS k (by rw [← ownBlock_slice]; exact hk))), fun k hk => hS k (h.rawS k hk), fun k hk => hS k (h.lS k hk), fun k hk => hS k (h.ownS k hk), h.rawl, h.rawo, h.lo,
    h.st.agree hI haI, h.f.agree hI haI, h.step.agree hI haI, h.next.agree hI haI⟩
theorem MachineAt.agree {W W' : World} {S : Nat → Prop} {b : Nat} {m : M} (h : MachineAt W S b m) (hz : W.heap.size ≤ W'.heap.size) (ha : ∀ k, S k → W'.heap[k]? = W.heap[k]?) : MachineAt W' S b m := by
  obtain ⟨c, h⟩ := h
  exact ⟨c, h.agree (fun _ h => h) (fun k hk => Nat.lt_of_lt_of_le (h.lt k hk) hz) ha⟩
end Go.Proofs.YtnfnjmllgklaaaaGreat
