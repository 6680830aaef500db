/- Words for the walks: slices that are read, rows of the call's own, worlds that keep old blocks. No dump in it. -/
import Derived.WalkKit
import Derived.Deep.Draws
import Derived.Deep.AppendLies
import Derived.Deep.QuietTactic
import Derived.BigQuiet
import Derived.WalkSpells
import Derived.WalkLawsBesides
import Derived.Lib.Hide
import Derived.Maps.AppendAt
import Derived.Test.YtnfnjmllgklaaaaGreatKPure
set_option linter.unusedVariables false
set_option linter.unusedSimpArgs false
namespace Om
open Go Go.RowKit

/-! ### values -/
def bv (b : Bool) : Value := .int .u8 (bi b)
def bitsV (l : List Bool) : List Value := l.map bv
def byV (b : UInt8) : Value := .int .u8 (b.toNat : Int)
def bytesV (l : List UInt8) : List Value := l.map byV
theorem bitsV_length (l : List Bool) : (bitsV l).length = l.length := by simp [bitsV]
theorem bytesV_length (l : List UInt8) : (bytesV l).length = l.length := by simp [bytesV]
theorem bitsV_append (l r : List Bool) : bitsV (l ++ r) = bitsV l ++ bitsV r := by simp [bitsV]
theorem bytesV_append (l r : List UInt8) : bytesV (l ++ r) = bytesV l ++ bytesV r := by simp [bytesV]
theorem bv_false : bv false = .int .u8 0 := rfl
theorem bv_true : bv true = .int .u8 1 := rfl
theorem bitsV_at (l : List Bool) (k : Nat) (h : k < l.length) : (bitsV l)[k]? = some (bv (l.getD k false)) := by
  simp [bitsV, List.getD_eq_getElem?_getD, List.getElem?_eq_getElem h]
theorem bytesV_at (l : List UInt8) (k : Nat) (h : k < l.length) : (bytesV l)[k]? = some (byV (l.getD k 0)) := by
  simp [bytesV, List.getD_eq_getElem?_getD, List.getElem?_eq_getElem h]
theorem bitsV_one (l : List Bool) : ∀ u ∈ bitsV l, u.oneCell' = true := by
  intro u hu; simp only [bitsV, List.mem_map] at hu; obtain ⟨b, _, rfl⟩ := hu; rfl
theorem bytesV_one (l : List UInt8) : ∀ u ∈ bytesV l, u.oneCell' = true := by
  intro u hu; simp only [bytesV, List.mem_map] at hu; obtain ⟨b, _, rfl⟩ := hu; rfl

theorem bi_mod (b : Bool) : bi b % 256 = bi b := by cases b <;> rfl
theorem bi_emod (b : Bool) : (bi b).emod 256 = bi b := by cases b <;> rfl
theorem bi_lo (b : Bool) : 0 ≤ bi b := by cases b <;> decide
theorem bi_hi (b : Bool) : bi b ≤ 1 := by cases b <;> decide
theorem wrap_bi (k : IntKind) (b : Bool) : k.wrap (bi b) = bi b := by cases k <;> cases b <;> decide
attribute [go_sem] bi_mod bi_lo bi_hi wrap_bi

/-! ### a slice that is read -/
/-- The cells from an address on hold these values. -/
def Rd (w : World) (A : Option Addr) (xs : List Value) : Prop := ∀ j u, xs[j]? = some u → ∃ ad, A = some ad ∧ w.cell? (ad.add j) = some u
theorem Rd.nil (w : World) (A : Option Addr) : Rd w A [] := fun j u h => by simp at h
theorem add_plain (g o j : Nat) : (⟨g, o, none⟩ : Addr).add j = ⟨g, o + j, none⟩ := by unfold Addr.add; split <;> simp_all
theorem add_add (a : Addr) (i j : Nat) : (a.add i).add j = a.add (i + j) := by
  unfold Addr.add
  by_cases h1 : i = 0 <;> by_cases h2 : j = 0 <;> simp [h1, h2, Nat.add_assoc]
theorem add_block (a : Addr) (j : Nat) : (a.add j).block = a.block := by unfold Addr.add; split <;> rfl
theorem Rd.lt {w : World} {ad : Addr} {xs : List Value} (h : Rd w (some ad) xs) (h0 : xs ≠ []) : ad.block < w.heap.size := by
  obtain ⟨x, r, rfl⟩ := List.exists_cons_of_ne_nil h0
  obtain ⟨ad', e, hc⟩ := h 0 x rfl
  cases e
  have := World.block_lt_of_cell? w _ hc
  rwa [add_block] at this
theorem Rd.below {w w1 : World} {B : Nat} {A : Option Addr} {xs : List Value} (h : Rd w A xs) (hA : ∀ ad, A = some ad → xs ≠ [] → ad.block < B) (hb : Below B w w1) : Rd w1 A xs := by
  intro j u hu
  obtain ⟨ad, e, hc⟩ := h j u hu
  refine ⟨ad, e, ?_⟩
  have hne : xs ≠ [] := by intro e; simp [e] at hu
  rw [hb.cell (by rw [add_block]; exact hA ad e hne)]
  exact hc
/-- What lay before the call is read behind it. -/
theorem Rd.kept {w w1 : World} {A : Option Addr} {xs : List Value} (h : Rd w A xs) (hb : Below w.heap.size w w1) : Rd w1 A xs :=
  h.below (fun ad e hne => by subst e; exact h.lt hne) hb
theorem Rd.take {w : World} {A : Option Addr} {xs : List Value} (h : Rd w A xs) (k : Nat) : Rd w A (xs.take k) := by
  intro j u hu
  rw [List.getElem?_take] at hu
  split at hu
  · exact h j u hu
  · cases hu
theorem Rd.drop {w : World} {A : Option Addr} {xs : List Value} (h : Rd w A xs) (k : Nat) : Rd w (A.map (·.add k)) (xs.drop k) := by
  intro j u hu
  rw [List.getElem?_drop] at hu
  obtain ⟨ad, e, hc⟩ := h (k + j) u hu
  exact ⟨ad.add k, by rw [e]; rfl, by rw [add_add]; exact hc⟩
/-- One element of a row of bits. -/
theorem Rd.bit {w : World} {A : Option Addr} {l : List Bool} (h : Rd w A (bitsV l)) (k : Nat) (hk : k < l.length) : ∃ ad, A = some ad ∧ w.cell? (ad.add k) = some (bv (l.getD k false)) :=
  h k _ (bitsV_at l k hk)
theorem Rd.byte {w : World} {A : Option Addr} {l : List UInt8} (h : Rd w A (bytesV l)) (k : Nat) (hk : k < l.length) : ∃ ad, A = some ad ∧ w.cell? (ad.add k) = some (byV (l.getD k 0)) :=
  h k _ (bytesV_at l k hk)

/-! ### a row of the call's own: a row of one-cell values -/
theorem own_nil (w : World) (B : Nat) (e : TypeId) : w.ownsRow B e 1 (.slice none 0 0) 0 [] := World.ownsRow_nil w B e 1
theorem own_len {w : World} {B : Nat} {e : TypeId} {v : Value} {n : Nat} {xs : List Value} (h : w.ownsRow B e 1 v n xs) : xs.length = n := by have := h.1; omega
theorem own_form {w : World} {B : Nat} {e : TypeId} {v : Value} {n : Nat} {xs : List Value} (h : w.ownsRow B e 1 v n xs) : ∃ A c, v = .slice A n c ∧ n ≤ c ∧ n ≤ 9223372036854775807 ∧ Rd w A xs := by
  have hl := own_len h
  rcases h.2 with ⟨rfl, rfl⟩ | ⟨g, cap, cur, rfl, _, _, hnc, hcm, _⟩
  · exact ⟨none, 0, rfl, Nat.le_refl _, by omega, fun j u hu => by rw [List.eq_nil_of_length_eq_zero hl] at hu; simp at hu⟩
  · exact ⟨_, cap, rfl, hnc, by simp only [maxLen] at hcm; omega, fun j u hu => ⟨_, rfl, h.cells (g := g) rfl j u hu⟩⟩
theorem own_base {w : World} {B : Nat} {e : TypeId} {v : Value} {n size : Nat} {xs : List Value} (h : w.ownsRow B e size v n xs) (k : Nat) (hk : v.ownBlock = some k) : B ≤ k := (h.lt k hk).1
theorem own_mono {w : World} {B B' : Nat} {e : TypeId} {v : Value} {n size : Nat} {xs : List Value} (h : w.ownsRow B e size v n xs) (hB : B' ≤ B) : w.ownsRow B' e size v n xs := by
  refine ⟨h.1, ?_⟩
  rcases h.2 with h2 | ⟨g, cap, cur, hv, hb, r⟩
  · exact .inl h2
  · exact .inr ⟨g, cap, cur, hv, Nat.le_trans hB hb, r⟩
/-- A call that keeps all blocks keeps a row of one's own. -/
theorem own_kept {w w1 : World} {B : Nat} {e : TypeId} {v : Value} {n size : Nat} {xs : List Value} (h : w.ownsRow B e size v n xs) (hb : Below w.heap.size w w1) : w1.ownsRow B e size v n xs :=
  h.kept ⟨hb.os, hb.tape, hb.output, hb.size, fun i hi _ => hb.block i hi⟩ (row := none) (by cases v.ownBlock <;> simp)
theorem below_alloc {w W : World} (h : Below w.heap.size w W) (o : Obj) : Below w.heap.size w (W.alloc o) := h.alloc h.size o
theorem below_grown {w w1 w2 : World} {row : Option Nat} (h : Below w.heap.size w w1) (hg : w1.grownBy w2 row) (hr : ∀ k, row = some k → w.heap.size ≤ k) : Below w.heap.size w w2 := h.grown hg h.size hr
theorem below_then {w w1 w2 : World} (h : Below w.heap.size w w1) (k : Below w1.heap.size w1 w2) : Below w.heap.size w w2 := h.trans (k.mono h.size)
theorem below_of_grownBy {w w1 : World} (h : w.grownBy w1 none) : Below w.heap.size w w1 := ⟨h.os, h.tape, h.output, h.size, fun k hk => h.block k hk (by simp)⟩
theorem below_drewN {w W : World} {B : Nat} (h : Below B w W) (n : Nat) : Below B w (W.drewN n) := ⟨h.os, h.tape, h.output, h.size, h.block⟩
/-- Old cells and old marks read as before. -/
theorem bcell {W w1 : World} (hb : Below W.heap.size W w1) : (∀ b o, b < W.heap.size → w1.cell? ⟨b, o, none⟩ = W.cell? ⟨b, o, none⟩) ∧ (∀ b o, b < W.heap.size → w1.frozen? ⟨b, o, none⟩ = W.frozen? ⟨b, o, none⟩) :=
  ⟨fun b o h => hb.cell (p := ⟨b, o, none⟩) h, fun b o h => hb.frozen (p := ⟨b, o, none⟩) h⟩

/-! ### append -/
section
variable {P : Program} {ops : Array Oper} {rest : List Oper} {o : Oper} {a : Act} {Q : Exit → Act → World → Prop}
/-- 'append(v, y)': the goal's world is that of the new box of y. -/
theorem ap1 {w0 W : World} (B : Nat) (hgd : o.guard = none) (s x : Operand) (t e : TypeId) (z : Value) (bytes : Nat)
    (ho : o.op = .call { callee := .builtin .append, args := #[s, x], argTypes := #[t, t] })
    (ht : P.underlying t = some (.slice e)) (hinfo : (P.info? e).map (fun i => (i.zero, i.size, i.bytes)) = some (some z, 1, bytes)) (hz : z.cells.size = 1) (hb0 : 0 < bytes)
    (v : Value) (xs : List Value) (y : Value) (hs : a.eval s = v) (hx : a.eval x = .slice (some ⟨W.heap.size, 0, none⟩) 1 1) (h1 : y.oneCell' = true)
    (HO : W.ownsRow B e 1 v xs.length xs) (HB : Below B w0 W) (hbase : B ≤ W.heap.size) (hl : (xs.length + 1) * bytes ≤ 140737488355328)
    (h : ∀ A1 c1 w1, w1.ownsRow B e 1 (.slice A1 (xs.length + 1) c1) (xs.length + 1) (xs ++ [y]) → Below B w0 w1 → W.grownBy w1 v.ownBlock →
      ((Value.slice A1 (xs.length + 1) c1).ownBlock = v.ownBlock ∨ ∃ b, (Value.slice A1 (xs.length + 1) c1).ownBlock = some b ∧ W.heap.size ≤ b) → wpList P ops Q rest (a.put o.dst (.slice A1 (xs.length + 1) c1)) w1) :
    wpList P ops Q (o :: rest) a (W.alloc (.cells #[y] e)) := by
  obtain ⟨i0, hi, hzz⟩ := Option.map_eq_some_iff.1 hinfo
  simp only [Prod.mk.injEq] at hzz
  obtain ⟨hz0, hz1, hz2⟩ := hzz
  have hlen : xs.length + 1 ≤ 140737488355328 := Nat.le_trans (Nat.le_mul_of_pos_right _ hb0) hl
  refine wpList_append_own_at (W.alloc (.cells #[y] e)) hgd s x t ho B e i0 z 1 bytes ht hi hz0 hz1 hz2 hz (by omega) v xs.length xs hs (HO.alloc _) ⟨W.heap.size, 0, none⟩ 1 1 [y] hx rfl
    (World.news_of_block (cs := #[y]) (t := e) (fr := (0, 0)) (heap_alloc_new W _)) (by simpa using h1) (by simp only [maxLen]; omega) hl (by simp; omega) ?_
  intro v1 w1 hown hg _ hat
  obtain ⟨A1, c1, rfl, _⟩ := own_form hown
  refine h A1 c1 w1 hown ((HB.alloc hbase _).grown hg (by simp; omega) (own_base HO)) (World.grownBy.trans (World.grownBy_alloc W _ _) hg) ?_
  rcases hat with hat | hat
  · exact .inl hat
  · exact .inr ⟨_, hat, by simp⟩
/-- 'append(v, ys...)', ys a slice that is read, nil let in. -/
theorem apN {w0 W : World} (B : Nat) (hgd : o.guard = none) (s x : Operand) (t e : TypeId) (z : Value) (bytes : Nat)
    (ho : o.op = .call { callee := .builtin .append, args := #[s, x], argTypes := #[t, t] })
    (ht : P.underlying t = some (.slice e)) (hinfo : (P.info? e).map (fun i => (i.zero, i.size, i.bytes)) = some (some z, 1, bytes)) (hz : z.cells.size = 1) (hb0 : 0 < bytes)
    (v : Value) (xs ys : List Value) (A : Option Addr) (m c : Nat) (hs : a.eval s = v) (hx : a.eval x = .slice A m c) (hm : ys.length = m) (h1 : ∀ u ∈ ys, u.oneCell' = true)
    (HO : W.ownsRow B e 1 v xs.length xs) (HR : Rd W A ys) (HB : Below B w0 W) (hbase : B ≤ W.heap.size) (hl : (xs.length + m) * bytes ≤ 140737488355328)
    (h : ∀ A1 c1 w1, w1.ownsRow B e 1 (.slice A1 (xs.length + m) c1) (xs.length + m) (xs ++ ys) → Below B w0 w1 → W.grownBy w1 v.ownBlock →
      ((Value.slice A1 (xs.length + m) c1).ownBlock = v.ownBlock ∨ ∃ b, (Value.slice A1 (xs.length + m) c1).ownBlock = some b ∧ W.heap.size ≤ b) → wpList P ops Q rest (a.put o.dst (.slice A1 (xs.length + m) c1)) w1) :
    wpList P ops Q (o :: rest) a W := by
  obtain ⟨i0, hi, hzz⟩ := Option.map_eq_some_iff.1 hinfo
  simp only [Prod.mk.injEq] at hzz
  obtain ⟨hz0, hz1, hz2⟩ := hzz
  have hlen : xs.length + m ≤ 140737488355328 := Nat.le_trans (Nat.le_mul_of_pos_right _ hb0) hl
  have hrun : ∃ v1 w1, (Builtin.append_ #[t, t] o.type #[v, .slice A m c]).run P W = .ok v1 w1 ∧ w1.ownsRow B e 1 v1 (xs.length + m) (xs ++ ys) ∧ W.grownBy w1 v.ownBlock ∧ (v1.ownBlock = v.ownBlock ∨ v1.ownBlock = some W.heap.size) := by
    by_cases h0 : m = 0
    · subst h0
      obtain rfl : ys = [] := List.eq_nil_of_length_eq_zero hm
      refine ⟨v, W, ?_, by simpa using HO, World.grownBy.refl W _, .inl rfl⟩
      rcases HO.2 with ⟨rfl, hn⟩ | ⟨g, cap, cur, rfl, _, _, hnc, _⟩
      · cases A <;> simp [Builtin.append_, run_underlying ht, Go.sizeOf, typeInfo, hi, Builtin.lenOf, Builtin.firstCells, loadCells, loadCellsFrom]
      · cases A <;> simp [Builtin.append_, run_underlying ht, Go.sizeOf, typeInfo, hi, Builtin.lenOf, Builtin.firstCells, hnc, storeCells, loadCells, loadCellsFrom]
    · obtain ⟨y, ys', rfl⟩ : ∃ y ys', ys = y :: ys' := List.exists_cons_of_ne_nil (by intro e; simp [e] at hm; omega)
      obtain ⟨ad, rfl, _⟩ := HR 0 y rfl
      have hcells : ∀ j u, (y :: ys')[j]? = some u → W.cell? (ad.add j) = some u := by
        intro j u hu
        obtain ⟨ad', e, hc⟩ := HR j u hu
        cases e
        exact hc
      obtain ⟨v1, w1, hr, h2, h3, _, h5⟩ := run_append_own_at (P := P) W B t o.type e i0 z 1 bytes ht hi hz0 hz1 hz2 hz (by omega) v xs.length xs HO ad m c (y :: ys') (by omega) hcells
        h1 (by simp only [maxLen]; omega) hl hbase
      exact ⟨v1, w1, hr, h2, h3, h5⟩
  obtain ⟨v1, w1, hr, hown, hg, hat⟩ := hrun
  obtain ⟨A1, c1, rfl, _⟩ := own_form hown
  refine wpList_plain hgd fun K hK => ?_
  unfold Oper.wp execOp
  simp only [ho, resolve, invoke, builtin, Sem.run_bind, Sem.run_pure, Result.andThen_ok, List.map_toArray, List.map_cons, List.map_nil, hs, hx, hr]
  refine hK _ _ (h A1 c1 w1 hown (HB.grown hg hbase (own_base HO)) hg ?_)
  rcases hat with hat | hat
  · exact .inl hat
  · exact .inr ⟨_, hat, Nat.le_refl _⟩
end

theorem rd_new (W : World) (y : Value) (e : TypeId) : Rd (W.alloc (.cells #[y] e)) (some ⟨W.heap.size, 0, none⟩) [y] := by
  intro j u hu
  match j, hu with
  | 0, hu =>
    simp only [List.getElem?_cons_zero, Option.some.injEq] at hu
    subst hu
    refine ⟨_, rfl, ?_⟩
    rw [add_plain, cell_of_row _ _ _ #[y] e (0, 0) (heap_alloc_new W _)]
    rfl
/-! ### blocks -/
theorem blk_grown {W w1 : World} {b : Nat} {o : Obj} {row : Option Nat} (h : W.heap[b]? = some o) (hg : W.grownBy w1 row) (hne : row ≠ some b) : w1.heap[b]? = some o :=
  (hg.block b (lt_of_block h) (fun e => hne e.symm)).trans h
theorem blk_below {W w1 : World} {b B : Nat} {o : Obj} (h : W.heap[b]? = some o) (hb : Below B W w1) (hlt : b < B) : w1.heap[b]? = some o := (hb.block b hlt).trans h
theorem blk_kept {W w1 : World} {b : Nat} {o : Obj} (h : W.heap[b]? = some o) (hb : Below W.heap.size W w1) : w1.heap[b]? = some o := (hb.block b (lt_of_block h)).trans h
theorem blk_alloc {W : World} {b : Nat} {o : Obj} (h : W.heap[b]? = some o) (o' : Obj) : (W.alloc o').heap[b]? = some o := by
  rw [Below.heap_alloc W o' b (lt_of_block h)]; exact h
theorem blk_other {W : World} {b : Nat} {o : Obj} (h : W.heap[b]? = some o) (a : Addr) (v : Value) (hne : b ≠ a.block) : (W.setCell a v).heap[b]? = some o := by
  rw [Below.heap_setCell W a v b hne]; exact h
/-- A store into a block of cells. -/
theorem blk_set {W : World} {b : Nat} {cs : Array Value} {t : TypeId} (h : W.heap[b]? = some (.cells cs t (0, 0))) (i : Nat) (v : Value) : (W.setCell ⟨b, i, none⟩ v).heap[b]? = some (.cells (cs.setIfInBounds i v) t (0, 0)) := by
  have hlt := lt_of_block h
  have h' : W.heap[b] = .cells cs t (0, 0) := by simpa [Array.getElem?_eq_getElem hlt] using h
  show (W.heap.modify b _)[b]? = _
  rw [Array.getElem?_eq_getElem (by simpa using hlt), Array.getElem_modify_self, h']
  rfl
theorem blk_cell {W : World} {b : Nat} {cs : Array Value} {t : TypeId} {f : Nat × Nat} (h : W.heap[b]? = some (.cells cs t f)) (i : Nat) : W.cell? ⟨b, i, none⟩ = cs[i]? := by simp [World.cell?, h]
theorem blk_free {W : World} {b : Nat} {cs : Array Value} {t : TypeId} (h : W.heap[b]? = some (.cells cs t (0, 0))) (i : Nat) : W.frozen? ⟨b, i, none⟩ = false := by simp [World.frozen?, h]
/-- A row of one's own lies in no other block. -/
theorem own_ne {W : World} {B b n : Nat} {e t : TypeId} {v : Value} {xs : List Value} {cs : Array Value} {f : Nat × Nat} (hO : W.ownsRow B e 1 v n xs) (hb : W.heap[b]? = some (.cells cs t f)) (hne : t ≠ e) : v.ownBlock ≠ some b := by
  intro e'
  rcases hO.2 with ⟨rfl, _⟩ | ⟨g, cap, cur, rfl, _, hg, _⟩
  · simp [Value.ownBlock] at e'
  · simp only [Value.ownBlock, Option.some.injEq] at e'
    subst e'
    rw [hg] at hb
    injection hb with hb
    injection hb with _ h2
    exact hne h2.symm
end Om
