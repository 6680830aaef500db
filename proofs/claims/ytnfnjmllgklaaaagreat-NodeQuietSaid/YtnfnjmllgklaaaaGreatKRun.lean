/- Walk of bits.Run: a range over slices.Backward. -/
import Derived.RangeFuncBox
import Derived.RangeFuncLeaves
import Derived.Shelf.Abstract
import Derived.WalkKit
import Derived.OwnWalkIn
import Derived.TacticsInMore
import Derived.LoopNIn
import Derived.LoopIn
import Derived.Test.YtnfnjmllgklaaaaGreatKBits
set_option linter.unusedVariables false
set_option linter.unusedSimpArgs false
namespace Go.Proofs.YtnfnjmllgklaaaaGreat
open Go Go.RowKit Go.Shelf Om
attribute [local go_sem] Oper.semAt_some

def upto {α : Type} (f : Nat → α) (k : Nat) : List α := (List.range k).map f
theorem upto_succ {α : Type} (f : Nat → α) (k : Nat) : upto f (k + 1) = upto f k ++ [f k] := by simp [upto, List.range_succ]
theorem upto_length {α : Type} (f : Nat → α) (k : Nat) : (upto f k).length = k := by simp [upto]
/-- These blocks are as they were. -/
def KeepS (S : Nat → Prop) (A B : World) : Prop := ∀ k, S k → B.heap[k]? = A.heap[k]?
theorem keepS_refl (S : Nat → Prop) (A : World) : KeepS S A A := fun _ _ => rfl
theorem keepS_t {S : Nat → Prop} {A B C : World} (h : KeepS S A B) (k : KeepS S B C) : KeepS S A C := fun i hi => (k i hi).trans (h i hi)
theorem keepS_b {S : Nat → Prop} {w : World} (hS : ∀ k, S k → k < w.heap.size) (W : World) (l : Nat) (o o' : Obj) (hl : w.heap.size ≤ l) (_ : W.heap[l]? = some o) (_ : o.isCells = false) (_ : o.isWalk = false) : KeepS S W (W.putObj l o') :=
  fun k hk => (grownBy_putObj' W l o').block k (by have := (Array.getElem?_eq_some_iff.1 ‹W.heap[l]? = some o›).1; have := hS k hk; omega) (by intro e; cases e; have := hS _ hk; omega)
theorem keepS_of_below {S : Nat → Prop} {B : Nat} {W W' : World} (h : Below B W W') (hS : ∀ k, S k → k < B) : KeepS S W W' := fun k hk => h.block k (hS k hk)
theorem keepS_cell {S : Nat → Prop} {W W' : World} (h : KeepS S W W') (a : Addr) (ha : S a.block) : W'.cell? a = W.cell? a := World.cell?_of_block (w := W) (h a.block ha)
theorem keepS_set {S : Nat → Prop} (W : World) (a : Addr) (v : Value) (ha : ¬ S a.block) : KeepS S W (W.setCell a v) := fun k hk => Below.heap_setCell W a v k (fun e => ha (e ▸ hk))
theorem Rd.keepS {S : Nat → Prop} {W W' : World} {A : Option Addr} {xs : List Value} (h : Rd W A xs) (hk : KeepS S W W') (hA : ∀ ad, A = some ad → xs ≠ [] → S ad.block) : Rd W' A xs := by
  intro j u hu
  obtain ⟨ad, e, hc⟩ := h j u hu
  refine ⟨ad, e, ?_⟩
  rw [keepS_cell hk _ (by rw [add_block]; exact hA ad e (by intro e'; simp [e'] at hu))]
  exact hc
/-- What slices.Backward hands out, one after the other. -/
def back (l : List Bool) (j : Nat) : Int × Bool := ((l.length : Int) - 1 - j, l.getD (l.length - 1 - j) false)
def encB (x : Int × Bool) : Array Value := #[.int .i64 x.1, .int .u8 (bi x.2)]

set_option maxRecDepth 100000 in
set_option maxHeartbeats 2000000 in
theorem back1_in (F : Fence) (n : Nat) (hf : F.fn 241) (hro : F.round = none) (hn : 1 ≤ n) (lp Bs : Nat) (S : Nat → Prop) (D : Option Addr) (cap : Nat) (l : List Bool) (hreach : l.length ≤ 100000000) (hb : ∀ ad, D = some ad → l ≠ [] → S ad.block) (J Jx : List (Int × Bool) → World → Prop)
    (hY : ∀ pre x W, J pre W → pre.length < l.length → YieldAt F (n - 1) Tryz.prog lp (encB x) W fun e W' =>
      (e = .returned (.bool true) ∧ J (pre ++ [x]) W' ∧ KeepS S W W') ∨ (e = .returned (.bool false) ∧ Jx (pre ++ [x]) W'))
    (W : World) (hBs : W.cell? ⟨Bs, 0, none⟩ = some (.slice D l.length cap)) (hBn : S Bs) (hr : Rd W D (bitsV l)) (h0 : J [] W) :
    CallsIn F n Tryz.prog 241 #[.func (.yield lp) #[] #[], .pointer (some ⟨Bs, 0, none⟩)] W fun e W' => (∃ v, e = .returned v) ∧
      ((∃ ys, ys = upto (back l) l.length ∧ J ys W') ∨ (∃ pre, (∃ k, k ≤ l.length ∧ pre = upto (back l) k) ∧ Jx pre W')) := by
  have hnx0 := keepS_refl S W
  refine callsIn_of_wp Tryz.func241 rfl hf ?_ hro
  simp only [Tryz.ntmps241, List.size_toArray, List.length_cons, List.length_nil, Nat.reduceAdd, Nat.reduceSub, Array.replicate_succ, Array.replicate_zero, List.push_toArray, List.append_toArray, List.nil_append, List.cons_append]
  gi_wp2
  gi_loopw [3] (fun i wr => ∃ m : Nat, m ≤ l.length ∧ i = .int .i64 ((m : Int) - 1) ∧ J (upto (back l) (l.length - m)) wr ∧ KeepS S W wr)
    (fun i _ => (intOf i + 1).toNat)
  case atStart => exact ⟨l.length, Nat.le_refl _, by simp, by simpa [upto] using h0, hnx0⟩
  case round =>
    obtain ⟨m, hm, rfl, hJs, hnx⟩ := hrel
    rcases Nat.eq_zero_or_pos m with h0 | h0
    · subst h0
      gi_wp2
      go_end0
      exact ⟨⟨_, rfl⟩, .inl ⟨_, rfl, by simpa using hJs⟩⟩
    · have hrr := Rd.keepS hr hnx (fun ad e hne => hb ad e (by intro h; simp [h, bitsV] at hne))
      have hBs' := (keepS_cell hnx ⟨Bs, 0, none⟩ hBn).trans hBs
      obtain ⟨ad, rfl, hcx⟩ := hrr.bit (m - 1) (by omega)
      clear hr hrr hBs
      have hbk : back l (l.length - m) = ((m : Int) - 1, l.getD (m - 1) false) := by
        unfold back
        rw [show l.length - 1 - (l.length - m) = m - 1 by omega, show ((l.length : Int) - 1 - ((l.length - m : Nat) : Int)) = (m : Int) - 1 by omega]
      have hsn : upto (back l) (l.length - (m - 1)) = upto (back l) (l.length - m) ++ [((m : Int) - 1, l.getD (m - 1) false)] := by
        rw [show l.length - (m - 1) = l.length - m + 1 by omega, upto_succ, hbk]
      obtain ⟨fn, tmps, assign, body, hy, hR⟩ := hY _ ((m : Int) - 1, l.getD (m - 1) false) wr hJs (by rw [upto_length]; omega)
      clear hbk hY
      have HSN := Lib.hid hsn
      clear hsn
      simp only [encB] at hR hy
      simp only [bv] at hcx
      generalize l.getD (m - 1) false = y at hcx hR hy HSN
      have hm1 : (0 : Int) ≤ (m : Int) - 1 := by omega
      have hm2 : (m : Int) - 1 < (l.length : Int) := by omega
      gi_wp2
      refine hR.mono ?_
      rintro e W3 (⟨rfl, hJ3, hk3⟩ | ⟨rfl, hJx3⟩)
      · gi_wp2
        go_roundw
        case rel => exact ⟨m - 1, by omega, by go_num, by rw [HSN.out]; exact hJ3, keepS_t hnx hk3⟩
        case measure => simp [intOf]; omega
      · gi_wp2
        refine bodyPost_ret (results_none rfl _ _ _) rfl ?_
        exact ⟨⟨_, rfl⟩, .inr ⟨_, ⟨l.length - (m - 1), by omega, HSN.out.symm⟩, hJx3⟩⟩

set_option maxHeartbeats 1000000 in
theorem back_in (F : Fence) (n : Nat) (hf : F.fn 223) (hro : F.round = none) (a : Option Addr) (len cap : Nat) (w : World) :
    CallsIn F n Tryz.prog 223 #[.slice a len cap] w fun e w' => e = .returned (.func (.func 241) #[] #[.pointer (some ⟨w.heap.size, 0, none⟩)]) ∧ w' = w.alloc (.cells #[.slice a len cap] 23) := by
  refine callsIn_of_wp Tryz.func223 rfl hf ?_ hro
  simp only [Tryz.ntmps223, List.size_toArray, List.length_cons, List.length_nil, Nat.reduceAdd, Nat.reduceSub, Array.replicate_succ, Array.replicate_zero, List.push_toArray, List.append_toArray, List.nil_append, List.cons_append]
  gi_wp2
  go_ret
  exact ⟨rfl, rfl⟩
theorem back_stops (F : Fence) (n : Nat) (hf : F.fn 241) (hro : F.round = none) (hn : 1 ≤ n) (Bs : Nat) (S : Nat → Prop) (D : Option Addr) (cap : Nat) (l : List Bool) (hreach : l.length ≤ 100000000) (w : World) (hBs : S Bs) (hS : ∀ k, S k → k < w.heap.size)
    (hc : w.cell? ⟨Bs, 0, none⟩ = some (.slice D l.length cap)) (hr : Rd w D (bitsV l)) (hb : ∀ ad, D = some ad → l ≠ [] → S ad.block) :
    SeqStopsK F n Tryz.prog 241 #[.pointer (some ⟨Bs, 0, none⟩)] encB (KeepS S) (fun ys => ys = upto (back l) l.length)
      (fun pre => ∃ k, k ≤ l.length ∧ pre = upto (back l) k) l.length w := fun lp J Jx W hW _ _ hY h0 => by
  have hc' := (hW.cell (p := ⟨Bs, 0, none⟩) (hS Bs hBs)).trans hc
  exact back1_in F n hf hro hn lp Bs S D cap l hreach hb J Jx hY W hc' hBs (hr.kept hW) h0

/-- How many bits alike a row ends with. -/
def runLen (l : List Bool) : Nat := (l.reverse.takeWhile (· == l.getLastD false)).length
theorem back_snd (l : List Bool) (k : Nat) (hk : k ≤ l.length) : (upto (back l) k).map (·.2) = l.reverse.take k := by
  apply List.ext_getElem
  · simp [upto, hk]
  · intro i h1 h2
    have hi : i < k := by simpa [upto] using h1
    simp [upto, back, List.getD_eq_getElem?_getD, List.getElem?_eq_getElem (show l.length - 1 - i < l.length by omega)]
theorem run_all (l : List Bool) (h : ∀ p ∈ upto (back l) l.length, p.2 = l.getLastD false) : runLen l = l.length := by
  unfold runLen
  have : l.reverse.takeWhile (· == l.getLastD false) = l.reverse := by
    have := List.takeWhile_append_of_pos (p := (· == l.getLastD false)) (l₁ := l.reverse) (l₂ := []) (fun x hx => by
      have hx' : x ∈ (upto (back l) l.length).map (·.2) := by rw [back_snd l _ (Nat.le_refl _), List.take_of_length_le (by simp)]; exact hx
      obtain ⟨p, hp, rfl⟩ := List.mem_map.1 hx'
      simpa using h p hp)
    simpa using this
  rw [this]
  simp
theorem run_stop (l : List Bool) (k : Nat) (hk : k ≤ l.length) (ini : List (Int × Bool)) (last : Int × Bool) (he : upto (back l) k = ini ++ [last]) (hi : ∀ p ∈ ini, p.2 = l.getLastD false) (hl : last.2 ≠ l.getLastD false) : runLen l = ini.length := by
  unfold runLen
  have hs := back_snd l k hk
  rw [he, List.map_append] at hs
  have h2 : l.reverse = ini.map (·.2) ++ (last.2 :: l.reverse.drop k) := by
    conv => lhs; rw [← List.take_append_drop k l.reverse, ← hs]
    simp
  rw [h2, List.takeWhile_append_of_pos, List.takeWhile_cons_of_neg]
  · simp
  · simpa using hl
  · intro x hx
    obtain ⟨p, hp, rfl⟩ := List.mem_map.1 hx
    simpa using hi p hp
theorem getLastD_eq (l : List Bool) (h0 : 0 < l.length) : l.getD (l.length - 1) false = l.getLastD false := by
  rw [List.getD_eq_getElem?_getD, List.getLastD_eq_getLast?, List.getLast?_eq_getElem?]

set_option maxRecDepth 100000 in
set_option maxHeartbeats 2000000 in
theorem run_in (F : Fence) (n : Nat) (h3 : F.fn 171) (h5 : F.fn 223) (h7 : F.fn 241) (hro : F.round = none) (hn : 3 ≤ n) (D : Option Addr) (cap : Nat) (l : List Bool) (hl : l.length ≤ 100000000) (h0 : 0 < l.length) (w : World) (hr : Rd w D (bitsV l)) :
    CallsIn F n Tryz.prog 171 #[.slice D l.length cap] w fun e W' => e = .returned (.int .i64 (runLen l : Nat)) ∧ Below w.heap.size w W' := by
  have h1 : 1 ≤ n := by omega
  obtain ⟨ad, rfl, hcl⟩ := hr.bit (l.length - 1) (by omega)
  have hHR := Lib.hid hr
  clear hr
  generalize hyl : l.getD (l.length - 1) false = yl at hcl
  simp only [bv] at hcl
  have hz : (((l.length : Nat) : Int) == 0) = false := beq_eq_false_iff_ne.2 (by omega)
  have hz2 : (0 : Int) ≤ (l.length : Int) - 1 := by omega
  have had : ad.block < w.heap.size := Rd.lt hHR.out (by intro h; simp [bitsV] at h; simp [h] at h0)
  refine callsIn_of_wp_marks Tryz.func171 rfl h3 ?_ hro
  simp only [Tryz.ntmps171, List.size_toArray, List.length_cons, List.length_nil, Nat.reduceAdd, Nat.reduceSub, Array.replicate_succ, Array.replicate_zero, List.push_toArray, List.append_toArray, List.nil_append, List.cons_append]
  gi_wp2_with (gi_at_call 223; refine (back_in F (n - 1) h5 hro _ _ _ _).mono ?_; rintro e w' ⟨rfl, rfl⟩)
  have bL := Boxed.new w 5 (.int .u8 (bi yl))
  have bC := Boxed.new (w.alloc (.cells #[.int .u8 (bi yl)] 5)) 3 (.int .i64 0)
  have bN := Boxed.new ((w.alloc (.cells #[.int .u8 (bi yl)] 5)).alloc (.cells #[.int .i64 0] 3)) 23 (.slice (some ad) l.length cap)
  rw [World.size_alloc] at bC
  rw [World.size_alloc, World.size_alloc] at bN
  have hB0 : Below w.heap.size w (((w.alloc (.cells #[.int .u8 (bi yl)] 5)).alloc (.cells #[.int .i64 0] 3)).alloc (.cells #[.slice (some ad) l.length cap] 23)) := (((Below.refl _ w).alloc (Nat.le_refl _) _).alloc (by simp) _).alloc (by simp; omega) _
  refine wpIn_rangeFunc_ownG hro h1 (gf := 241) (lb := #[.pointer (some ⟨w.heap.size + 1 + 1, 0, none⟩)]) rfl h7 (enters_of Tryz.func241 (by kernel_rfl) rfl)
    (back_stops F (n - 1) h7 hro (by omega) (w.heap.size + 1 + 1) (fun k => k < w.heap.size ∨ k = w.heap.size + 1 + 1) (some ad) cap l hl _ (.inr rfl) (by intro k hk; have hk' : k < w.heap.size ∨ k = w.heap.size + 1 + 1 := hk; simp; omega) bN.cell (hHR.out.kept hB0) (fun ad' e _ => by cases e; exact .inl had))
    keepS_t (keepS_b (by intro k hk; have hk' : k < w.heap.size ∨ k = w.heap.size + 1 + 1 := hk; simp; omega)) (Below.refl _ _) (fun _ => rfl)
    (fun pre W => ((∀ p ∈ pre, p.2 = yl) ∧ (W.cell? ⟨w.heap.size, 0, none⟩ = some (.int .u8 (bi yl)) ∧ W.cell? ⟨w.heap.size + 1, 0, none⟩ = some (.int .i64 (pre.length : Int)) ∧ W.frozen? ⟨w.heap.size + 1, 0, none⟩ = false)) ∧ Below w.heap.size w W)
    (fun c pre W => (c = .exit 0 ∧ ∃ ini last, pre = ini ++ [last] ∧ (∀ p ∈ ini, p.2 = yl) ∧ last.2 ≠ yl ∧ W.cell? ⟨w.heap.size + 1, 0, none⟩ = some (.int .i64 (ini.length : Int))) ∧ Below w.heap.size w W)
    (OwnFrom.and (Own.from (fun s A B row hs hg hr => ⟨hs.1, cell_kept hs.2.1 hg hr, cell_kept hs.2.2.1 hg hr, (frozen_kept hs.2.2.1 hg hr).trans hs.2.2.2⟩) _) (ownFrom_below (Nat.le_refl _) (by simp; omega)))
    (fun c => OwnFrom.and (Own.from (fun s A B row hs hg hr => by obtain ⟨hc, ini, last, e1, e2, e3, e4⟩ := hs; exact ⟨hc, ini, last, e1, e2, e3, cell_kept e4 hg hr⟩) _) (ownFrom_below (Nat.le_refl _) (by simp; omega)))
    ⟨⟨by simp, ((bL.alloc _).alloc _).cell, (bC.alloc _).cell, (bC.alloc _).frozen⟩, hB0⟩
    (fun x => { tmps := #[.slice (some ad) l.length cap, undef, .int .i64 0, .pointer (some ⟨w.heap.size, 0, none⟩), .pointer (some ⟨w.heap.size + 1, 0, none⟩), undef, .int .u8 (bi x.2), .slice (some ad) l.length cap, .int .i64 l.length, .bool false, .slice (some ad) l.length cap, .slice (some ad) l.length cap, .int .i64 l.length, .int .i64 ((l.length : Int) - 1), .pointer (some (ad.add (l.length - 1))), .int .u8 (bi yl), .slice (some ad) l.length cap, .func (.func 241) #[] #[.pointer (some ⟨w.heap.size + 1 + 1, 0, none⟩)], .int .i64 x.1, .int .u8 (bi x.2), undef, undef, undef, undef, undef, undef], defers := [] }) ?assign ?body ?done ?stop
  case assign =>
    intro lp x W K hK
    simp only [encB]
    gi_wp2
    exact hK
  case body =>
    rintro lp pre x W ⟨⟨hp, hc1, hc2, hf2⟩, hB⟩ hlen
    obtain ⟨x1, x2⟩ := x
    by_cases hx : x2 = yl
    · subst hx
      have HP := Lib.hid hp
      clear hp hyl hcl
      gi_wp2
      refine ⟨(KeepsOthers.setCell _ _ _).from _, keepS_set _ _ _ (by simp), ⟨fun p hp' => (List.mem_append.1 hp').elim (HP.out p) (fun e => by simp at e; subst e; rfl), ?_, ?_, ?_⟩, hB.setCell (p := ⟨w.heap.size + 1, 0, none⟩) (by simp) _⟩
      · rw [World.cell?_setCell_other _ _ _ _ (by simp)]; exact hc1
      · rw [List.length_append]; exact World.cell?_setCell_same' _ _ _ (by rw [hc2]; rfl)
      · rw [World.frozen?_setCell]; exact hf2
    · have hxb : (bi x2 != bi yl) = true := by cases x2 <;> cases yl <;> simp_all [bi]
      have HX := Lib.hid hx
      have HP := Lib.hid hp
      clear hp hyl hcl hx
      gi_wp2
      exact ⟨KeepsFrom.refl _ _, ⟨rfl, pre, (x1, x2), rfl, HP.out, HX.out, hc2⟩, hB⟩
  case done =>
    rintro Dd ys W hD rfl ⟨⟨hne, hc1, hc2, hf2⟩, hB⟩ hK
    have hrl : runLen l = l.length := run_all l (fun p hp => by rw [← getLastD_eq l h0, hyl]; exact hne p hp)
    rw [upto_length] at hc2
    have HN := Lib.hid hne
    clear hne hyl hcl
    gi_wp2
    refine ⟨by simp, .inl ⟨_, _, rfl, run_takeDeferred hK, ?_⟩⟩
    exact ⟨_, results_tmp rfl _ _ _, by rw [hrl]; rfl, hB.trans (belowK_b (w := w) (Nat.le_refl _) W Dd _ _ (by simp at hD; omega) hK rfl rfl)⟩
  case stop =>
    rintro Dd c pre W hD ⟨k, hk, rfl⟩ ⟨⟨rfl, ini, last, e1, e2, e3, hcr⟩, hB⟩ hK
    have hrl : runLen l = ini.length := run_stop l k hk ini last e1 (fun p hp => by rw [← getLastD_eq l h0, hyl]; exact e2 p hp) (by rw [← getLastD_eq l h0, hyl]; exact e3)
    have HRL := Lib.hid hrl
    clear e1 e2 e3 hyl hcl hrl
    gi_wp2
    refine ⟨by simp, .inl ⟨_, _, rfl, run_takeDeferred hK, ?_⟩⟩
    exact ⟨_, results_tmp rfl _ _ _, by rw [HRL.out]; rfl, hB.trans (belowK_b (w := w) (Nat.le_refl _) W Dd _ _ (by simp at hD; omega) hK rfl rfl)⟩
/-- bits.Run as any call. -/
theorem run_any (D : Option Addr) (cap : Nat) (l : List Bool) (hl : l.length ≤ 100000000) (h0 : 0 < l.length) (w : World) (hr : Rd w D (bitsV l)) :
    Calls Tryz.prog 171 #[.slice D l.length cap] w fun e W' => e = .returned (.int .i64 (runLen l : Nat)) ∧ Below w.heap.size w W' :=
  (callsIn_wide (n := 3)).1 (run_in Fence.wide 3 trivial trivial trivial rfl (Nat.le_refl _) D cap l hl h0 w hr)
end Go.Proofs.YtnfnjmllgklaaaaGreat
