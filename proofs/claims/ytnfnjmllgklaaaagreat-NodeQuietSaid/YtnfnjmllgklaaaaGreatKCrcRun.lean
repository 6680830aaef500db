/- crc.run: by a table. -/
import Derived.Test.YtnfnjmllgklaaaaGreatKTable
import Derived.Deep.WholeRow
import Derived.Test.YtnfnjmllgklaaaaGreatKMixIn
set_option linter.unusedVariables false
set_option linter.unusedSimpArgs false
namespace Om
/-! ### a table's law -/
def tOne (sz poly s : Nat) : Nat := crcOne sz poly s false
theorem xor_eq {a b : Nat} (h : ∀ i, a.testBit i = b.testBit i) : a = b := Nat.eq_of_testBit_eq h
theorem mod_two_xor (sz a b : Nat) : (a ^^^ b) * 2 % 2 ^ sz = (a * 2 % 2 ^ sz) ^^^ (b * 2 % 2 ^ sz) := by
  rw [show ∀ x, x * 2 = x <<< 1 from fun x => by rw [Nat.shiftLeft_eq], Nat.shiftLeft_xor_distrib, Nat.xor_mod_two_pow]
  simp [Nat.shiftLeft_eq]
theorem tOne_xor (sz poly a b : Nat) : tOne sz poly (a ^^^ b) = tOne sz poly a ^^^ tOne sz poly b := by
  unfold tOne crcOne
  rw [mod_two_xor, Nat.testBit_xor]
  generalize a * 2 % 2 ^ sz = x
  generalize b * 2 % 2 ^ sz = y
  cases a.testBit (sz - 1) <;> cases b.testBit (sz - 1) <;> (refine xor_eq fun i => ?_) <;> simp [Nat.testBit_xor] <;> cases x.testBit i <;> cases y.testBit i <;> cases poly.testBit i <;> rfl
theorem tOne_lt {sz poly s : Nat} (h1 : 1 ≤ sz) (h : s < 2 ^ (sz - 1)) : tOne sz poly s = s * 2 := by
  have hb : s.testBit (sz - 1) = false := Nat.testBit_lt_two_pow h
  have hp : 2 ^ sz = 2 ^ (sz - 1) * 2 := by rw [← Nat.pow_succ, show (sz - 1).succ = sz by omega]
  unfold tOne crcOne
  rw [hb]
  simp only [bne_self_eq_false, Bool.false_eq_true, if_false]
  exact Nat.mod_eq_of_lt (by omega)
theorem crcOne_top (sz poly s : Nat) (b : Bool) (h1 : 1 ≤ sz) : crcOne sz poly s b = tOne sz poly (s ^^^ b.toNat * 2 ^ (sz - 1)) := by
  cases b
  · simp [tOne]
  · have hp : 2 ^ sz = 2 ^ (sz - 1) * 2 := by rw [← Nat.pow_succ, show (sz - 1).succ = sz by omega]
    have hm : (s ^^^ 2 ^ (sz - 1)) * 2 % 2 ^ sz = s * 2 % 2 ^ sz := by
      rw [mod_two_xor, ← hp, Nat.mod_self, Nat.xor_zero]
    simp only [Bool.toNat_true, Nat.one_mul]
    unfold tOne crcOne
    rw [hm, Nat.testBit_xor, Nat.testBit_two_pow_self]
    cases s.testBit (sz - 1) <;> rfl
/-- Four bits at once. -/
def t4 (sz poly s : Nat) : Nat := tOne sz poly (tOne sz poly (tOne sz poly (tOne sz poly s)))
theorem t4_xor (sz poly a b : Nat) : t4 sz poly (a ^^^ b) = t4 sz poly a ^^^ t4 sz poly b := by simp only [t4, tOne_xor]
theorem t4_lt {sz poly s : Nat} (h4 : 4 ≤ sz) (h : s < 2 ^ (sz - 4)) : t4 sz poly s = s * 16 := by
  have h1 : 2 ^ (sz - 3) = 2 ^ (sz - 4) * 2 := by rw [← Nat.pow_succ, show (sz - 4).succ = sz - 3 by omega]
  have h2 : 2 ^ (sz - 2) = 2 ^ (sz - 3) * 2 := by rw [← Nat.pow_succ, show (sz - 3).succ = sz - 2 by omega]
  have h3 : 2 ^ (sz - 1) = 2 ^ (sz - 2) * 2 := by rw [← Nat.pow_succ, show (sz - 2).succ = sz - 1 by omega]
  unfold t4
  have hT : ∀ x, x < 2 ^ (sz - 1) → tOne sz poly x = x * 2 := fun x => tOne_lt (by omega)
  rw [hT s (by omega), hT (s * 2) (by omega), hT (s * 2 * 2) (by omega), hT (s * 2 * 2 * 2) (by omega)]
  omega
theorem crcRun4 (sz poly s : Nat) (l : List Bool) (h4 : 4 ≤ sz) (hl : l.length = 4) : crcRun sz poly s l = t4 sz poly (s ^^^ num l * 2 ^ (sz - 4)) := by
  match l, hl with
  | [a, b, c, d], _ =>
  have h1 : 2 ^ (sz - 3) = 2 ^ (sz - 4) * 2 := by rw [← Nat.pow_succ, show (sz - 4).succ = sz - 3 by omega]
  have h2 : 2 ^ (sz - 2) = 2 ^ (sz - 3) * 2 := by rw [← Nat.pow_succ, show (sz - 3).succ = sz - 2 by omega]
  have h3 : 2 ^ (sz - 1) = 2 ^ (sz - 2) * 2 := by rw [← Nat.pow_succ, show (sz - 2).succ = sz - 1 by omega]
  have hpos := Nat.two_pow_pos (sz - 4)
  have hT : ∀ x, x < 2 ^ (sz - 1) → tOne sz poly x = x * 2 := fun x => tOne_lt (by omega)
  obtain ⟨q, hq⟩ : ∃ q, q = 2 ^ (sz - 4) := ⟨_, rfl⟩
  rw [← hq] at h1 hpos
  have e1 : 2 ^ (sz - 1) = 8 * q := by omega
  rw [e1] at hT
  have hT' : ∀ (b : Bool) (m : Nat), m ≤ 4 → m ≠ 3 → tOne sz poly (b.toNat * (m * q)) = b.toNat * (2 * m * q) := by
    intro b m hm _
    have hb : b.toNat ≤ 1 := by cases b <;> decide
    have hlt : b.toNat * (m * q) < 8 * q := by
      rcases (by omega : m = 0 ∨ m = 1 ∨ m = 2 ∨ m = 3 ∨ m = 4) with rfl | rfl | rfl | rfl | rfl <;> cases b <;> simp <;> omega
    rw [hT _ hlt, Nat.mul_assoc, Nat.mul_comm (m * q) 2, Nat.mul_assoc]
  have hx : num [a, b, c, d] * q = ((a.toNat * (8 * q) ^^^ b.toNat * (4 * q)) ^^^ c.toNat * (2 * q)) ^^^ d.toNat * (1 * q) := by
    have hs : ∀ x y, x * q ^^^ y * q = (x ^^^ y) * q := by intro x y; rw [hq, ← Nat.shiftLeft_eq, ← Nat.shiftLeft_eq, ← Nat.shiftLeft_eq, Nat.shiftLeft_xor_distrib]
    rw [← Nat.mul_assoc, ← Nat.mul_assoc, ← Nat.mul_assoc, ← Nat.mul_assoc, hs, hs, hs]
    congr 1
    cases a <;> cases b <;> cases c <;> cases d <;> decide
  show crcOne sz poly (crcOne sz poly (crcOne sz poly (crcOne sz poly s a) b) c) d = _
  rw [← hq, hx, crcOne_top _ _ _ d (by omega), crcOne_top _ _ _ c (by omega), crcOne_top _ _ _ b (by omega), crcOne_top _ _ _ a (by omega), e1]
  unfold t4
  simp only [tOne_xor]
  rw [hT' b 4 (by omega) (by omega), hT' c 2 (by omega) (by omega), hT' d 1 (by omega) (by omega), hT' c 4 (by omega) (by omega), hT' d 2 (by omega) (by omega), hT' d 4 (by omega) (by omega)]
  simp only [Nat.xor_assoc, Nat.reduceMul]
theorem lo_hi (s k : Nat) : s = (s >>> k) * 2 ^ k ^^^ s % 2 ^ k := by
  refine xor_eq fun i => ?_
  rw [Nat.testBit_xor, Nat.testBit_mod_two_pow, ← Nat.shiftLeft_eq, Nat.testBit_shiftLeft, Nat.testBit_shiftRight]
  by_cases h : i < k
  · simp [h, show ¬ i ≥ k by omega]
  · simp [h, show k ≤ i by omega]
/-- What a table is for. -/
theorem table_law (sz poly s : Nat) (l : List Bool) (h4 : 4 ≤ sz) (hl : l.length = 4) :
    crcRun sz poly s l = (s * 16 % 2 ^ sz) ^^^ crcRun sz poly (((s >>> (sz - 4)) ^^^ num l) * 2 ^ (sz - 4)) [false, false, false, false] := by
  have hz : num [false, false, false, false] = 0 := rfl
  have hs : ∀ x y k, x * 2 ^ k ^^^ y * 2 ^ k = (x ^^^ y) * 2 ^ k := by intro x y k; rw [← Nat.shiftLeft_eq, ← Nat.shiftLeft_eq, ← Nat.shiftLeft_eq, Nat.shiftLeft_xor_distrib]
  have hp : 2 ^ sz = 2 ^ (sz - 4) * 16 := by rw [show (16 : Nat) = 2 ^ 4 from rfl, ← Nat.pow_add, show sz - 4 + 4 = sz by omega]
  rw [crcRun4 sz poly s l h4 hl, crcRun4 sz poly _ [false, false, false, false] h4 rfl, hz, Nat.zero_mul, Nat.xor_zero]
  have e : s ^^^ num l * 2 ^ (sz - 4) = (s % 2 ^ (sz - 4)) ^^^ ((s >>> (sz - 4)) ^^^ num l) * 2 ^ (sz - 4) := by
    conv => lhs; rw [lo_hi s (sz - 4)]
    rw [← hs, Nat.xor_comm ((s >>> (sz - 4)) * 2 ^ (sz - 4)), Nat.xor_assoc]
  rw [e, t4_xor, t4_lt h4 (Nat.mod_lt _ (Nat.two_pow_pos _)), hp, ← Nat.mul_mod_mul_right]
theorem table_high (sz s : Nat) (l : List Bool) (h4 : 4 ≤ sz) (hs : s < 2 ^ sz) (hl : l.length = 4) : (s >>> (sz - 4)) ^^^ num l < 16 := by
  refine Nat.xor_lt_two_pow (n := 4) ?_ (by have := Go.Proofs.YtnfnjmllgklaaaaGreat.num_lt l; rw [hl] at this; exact this)
  rw [Nat.shiftRight_eq_div_pow, Nat.div_lt_iff_lt_mul (Nat.two_pow_pos _), ← Nat.pow_add, show 4 + (sz - 4) = sz by omega]
  exact hs
end Om
namespace Go.Proofs.YtnfnjmllgklaaaaGreat
open Go Go.RowKit Go.Shelf Om
attribute [local go_sem] Oper.semAt_some

/-- A whole row is stored, in a fence. -/
theorem wpListIn_store_row {F : Fence} {nF : Nat} {P : Program} {ops : Array Oper} {rest : List Oper} {o : Oper} {a : Act} {w : World} {Q : Exit → Act → World → Prop} (hgd : o.guard = none) (ty : TypeId) (p x : Operand) (ho : o.op = .store ty p x)
    (g : Nat) (hp : a.eval p = .pointer (some ⟨g, 0, none⟩)) (t : TypeId) (old cs : Array Value) (hg : w.heap[g]? = some (.cells old t (0, 0))) (hx : a.eval x = .agg cs) (hi : (P.info? ty).map (·.size) = some cs.size) (hs : old.size = cs.size) (h1 : cs.all (·.oneCell') = true)
    (h : wpListIn F nF P ops Q rest (a.put o.dst undef) (w.setRow g cs)) : wpListIn F nF P ops Q (o :: rest) a w := by
  refine wpListIn_plain hgd fun K hK => ?_
  unfold Oper.wpIn
  refine ⟨by simp [Oper.about, ho], ?_⟩
  rw [Oper.semAt_plain F _ _ (by rw [ho]; intro c hc'; cases hc')]
  unfold execOp
  simp only [ho, hp, hx, Instr.storeAt, Instr.sureAddr, Sem.run_bind, Sem.run_pure, Result.andThen_ok, run_storeVar_row w g t ty old cs hg hi hs h1]
  exact hK _ _ h

theorem own_blk {A B : World} {row : Option Nat} {b : Nat} {cs : Array Value} {t : TypeId} {f : Nat × Nat} (h : A.heap[b]? = some (.cells cs t f)) (hg : A.grownBy B row) (hr : ∀ r, row = some r → ∃ o : Obj, A.heap[r]? = some o ∧ o.isCells = false) : B.heap[b]? = some (.cells cs t f) :=
  blk_grown h hg (fun e' => by obtain ⟨o, ho', hc'⟩ := hr _ e'; rw [h] at ho'; cases ho'; cases hc')
/-- A part's bits. -/
def partBits (n : Nat) (l : List Bool) (x : Nat) : List Bool := (l.drop (n * clamp n l.length x)).take n

theorem flat_upto (n : Nat) (hn : 1 ≤ n) (l : List Bool) : ∀ k, k ≤ (l.length + n - 1) / n → (upto (fun k : Nat => k) k).flatMap (partBits n l) = l.take (n * k)
  | 0, _ => by simp [upto]
  | k + 1, h => by
    have hc : clamp n l.length k = k := by unfold clamp; omega
    rw [upto_succ, List.flatMap_append, flat_upto n hn l k (by omega), Nat.mul_add, Nat.mul_one, List.take_add]
    simp [partBits, hc]
set_option maxRecDepth 100000 in
set_option maxHeartbeats 2000000 in
theorem run_in4 (m : Nat) (hm : 3 ≤ m) (sz poly st sum : Nat) (D : Option Addr) (cap : Nat) (l : List Bool) (h4 : 4 ≤ sz) (h2 : sz ≤ 32) (hp : poly < 2 ^ sz) (hs : sum < 2 ^ sz) (hl : l.length ≤ 1000000) (hcap : l.length ≤ cap) (w : World) (hr : Rd w D (bitsV l)) :
    CallsIn Fence.wide m Tryz.prog 257 #[.agg #[.int .i64 sz, .int .u64 poly, .int .u64 st], .int .u64 sum, .slice D l.length cap] w fun e w' => e = .returned (.int .u64 (crcRun sz poly sum l : Nat)) ∧ Below w.heap.size w w' := by
  have h1 : 1 ≤ m := by omega
  have htab := fun W => table_any sz poly st W h4 h2 hp
  have hfn : ∀ f, Fence.wide.fn f := fun _ => trivial
  have HR := Lib.hid hr
  have HT := Lib.hid htab
  clear hr htab
  refine callsIn_of_wp_marks Tryz.func257 rfl trivial ?_ rfl
  simp only [Tryz.ntmps257, List.size_toArray, List.length_cons, List.length_nil, Nat.reduceAdd, Nat.reduceSub, Array.replicate_succ, Array.replicate_zero, List.push_toArray, List.append_toArray, List.nil_append, List.cons_append]
  gi_wp2_with (first | (gi_at_call 267; refine (callsIn_wide.2 (HT.out _)).mono ?_; rintro e w1 ⟨rfl, hB1⟩) | (gi_at_call 258; refine (chunk_in (m - 1) _ _ _ 4 (by decide) _).mono ?_; rintro e w2 ⟨rfl, rfl⟩) | (refine wpListIn_store_row rfl _ _ _ rfl _ rfl _ _ _ (heap_alloc_new w1 _) rfl rfl rfl tbl_one ?_))
  rw [World.setRow_alloc_new]
  have hsz1 : w.heap.size + 3 ≤ w1.heap.size := by have := hB1.size; simp at this; omega
  have hDs : 0 < l.length → ∃ ad, D = some ad := fun h => by obtain ⟨ad, e, _⟩ := HR.out.bit 0 h; exact ⟨ad, e⟩
  have hBw1 : Below w.heap.size w w1 := ((((Below.refl _ _).alloc (Nat.le_refl _) _).alloc (by simp) _).alloc (by simp; omega) _).trans (hB1.mono (by simp; omega))
  obtain ⟨w0, hw0⟩ : ∃ w0, w0 = ((w1.alloc (.cells (tblV sz poly 16).toArray 302)).alloc (.cells #[.slice D l.length cap] 23)).alloc (.cells #[.int .i64 4] 3) := ⟨_, rfl⟩
  have hb10 : Below w1.heap.size w1 w0 := by rw [hw0]; exact (((Below.refl _ _).alloc (Nat.le_refl _) _).alloc (by simp) _).alloc (by simp; omega) _
  have hBw0 : Below w.heap.size w w0 := hBw1.trans (hb10.mono hBw1.size)
  have hk0 : w0.heap[w.heap.size]? = some (.cells #[.int .i64 sz, .int .u64 poly, .int .u64 st] 288 (0, 0)) := blk_below (blk_below (blk_alloc (blk_alloc (heap_alloc_new w _) _) _) hB1 (by simp; omega)) hb10 (by omega)
  have hs0 : Boxed w0 (w.heap.size + 1) 146 (.int .u64 sum) := blk_below (blk_below (blk_alloc (heap_alloc2_new w _ _) _) hB1 (by simp)) hb10 (by omega)
  have hr0 : Boxed w0 (w.heap.size + 1 + 1) 146 (.int .u64 0) := blk_below (blk_below (by have := heap_alloc_new ((w.alloc (.cells #[.int .i64 sz, .int .u64 poly, .int .u64 st] 288)).alloc (.cells #[.int .u64 sum] 146)) (.cells #[.int .u64 0] 146); simpa using this) hB1 (by simp)) hb10 (by omega)
  have ht0 : w0.heap[w1.heap.size]? = some (.cells (tblV sz poly 16).toArray 302 (0, 0)) := by rw [hw0]; exact blk_alloc (blk_alloc (heap_alloc_new w1 _) _) _
  have hcs0 : w0.cell? ⟨w1.heap.size + 1, 0, none⟩ = some (.slice D l.length cap) := by rw [hw0]; exact cell_of_one (blk_alloc (heap_alloc2_new w1 _ _) _)
  have hcn0 : w0.cell? ⟨w1.heap.size + 1 + 1, 0, none⟩ = some (.int .i64 (4 : Nat)) := by
    rw [hw0]; exact cell_of_one (by have := heap_alloc_new ((w1.alloc (.cells (tblV sz poly 16).toArray 302)).alloc (.cells #[.slice D l.length cap] 23)) (.cells #[.int .i64 4] 3); simpa using this)
  have hsz0 : w0.heap.size = w1.heap.size + 3 := by rw [hw0]; simp
  have hself : KeepsOthers w1 w0 := keepsOthers_of_below hb10
  rw [← hw0]
  clear hw0
  refine wpIn_rangeFunc_ownG rfl h1 (gf := 270) (lb := #[.pointer (some ⟨w1.heap.size + 1, 0, none⟩), .pointer (some ⟨w1.heap.size + 1 + 1, 0, none⟩)]) rfl trivial (enters_of Tryz.func270 (by kernel_rfl) rfl)
    (chunk_stops (m - 1) (by omega) (w1.heap.size + 1) (w1.heap.size + 1 + 1) (fun k => k = w1.heap.size + 1 ∨ k = w1.heap.size + 1 + 1) D cap l.length 4 (by decide) (by decide) (by omega) hcap hDs _ hcs0 hcn0 (.inl rfl) (.inr rfl) (by intro k hk; have hk' : k = w1.heap.size + 1 ∨ k = w1.heap.size + 1 + 1 := hk; omega))
    keepS_t (keepS_b (by intro k hk; have hk' : k = w1.heap.size + 1 ∨ k = w1.heap.size + 1 + 1 := hk; omega)) (Below.refl _ _) (fun _ => rfl)
    (fun pre W => (Boxed W (w.heap.size + 1) 146 (.int .u64 (crcRun sz poly sum (pre.flatMap (partBits 4 l)) : Nat)) ∧ Boxed W (w.heap.size + 1 + 1) 146 (.int .u64 0) ∧
        W.heap[w.heap.size]? = some (.cells #[.int .i64 sz, .int .u64 poly, .int .u64 st] 288 (0, 0)) ∧ W.heap[w1.heap.size]? = some (.cells (tblV sz poly 16).toArray 302 (0, 0)) ∧ w0.heap.size ≤ W.heap.size) ∧ Below w.heap.size w W)
    (fun c pre W => (c = .ret ∧ ∃ ini last, pre = ini ++ [last] ∧ (partBits 4 l last).length < 4 ∧ Boxed W (w.heap.size + 1 + 1) 146 (.int .u64 (crcRun sz poly sum (pre.flatMap (partBits 4 l)) : Nat))) ∧ Below w.heap.size w W)
    (OwnFrom.and (Own.from (fun s A B row hs hg hr => ⟨own_blk hs.1 hg hr, own_blk hs.2.1 hg hr, own_blk hs.2.2.1 hg hr, own_blk hs.2.2.2.1 hg hr, Nat.le_trans hs.2.2.2.2 hg.size⟩) _) (ownFrom_below (Nat.le_refl _) (by omega)))
    (fun c => OwnFrom.and (Own.from (fun s A B row hs hg hr => by obtain ⟨hc, ini, last, e1, e2, e3⟩ := hs; exact ⟨hc, ini, last, e1, e2, own_blk e3 hg hr⟩) _) (ownFrom_below (Nat.le_refl _) (by omega)))
    ⟨⟨hs0, hr0, hk0, ht0, Nat.le_refl _⟩, hBw0⟩
    (fun x => { tmps := #[.agg #[.int .i64 sz, .int .u64 poly, .int .u64 st], .int .u64 sum, .slice D l.length cap, .pointer (some ⟨w.heap.size, 0, none⟩), .pointer (some ⟨w.heap.size + 1, 0, none⟩), undef, .pointer (some ⟨w.heap.size + 1 + 1, 0, none⟩), .pointer (some ⟨w1.heap.size, 0, none⟩),
        .slice (D.map (·.add (clamp 4 l.length x * 4))) (partLen 4 l.length (clamp 4 l.length x)) (partLen 4 l.length (clamp 4 l.length x)), undef, undef, undef, .agg #[.int .i64 sz, .int .u64 poly, .int .u64 st], .agg (tblV sz poly 16).toArray, .slice D l.length cap,
        .func (.func 270) #[] #[.pointer (some ⟨w1.heap.size + 1, 0, none⟩), .pointer (some ⟨w1.heap.size + 1 + 1, 0, none⟩)],
        .slice (D.map (·.add (clamp 4 l.length x * 4))) (partLen 4 l.length (clamp 4 l.length x)) (partLen 4 l.length (clamp 4 l.length x)), undef, undef, undef, undef, undef, undef, undef, undef, undef, undef, undef, undef, undef, undef, undef, undef, undef, undef, undef, undef, undef, undef, undef, undef, undef, undef, undef, undef, undef, undef, undef, undef], defers := [] }) ?assign ?body ?done ?stop
  case assign =>
    intro lp x W K hK
    simp only [encC, encC0]
    gi_wp2
    exact hK
  case body =>
    rintro lp pre x W ⟨⟨hbs, hbr, hbk, hbt, hWs⟩, hB⟩ hlt
    have hl0 : 0 < l.length := by omega
    obtain ⟨ad, rfl⟩ := hDs hl0
    have hrt := ((HR.out.kept hB).drop (4 * clamp 4 l.length x)).take 4
    have hpl : partLen 4 l.length (clamp 4 l.length x) = (partBits 4 l x).length := by unfold partLen partBits; simp [Nat.mul_comm]
    have hfm : (pre ++ [x]).flatMap (partBits 4 l) = pre.flatMap (partBits 4 l) ++ partBits 4 l x := by simp
    have hp4 : (partBits 4 l x).length ≤ 4 := by unfold partBits; simp; omega
    have hrp : Rd W (some (ad.add (clamp 4 l.length x * 4))) (bitsV (partBits 4 l x)) := by
      rw [Nat.mul_comm]
      simpa [partBits, bitsV, List.map_take, List.map_drop] using hrt
    have hrun : crcRun sz poly sum ((pre ++ [x]).flatMap (partBits 4 l)) = crcRun sz poly (crcRun sz poly sum (pre.flatMap (partBits 4 l))) (partBits 4 l x) := by rw [hfm]; simp [crcRun]
    have hql : crcRun sz poly sum (pre.flatMap (partBits 4 l)) < 2 ^ sz := crcRun_lt sz poly hp _ _ hs
    rw [hpl]
    have HFM := Lib.hid hfm
    obtain ⟨part, hpd⟩ : ∃ part, part = partBits 4 l x := ⟨_, rfl⟩
    rw [← hpd] at hrun hrp hp4 hpl
    rw [← hpd]
    have HPD := Lib.hid hpd
    generalize crcRun sz poly sum (pre.flatMap (partBits 4 l)) = q at *
    generalize clamp 4 l.length x = y at *
    have HRUN := Lib.hid hrun
    have hc0 : W.cell? ⟨w.heap.size, 0, none⟩ = some (.int .i64 sz) := by rw [blk_cell hbk]; rfl
    have hc1 : W.cell? ⟨w.heap.size, 1, none⟩ = some (.int .u64 poly) := by rw [blk_cell hbk]; rfl
    have hc2 : W.cell? ⟨w.heap.size, 2, none⟩ = some (.int .u64 st) := by rw [blk_cell hbk]; rfl
    have hcs := hbs.cell
    have HBS := Lib.hid hbs
    have HBR := Lib.hid hbr
    have HBK := Lib.hid hbk
    have HBT := Lib.hid hbt
    clear hrt hpl hfm hpd hrun hbs hbr hbk hbt hk0 hs0 hr0 ht0 hcs0 hcn0 hself hDs
    by_cases hlen : part.length < 4
    · have hcall := all_any sz poly st q (some (ad.add (y * 4))) part.length part W (by omega) h2 hql hp hrp (by omega)
      gi_wp2_with fail
      refine ⟨fun _ => by omega, ?_⟩
      refine (CallsIn.inRound lp ((callsIn_wide (n := m - 1 - 1 - 1)).2 hcall)).mono ?_
      rintro e w2 ⟨rfl, hB2⟩
      have hbr2 : Boxed w2 (w.heap.size + 1 + 1) 146 (.int .u64 0) := blk_kept HBR.out hB2
      have hcr2 := hbr2.cell
      have hfr2 := hbr2.frozen
      have HBR2 := Lib.hid hbr2
      clear hcall hbr2
      gi_wp2
      refine ⟨((keepsOthers_of_below hB2).trans (KeepsOthers.setCell _ _ _)).from _, ⟨rfl, pre, x, rfl, by rw [← HPD.out]; exact hlen, ?_⟩, (hB.trans (hB2.mono hB.size)).setCell (p := ⟨w.heap.size + 1 + 1, 0, none⟩) (by simp; omega) _⟩
      rw [HRUN.out]
      exact HBR2.out.set _
    · have hlen4 : part.length = 4 := by omega
      have hcall := get_any (some (ad.add (y * 4))) 4 part W hrp (by omega)
      have hnum := num_lt part
      rw [hlen4] at hnum hcall
      gi_wp2_with fail
      refine ⟨fun _ => by omega, ?_⟩
      refine (CallsIn.inRound lp ((callsIn_wide (n := m - 1 - 1 - 1)).2 hcall)).mono ?_
      rintro e w2 ⟨rfl, hB2⟩
      have hB3 := hB.trans (hB2.mono hB.size)
      have hbs2 : Boxed w2 (w.heap.size + 1) 146 (.int .u64 q) := blk_kept HBS.out hB2
      have hbr2 : Boxed w2 (w.heap.size + 1 + 1) 146 (.int .u64 0) := blk_kept HBR.out hB2
      have hbk2 := blk_kept HBK.out hB2
      have hbt2 := blk_kept HBT.out hB2
      obtain ⟨h0, hh0⟩ : ∃ h0, h0 = q >>> (sz - 4) := ⟨_, rfl⟩
      have hh0l : h0 < 16 := by
        rw [hh0, Nat.shiftRight_eq_div_pow, Nat.div_lt_iff_lt_mul (Nat.two_pow_pos _), show (16 : Nat) = 2 ^ 4 from rfl, ← Nat.pow_add, show 4 + (sz - 4) = sz by omega]; exact hql
      have hsh : (q : Int) / 2 ^ (sz - 4) = (h0 : Int) := by rw [hh0, Nat.shiftRight_eq_div_pow]; simp
      obtain ⟨h, hh⟩ : ∃ h, h = h0 ^^^ num part := ⟨_, rfl⟩
      have hhl : h < 16 := by rw [hh]; exact Nat.xor_lt_two_pow (n := 4) hh0l hnum
      have hxor : bits BinOp.xor IntKind.u64 (h0 : Int) (num part : Nat) = (h : Int) := by rw [hh]; exact bits_xor_u64_nat h0 (num part) (by omega) (by omega)
      have hw1 : IntKind.u64.wrap (h : Int) = (h : Int) := wrapU _ (by omega) (by omega)
      have hw2 : IntKind.i64.wrap ((sz : Int) - 4) = (sz : Int) - 4 := wrapI _ (by omega) (by omega)
      have hw3 : ((sz : Int) - 4).toNat = sz - 4 := by omega
      have hw4 : (0 : Int) ≤ (sz : Int) - 4 := by omega
      have h32 := pow32 h2
      obtain ⟨T, hT⟩ : ∃ T, T = 2 ^ sz := ⟨_, rfl⟩
      have hT2 : (2 : Int) ^ sz = (T : Int) := by rw [hT]; simp
      have hT1 : 16 ≤ T := by rw [hT]; exact Nat.le_trans (by decide) (Nat.pow_le_pow_right (n := 2) (by decide) h4)
      obtain ⟨g, hg⟩ : ∃ g, g = q * 16 % T := ⟨_, rfl⟩
      rw [← hT] at h32 hql
      have hgT : g < T := by rw [hg]; exact Nat.mod_lt _ (by omega)
      have hand : bits BinOp.and IntKind.u64 ((q : Int) * 16) ((T : Int) - 1) = (g : Int) := by
        have := u64_and_nat (q * 16) (T - 1) (by omega) (by omega)
        rw [show ((q : Int) * 16) = ((q * 16 : Nat) : Int) by omega, show ((T : Int) - 1) = ((T - 1 : Nat) : Int) by omega, this, hg, hT, Nat.and_two_pow_sub_one_eq_mod]
      obtain ⟨tv, htv⟩ : ∃ tv, tv = tblOf sz poly h := ⟨_, rfl⟩
      have htl : tv < T := by
        rw [htv, hT]
        refine crcRun_lt sz poly hp _ _ ?_
        have : 2 ^ sz = 16 * 2 ^ (sz - 4) := by rw [show 16 = 2 ^ 4 from rfl, ← Nat.pow_add, show 4 + (sz - 4) = sz by omega]
        rw [this]; exact Nat.mul_lt_mul_of_pos_right hhl (Nat.two_pow_pos _)
      have hct : w2.cell? ⟨w1.heap.size, h, none⟩ = some (.int .u64 tv) := by
        rw [blk_cell hbt2, htv]
        have hu : (upto (fun i => Value.int .u64 (tblOf sz poly i : Nat)) 16)[h]? = some (.int .u64 (tblOf sz poly h : Nat)) := by simp [upto, hhl]
        simpa [tblV] using hu
      obtain ⟨q2, hq2⟩ : ∃ q2, q2 = g ^^^ tv := ⟨_, rfl⟩
      have hxor2 : bits BinOp.xor IntKind.u64 (g : Int) (tv : Int) = (q2 : Int) := by rw [hq2]; exact bits_xor_u64_nat g tv (by omega) (by omega)
      have hlaw : crcRun sz poly q part = q2 := by
        rw [table_law sz poly q part h4 hlen4, hq2, hg, hT, htv, hh, hh0]; rfl
      have hc0' : w2.cell? ⟨w.heap.size, 0, none⟩ = some (.int .i64 sz) := by rw [blk_cell hbk2]; rfl
      have hcs2 := hbs2.cell
      have hfs2 := hbs2.frozen
      have HBS2 := Lib.hid hbs2
      have HBR2 := Lib.hid hbr2
      have HBK2 := Lib.hid hbk2
      have HBT2 := Lib.hid hbt2
      have HL := Lib.hid hlaw
      have hTm : (1 : Int) ≤ (T : Int) := by omega
      have hle : T ≤ 4294967296 := by omega
      clear hbs2 hbr2 hbk2 hbt2 hcall hnum hh0 hh hT hg htv hq2 hlaw hc0 hc1 hc2 hcs hs hp hlen
      gi_wp2
      have hx0 := ext_cell_of hc0'
      have hx1 := ext_cell_of hcs2
      have hx2 := ext_cell_of hct
      have hw5 : IntKind.u64.wrap ((q : Int) * 16) = (q : Int) * 16 := wrapU _ (by omega) (by omega)
      have hw6 : IntKind.u64.wrap (T : Int) = (T : Int) := wrapU _ (by omega) (by omega)
      have hw7 : IntKind.u64.wrap ((T : Int) - 1) = (T : Int) - 1 := wrapU _ (by omega) (by omega)
      have hw8 : (0 : Int) ≤ (sz : Int) := by omega
      have hhi : (h : Int) < 16 := by omega
      have hhj : ¬ (16 : Int) ≤ (h : Int) := by omega
      refine wpIn_region_mix #[[], [0], [], [2], [2, 3], [2, 3, 4], [0, 1, 2, 3, 4, 5], [], [7], [7, 8], [0, 1, 2, 3, 4, 5, 6, 7, 8, 9], [0, 1, 2, 3, 4, 5, 6, 7, 8, 9, 10]] [(0, 1), (1, 0), (2, 0), (3, 1), (4, 0), (5, 0), (6, 0), (7, 0), (8, 0), (9, 1), (10, 0), (11, 2)] (by kernel_rfl) (by kernel_rfl) ?_
      repeat ((first | refine mix_pu rfl (fun K hK => ?_) | refine mix_st rfl (fun K hK => ?_)); go_simp; refine hK _ ?_; clear hK K)
      clear hx0 hx1 hx2
      refine mix_ef rfl ?_
      go_wp2
      change wpMix _ _ _ _ _ _
      refine mix_end ?_
      have HB3 := Lib.hid hB3
      have HB2 := Lib.hid hB2
      refine ⟨(((keepsOthers_of_below HB2.out).trans (KeepsOthers.setCell _ _ _)).trans (KeepsOthers.drew _)).from _, keepS_t (keepS_of_below HB2.out (fun k hk => by rcases hk with hk | hk <;> omega)) (show KeepS _ _ (w2.setCell ⟨w.heap.size + 1, 0, none⟩ _) from keepS_set _ _ _ (by simp; omega)), ⟨?_, ?_, ?_, ?_, ?_⟩, (HB3.out.setCell (p := ⟨w.heap.size + 1, 0, none⟩) (by simp) _).drew⟩
      · rw [HRUN.out, HL.out]; exact Boxed.set _ HBS2.out
      · exact blk_other HBR2.out _ _ (by simp)
      · exact blk_other HBK2.out _ _ (by simp)
      · exact blk_other HBT2.out _ _ (by simp; omega)
      · have := HB2.out.size; simp; omega
  case done =>
    rintro Dd ys W hD rfl ⟨⟨hbs, hbr, _, _, _⟩, hB⟩ hK
    have hall : (upto (fun k : Nat => k) ((l.length + 4 - 1) / 4)).flatMap (partBits 4 l) = l := by
      rw [flat_upto 4 (by decide) l _ (Nat.le_refl _)]; exact List.take_of_length_le (by omega)
    rw [hall] at hbs
    have hcs := hbs.cell
    have hcr := hbr.cell
    have hfr := hbr.frozen
    have HBR := Lib.hid hbr
    clear hbs hbr hall
    have hne : w.heap.size + 1 + 1 ≠ Dd := by omega
    have hK' : (W.setCell ⟨w.heap.size + 1 + 1, 0, none⟩ (.int .u64 (crcRun sz poly sum l : Nat))).heap[Dd]? = some (.deferred (some [])) := by
      rw [Below.heap_setCell _ _ _ _ (fun e => hne e.symm)]; exact hK
    have hcell : ((W.setCell ⟨w.heap.size + 1 + 1, 0, none⟩ (.int .u64 (crcRun sz poly sum l : Nat))).putObj Dd (.deferred none)).cell? ⟨w.heap.size + 1 + 1, 0, none⟩ = some (.int .u64 (crcRun sz poly sum l : Nat)) := by
      rw [World.cell?_of_block ((grownBy_putObj' _ Dd _).block _ (by have := lt_of_block HBR.out; simpa using this) (by simp; omega))]
      exact (Boxed.set _ HBR.out).cell
    have HC := Lib.hid hcell
    have HK' := Lib.hid hK'
    clear hcell hK'
    gi_wp2
    refine ⟨by simp, .inl ⟨_, _, rfl, run_takeDeferred HK'.out, ?_⟩⟩
    exact ⟨.int .u64 (crcRun sz poly sum l : Nat), by simp [results, Tryz.results257, go_sem, HC.out], rfl, (hB.setCell (p := ⟨w.heap.size + 1 + 1, 0, none⟩) (by simp; omega) _).trans (belowK_b (w := w) (Nat.le_refl _) _ Dd _ _ (by omega) HK'.out rfl rfl)⟩
  case stop =>
    rintro Dd c pre W hD ⟨k, hk, rfl⟩ ⟨⟨rfl, ini, last, e1, e2, hbr⟩, hB⟩ hK
    have hlast : last = k := by
      rw [upto_succ] at e1
      have := List.append_inj_right' e1 rfl
      simpa using this.symm
    subst hlast
    have hall : (upto (fun k : Nat => k) (last + 1)).flatMap (partBits 4 l) = l := by
      rw [flat_upto 4 (by decide) l _ hk]
      refine List.take_of_length_le ?_
      have hc : clamp 4 l.length last = last := by unfold clamp; omega
      have : (partBits 4 l last).length = min 4 (l.length - 4 * last) := by unfold partBits; rw [hc]; simp
      omega
    rw [hall] at hbr
    have hcr := hbr.cell
    clear hall e1 e2 hbr
    have hne : w.heap.size + 1 + 1 ≠ Dd := by omega
    have hcell : (W.putObj Dd (.deferred none)).cell? ⟨w.heap.size + 1 + 1, 0, none⟩ = some (.int .u64 (crcRun sz poly sum l : Nat)) := by
      rw [World.cell?_of_block ((grownBy_putObj' _ Dd _).block _ (World.block_lt_of_cell? _ _ hcr) (by simp; omega))]
      exact hcr
    have HC := Lib.hid hcell
    clear hcell
    gi_wp2
    refine ⟨by simp, .inl ⟨_, _, rfl, run_takeDeferred hK, ?_⟩⟩
    exact ⟨.int .u64 (crcRun sz poly sum l : Nat), by simp [results, Tryz.results257, go_sem, HC.out], rfl, hB.trans (belowK_b (w := w) (Nat.le_refl _) _ Dd _ _ (by omega) hK rfl rfl)⟩
/-- crc.run as any call. -/
theorem crcrun_any (sz poly st sum : Nat) (D : Option Addr) (cap : Nat) (l : List Bool) (h4 : 4 ≤ sz) (h2 : sz ≤ 32) (hp : poly < 2 ^ sz) (hs : sum < 2 ^ sz) (hl : l.length ≤ 1000000) (hcap : l.length ≤ cap) (w : World) (hr : Rd w D (bitsV l)) :
    Calls Tryz.prog 257 #[.agg #[.int .i64 sz, .int .u64 poly, .int .u64 st], .int .u64 sum, .slice D l.length cap] w fun e w' => e = .returned (.int .u64 (crcRun sz poly sum l : Nat)) ∧ Below w.heap.size w w' :=
  (callsIn_wide (n := 3)).1 (run_in4 3 (Nat.le_refl _) sz poly st sum D cap l h4 h2 hp hs hl hcap w hr)
end Go.Proofs.YtnfnjmllgklaaaaGreat
