/- A region that draws its order: ONE walk serves every order, where each operation that may turn memory is told from those that don't ('steady'), and what is not forced behind it isn't hurt by it. No dump in it. -/
import Derived.WalkKit
import Derived.Deep.Draws
import Derived.Still
import Derived.StillTail
import Derived.KernelRfl
set_option linter.unusedVariables false
set_option linter.unusedSimpArgs false
namespace Om
open Go Go.RowKit

/-- The world with further blocks behind, and whatever count of draws. -/
def ext (w : World) (hs : Array Obj) (n : Nat) : World := { w with heap := w.heap ++ hs, drawn := n }
theorem ext_self (w : World) : ext w #[] w.drawn = w := by cases w; simp [ext]
theorem ext_ext (w : World) (hs hs' : Array Obj) (n n' : Nat) : ext (ext w hs n) hs' n' = ext w (hs ++ hs') n' := by simp [ext, Array.append_assoc]
theorem ext_of_below {w w' : World} (h : Below w.heap.size w w') : ∃ hs n, w' = ext w hs n := by
  refine ⟨w'.heap.extract w.heap.size w'.heap.size, w'.drawn, ?_⟩
  obtain ⟨h1, h2, h3, h4, h5⟩ := h
  cases w' with
  | mk heap tape drawn os output =>
    simp only at h1 h2 h3 h4 h5
    subst h1 h2 h3
    simp only [ext, World.mk.injEq, and_true]
    apply Array.ext_getElem?
    intro i
    rw [Array.getElem?_append]
    split
    · rename_i hi; exact h5 i hi
    · rename_i hi
      rw [Array.getElem?_extract]
      split
      · congr 1; omega
      · rename_i h6
        exact Array.getElem?_eq_none (by omega)
theorem ext_cell (w : World) (hs : Array Obj) (n : Nat) (a : Addr) (h : a.block < w.heap.size) : (ext w hs n).cell? a = w.cell? a := by
  simp [ext, World.cell?, Array.getElem?_append, h]
theorem ext_cell_of {w : World} {a : Addr} {v : Value} (h : w.cell? a = some v) : ∀ hs n, (ext w hs n).cell? a = some v := fun hs n => by
  rw [ext_cell _ _ _ _ (World.block_lt_of_cell? w a h)]; exact h
theorem ext_drew (w : World) : ext w.drew = ext w := by funext hs n; rfl
theorem ext_alloc (w : World) (o : Obj) (hs : Array Obj) (n : Nat) : ext (w.alloc o) hs n = ext w (#[o] ++ hs) n := by
  show ({ w with heap := w.heap.push o ++ hs, drawn := n } : World) = _
  simp [ext]
attribute [go_sem] ext_drew

section
variable {P : Program} {ops : Array Oper} {Q : Exit → Act → World → Prop}

/-- In the world, and with whatever blocks behind: this value. -/
def Steady (P : Program) (o : Oper) (a : Act) (w : World) (v : Value) : Prop := ∀ hs n, (execOp a.eval o).run P (ext w hs n) = .ok (.value v) (ext w hs n)
/-- The plain way out alone. -/
def Only (F : Act → World → Prop) : Exit → Act → World → Prop
  | .normal, a, w => F a w
  | _, _, _ => False
theorem only_normal (F : Act → World → Prop) (a : Act) (w : World) : Only F .normal a w = F a w := rfl

/-- In every world: this value. -/
def Always (P : Program) (o : Oper) (a : Act) (v : Value) : Prop := ∀ W, (execOp a.eval o).run P W = .ok (.value v) W
/-- What is asked of an operation: 0: it looks at no memory; 1: it turns none; 2: it may turn memory; 3: so, but it keeps all old blocks. -/
def tame (P : Program) (tag : Nat) (o : Oper) (a : Act) (w : World) (v : Value) : Prop := if tag = 0 then Always P o a v else Steady P o a w v
def clause (P : Program) (ops : Array Oper) (x : Nat × Nat) (K : Act → World → Prop) (a : Act) (w : World) : Prop :=
  match ops[x.1]? with
  | none => False
  | some o =>
    if x.2 ≤ 1 then (if Region.wanted o (yielded ops a.tmps) then ∃ v, tame P x.2 o a w v ∧ K (a.put o.dst v) w else K (a.put o.dst undef) w)
    else wpList P ops (Only fun a' w' => (x.2 = 3 → Below w.heap.size w w') ∧ K a' w') [o] a w
theorem tame_steady {tag : Nat} {o : Oper} {a : Act} {w : World} {v : Value} (h : tame P tag o a w v) : Steady P o a w v := by
  unfold tame at h
  split at h
  · exact fun hs n => h _
  · exact h
/-- The walk: operations by number; each with its tag. -/
def wpMix (P : Program) (ops : Array Oper) (Q : Exit → Act → World → Prop) : List (Nat × Nat) → Act → World → Prop
  | [], a, w => Q .normal a w
  | x :: r, a, w => clause P ops x (wpMix P ops Q r) a w

theorem mix_end {a : Act} {w : World} (h : Q .normal a w) : wpMix P ops Q [] a w := h
theorem mix_pu {i : Nat} {r : List (Nat × Nat)} {a : Act} {w : World} {o : Oper} (ho : ops[i]? = some o)
    (h : ∀ K : Act → Prop, (∀ a', wpMix P ops Q r a' w → K a') → if Region.wanted o (yielded ops a.tmps) then ∃ v, (∀ W, (execOp a.eval o).run P W = .ok (.value v) W) ∧ K (a.put o.dst v) else K (a.put o.dst undef)) :
    wpMix P ops Q ((i, 0) :: r) a w := by
  simp only [wpMix, clause, ho, Nat.zero_le, if_true, tame]
  exact h (fun a' => wpMix P ops Q r a' w) (fun _ h => h)
theorem mix_st {i : Nat} {r : List (Nat × Nat)} {a : Act} {w : World} {o : Oper} (ho : ops[i]? = some o)
    (h : ∀ K : Act → Prop, (∀ a', wpMix P ops Q r a' w → K a') → if Region.wanted o (yielded ops a.tmps) then ∃ v, (∀ hs n, (execOp a.eval o).run P (ext w hs n) = .ok (.value v) (ext w hs n)) ∧ K (a.put o.dst v) else K (a.put o.dst undef)) :
    wpMix P ops Q ((i, 1) :: r) a w := by
  simp only [wpMix, clause, ho, Nat.le_refl, if_true, tame, Nat.one_ne_zero, if_false]
  exact h (fun a' => wpMix P ops Q r a' w) (fun _ h => h)
theorem mix_ef {i : Nat} {r : List (Nat × Nat)} {a : Act} {w : World} {o : Oper} (ho : ops[i]? = some o)
    (h : wpList P ops (Only fun a' w' => wpMix P ops Q r a' w') [o] a w) : wpMix P ops Q ((i, 2) :: r) a w := by
  simp only [wpMix, clause, ho, show ¬ (2 : Nat) ≤ 1 by omega, if_false, show ¬ (2 : Nat) = 3 by omega, false_implies, true_and]
  exact h
theorem mix_kp {i : Nat} {r : List (Nat × Nat)} {a : Act} {w : World} {o : Oper} (ho : ops[i]? = some o)
    (h : wpList P ops (Only fun a' w' => Below w.heap.size w w' ∧ wpMix P ops Q r a' w') [o] a w) : wpMix P ops Q ((i, 3) :: r) a w := by
  simp only [wpMix, clause, ho, show ¬ (3 : Nat) ≤ 1 by omega, if_false, true_implies]
  exact h

theorem upon_only {o : Oper} {a : Act} {F F' : Act → World → Prop} {dst : Option Tmp} {v : Value} {r : Result Next} {N : Act → World → Prop}
    (hne : ∀ d, dst = some d → o.dst ≠ some d) (hN : ∀ u w' ds, N (({ a with defers := ds } : Act).put dst v |>.put o.dst u) w' → F' (({ a with defers := ds } : Act).put o.dst u) w')
    (h : o.upon P (a.put dst v) N (Only F) r) : o.upon P a F' Q r := by
  have hcm : ∀ (b : Act) u, (b.put dst v).put o.dst u = (b.put o.dst u).put dst v := fun b u => Act.put_comm b v u hne
  cases r with
  | ok n w' =>
    cases n <;> simp only [Oper.upon] at h ⊢
    case value u => exact hN u w' a.defers h
    case skip => exact hN undef w' a.defers h
    case enter f args =>
      refine Calls.mono h fun e w'' he => ?_
      cases e with
      | returned u => exact hN u w'' a.defers he
      | panicked c => exact he.elim
      | outgrown => obtain ⟨_, _, hq⟩ := he; exact hq.elim
    case row s args => exact Rows.mono h fun u w'' he => hN u w'' a.defers he
    case defer d =>
      rw [Act.put_defers] at h
      exact hN undef w' (d :: a.defers) h
  | halt x w' => cases x <;> simp only [Oper.upon] at h <;> exact h.elim

theorem single_of {o : Oper} {a : Act} {w : World} {F F' : Act → World → Prop} {dst : Option Tmp} {v : Value} (hs : ∀ cs b, o.op ≠ .select cs b)
    (hl : ∀ d, dst = some d → d ∉ o.looksAt ops) (hne : ∀ d, dst = some d → o.dst ≠ some d)
    (hN : ∀ u w' ds, F ((({ a with defers := ds } : Act).put dst v).put o.dst u) w' → F' (({ a with defers := ds } : Act).put o.dst u) w')
    (h : wpList P ops (Only F) [o] (a.put dst v) w) : wpList P ops (Only F') [o] a w := by
  simp only [wpList] at h ⊢
  rw [wanted_put o a dst v hl] at h
  split
  · rename_i hw
    simp only [hw, if_true] at h
    rcases h with h | ⟨_, _, _, hq⟩
    · left
      unfold Oper.wp at h ⊢
      rw [execOp_put o hs a dst v hl] at h
      exact upon_only (Q := Only F') hne hN h
    · exact hq.elim
  · rename_i hw
    simp only [hw] at h
    exact hN undef w a.defers h

/-- What the check asks of two operations, the first ahead of the second in the walk. -/
def pairB (ops : Array Oper) (tbl : Array (List Nat)) (x y : Nat × Nat) : Bool :=
  match ops[x.1]?, ops[y.1]? with
  | some ox, some oy =>
    ((tbl.getD y.1 []).contains x.1 || (decide (x.2 ≤ 1) && ox.apart ops oy && (decide (y.2 ≤ 1) || y.2 == 3 || x.2 == 0))) &&
    ox.after.all fun e => !Region.binds .any e || e.on != y.1
  | _, _ => false

theorem pull : ∀ (L : List (Nat × Nat)) (tbl : Array (List Nat)) (a : Act) (w : World) (j : Nat × Nat), j ∈ L → (∀ (i : Nat) (o : Oper) cs b, ops[i]? = some o → o.op ≠ .select cs b) →
    L.Pairwise (fun x y => pairB ops tbl x y = true) → (L.map (·.1)).Nodup → (∀ x ∈ L, x.1 ∉ tbl.getD j.1 []) → wpMix P ops Q L a w → clause P ops j (wpMix P ops Q (L.filter (·.1 != j.1))) a w
  | [], _, _, _, _, hj, _, _, _, _, _ => by cases hj
  | x :: r, tbl, a, w, j, hj, hsel, hP, hn, hd, h => by
    simp only [List.map_cons, List.nodup_cons] at hn
    by_cases hx : x.1 = j.1
    · have hxj : x = j := by
        rcases List.mem_cons.1 hj with e | e
        · exact e.symm
        · exact absurd (List.mem_map.2 ⟨j, e, hx.symm⟩) hn.1
      subst hxj
      have hf : (x :: r).filter (·.1 != x.1) = r := by
        rw [List.filter_cons]
        simp only [bne_self_eq_false, Bool.false_eq_true, if_false]
        refine List.filter_eq_self.2 fun y hy => ?_
        have : y.1 ≠ x.1 := fun e => hn.1 (List.mem_map.2 ⟨y, hy, e⟩)
        simpa using this
      rw [hf]
      exact h
    · have hjr : j ∈ r := by
        rcases List.mem_cons.1 hj with e | e
        · exact absurd (by rw [e]) hx
        · exact e
      have hf : (x :: r).filter (·.1 != j.1) = x :: r.filter (·.1 != j.1) := by
        rw [List.filter_cons, if_pos (by simpa using hx)]
      rw [hf]
      rw [List.pairwise_cons] at hP
      have hxj := hP.1 j hjr
      have ih := fun a w => pull r tbl a w j hjr hsel hP.2 hn.2 (fun y hy => hd y (List.mem_cons_of_mem _ hy))
      cases hox : ops[x.1]? with
      | none => simp [pairB, hox] at hxj
      | some ox =>
        cases hoj : ops[j.1]? with
        | none => simp [pairB, hox, hoj] at hxj
        | some oj =>
          simp only [pairB, hox, hoj, Bool.and_eq_true, Bool.or_eq_true, List.contains_iff_mem] at hxj
          have hnd := hd x List.mem_cons_self
          obtain ⟨⟨hst, hap⟩, hkeep⟩ := hxj.1.resolve_left hnd
          simp only [decide_eq_true_eq] at hst
          obtain ⟨h1, h2, h3⟩ := Oper.apart_spec hap
          have hsx := fun cs b => hsel _ _ cs b hox
          have hsj := fun cs b => hsel _ _ cs b hoj
          -- the first one's clause, at whatever state has the second one's value besides
          have later : ∀ (K : Act → World → Prop) (ux : Value) (b : Act) (W : World) (u : Value),
              ((Region.wanted ox (yielded ops b.tmps) = true ∧ tame P x.2 ox b W ux) ∨ (Region.wanted ox (yielded ops b.tmps) = false ∧ ux = undef)) → K ((b.put oj.dst u).put ox.dst ux) W → clause P ops x K (b.put oj.dst u) W := by
            intro K ux b W u hy hK
            simp only [clause, hox]
            rw [if_pos hst, wanted_put ox b oj.dst u h3]
            rcases hy with ⟨hw, hs⟩ | ⟨hw, rfl⟩
            · rw [if_pos hw]
              refine ⟨ux, ?_, hK⟩
              unfold tame at hs ⊢
              split
              · rename_i h0
                rw [if_pos h0] at hs
                intro W'
                rw [execOp_put ox hsx b oj.dst u h3]
                exact hs W'
              · rename_i h0
                rw [if_neg h0] at hs
                intro hs' n
                rw [execOp_put ox hsx b oj.dst u h3]
                exact hs hs' n
            · rw [if_neg (by simp [hw])]
              exact hK
          obtain ⟨ux, hy, hK⟩ : ∃ ux, ((Region.wanted ox (yielded ops a.tmps) = true ∧ tame P x.2 ox a w ux) ∨ (Region.wanted ox (yielded ops a.tmps) = false ∧ ux = undef)) ∧ wpMix P ops Q r (a.put ox.dst ux) w := by
            simp only [wpMix, clause, hox] at h
            rw [if_pos hst] at h
            by_cases hw : Region.wanted ox (yielded ops a.tmps) = true
            · rw [if_pos hw] at h
              obtain ⟨v, hv, hr⟩ := h
              exact ⟨v, .inl ⟨hw, hv⟩, hr⟩
            · rw [if_neg hw] at h
              exact ⟨undef, .inr ⟨by simpa using hw, rfl⟩, h⟩
          have ihh := ih _ _ hK
          simp only [clause, hoj] at ihh ⊢
          by_cases hj2 : j.2 ≤ 1
          · rw [if_pos hj2] at ihh ⊢
            rw [wanted_put oj a ox.dst ux h1] at ihh
            have fin : ∀ u, wpMix P ops Q (r.filter (·.1 != j.1)) ((a.put ox.dst ux).put oj.dst u) w → wpMix P ops Q (x :: r.filter (·.1 != j.1)) (a.put oj.dst u) w := fun u hu =>
              later _ ux a w u hy (by rw [← Act.put_comm a ux u h2]; exact hu)
            split
            · rename_i hw
              rw [if_pos hw] at ihh
              obtain ⟨u, hu, hr⟩ := ihh
              refine ⟨u, ?_, fin u hr⟩
              unfold tame at hu ⊢
              split
              · rename_i h0
                rw [if_pos h0] at hu
                intro W'
                have := hu W'
                rwa [execOp_put oj hsj a ox.dst ux h1] at this
              · rename_i h0
                rw [if_neg h0] at hu
                intro hs' n
                have := hu hs' n
                rwa [execOp_put oj hsj a ox.dst ux h1] at this
            · rename_i hw
              rw [if_neg hw] at ihh
              exact fin _ ihh
          · rw [if_neg hj2] at ihh ⊢
            refine single_of (dst := ox.dst) (v := ux) hsj h1 h2 (fun u w' ds hF => ?_) ihh
            refine ⟨hF.1, ?_⟩
            refine later _ ux { a with defers := ds } _ u ?_ (by rw [← Act.put_comm _ ux u h2]; exact hF.2)
            rcases hy with ⟨hw, hs⟩ | ⟨hw, e⟩
            · refine .inl ⟨hw, ?_⟩
              unfold tame at hs ⊢
              split
              · rename_i h0
                rw [if_pos h0] at hs
                exact hs
              · rename_i h0
                rw [if_neg h0] at hs
                have hb : Below w.heap.size w w' := hF.1 (by
                  simp only [decide_eq_true_eq, beq_iff_eq] at hkeep
                  omega)
                obtain ⟨hs0, n0, rfl⟩ := ext_of_below hb
                intro hs' n
                rw [ext_ext]
                exact hs _ _
            · exact .inr ⟨hw, e⟩

theorem wpOp_of_clause {x : Nat × Nat} {K : Act → World → Prop} {a : Act} {w : World} (h : clause P ops x K a w) : wpOp P ops Q x.1 K a w := by
  unfold clause at h
  unfold wpOp
  cases ho : ops[x.1]? with
  | none => simp [ho] at h
  | some o =>
    simp only [ho] at h ⊢
    by_cases hx : x.2 ≤ 1
    · rw [if_pos hx] at h
      split
      · rename_i hw
        rw [if_pos hw] at h
        obtain ⟨v, hv, hK⟩ := h
        left
        have := tame_steady hv #[] w.drawn
        rw [ext_self] at this
        unfold Oper.wp
        rw [this]
        exact hK
      · rename_i hw
        rw [if_neg hw] at h
        exact h
    · rw [if_neg hx] at h
      simp only [wpList] at h
      split
      · rename_i hw
        rw [if_pos hw] at h
        rcases h with h | ⟨_, _, _, hq⟩
        · left
          unfold Oper.wp at h ⊢
          exact upon_only (dst := none) (v := undef) (fun d hd => by cases hd) (fun u w' ds hN => hN.2) h
        · exact hq.elim
      · rename_i hw
        rw [if_neg hw] at h
        exact h.2

/-- Who waits for whom, through others: each row's numbers are reached from it. -/
def tblB (ops : Array Oper) (tbl : Array (List Nat)) : Bool :=
  (List.range ops.size).all fun j => (tbl.getD j []).all fun i => ((ops[j]?).map (·.after.any fun e => Region.binds .any e && decide (e.on < j) && (e.on == i || (tbl.getD e.on []).contains i))).getD false
def Closed (ops : Array Oper) (listed : Array Bool) : Prop :=
  ∀ (i : Nat) (o : Oper), ops[i]? = some o → listed.getD i false = true → ∀ e ∈ o.after, Region.binds .any e = true → listed.getD e.on false = true
theorem tbl_listed {tbl : Array (List Nat)} (hT : tblB ops tbl = true) {listed : Array Bool} (hc : Closed ops listed) :
    ∀ (n j : Nat) (o : Oper), j < n → ops[j]? = some o → (∀ e ∈ o.after, Region.binds .any e = true → listed.getD e.on false = true) → ∀ i ∈ tbl.getD j [], listed.getD i false = true := by
  intro n
  induction n with
  | zero => intro j o h; omega
  | succ n ih =>
    intro j o hjn ho hl i hi
    have hjs : j < ops.size := (Array.getElem?_eq_some_iff.1 ho).1
    simp only [tblB, List.all_eq_true, List.mem_range] at hT
    have := hT j hjs i hi
    simp only [ho, Option.map_some, Option.getD_some, Array.any_eq_true'] at this
    obtain ⟨e, he, hb⟩ := this
    simp only [Bool.and_eq_true, decide_eq_true_eq, Bool.or_eq_true, beq_iff_eq, List.contains_iff_mem] at hb
    obtain ⟨⟨hbd, hlt⟩, hor⟩ := hb
    have hle := hl e he hbd
    rcases hor with rfl | hin
    · exact hle
    · cases hoe : ops[e.on]? with
      | none =>
        have := Array.getElem?_eq_none_iff.1 hoe
        omega
      | some oe => exact ih e.on oe (by omega) hoe (hc e.on oe hoe hle) i hin

theorem filter_len : ∀ (L : List (Nat × Nat)) (y : Nat × Nat), y ∈ L → (L.map (·.1)).Nodup → (L.filter (·.1 != y.1)).length + 1 = L.length
  | [], _, hy, _ => by cases hy
  | x :: r, y, hy, hn => by
    simp only [List.map_cons, List.nodup_cons] at hn
    by_cases e : x.1 = y.1
    · have hf : (x :: r).filter (·.1 != y.1) = r := by
        rw [List.filter_cons]
        simp only [e, bne_self_eq_false, Bool.false_eq_true, if_false]
        refine List.filter_eq_self.2 fun z hz => ?_
        have : z.1 ≠ y.1 := fun e' => hn.1 (List.mem_map.2 ⟨z, hz, e'.trans e.symm⟩)
        simpa using this
      rw [hf]
      rfl
    · have hyr : y ∈ r := by
        rcases List.mem_cons.1 hy with e' | e'
        · exact absurd (by rw [e']) e
        · exact e'
      rw [List.filter_cons, if_pos (by simpa using e)]
      have := filter_len r y hyr hn.2
      simp only [List.length_cons]
      omega
theorem mix_any {tbl : Array (List Nat)} (hT : tblB ops tbl = true) (hsel : ∀ (i : Nat) (o : Oper) cs b, ops[i]? = some o → o.op ≠ .select cs b) (hlow : ∀ (i : Nat) (o : Oper), ops[i]? = some o → ∀ e ∈ o.after, Region.binds .any e = true → e.on < i) :
    ∀ (m : Nat) (L : List (Nat × Nat)) (listed : Array Bool) (a : Act) (w : World), L.length = m → listed.size = ops.size → (∀ x ∈ L, x.1 < ops.size) → (∀ i, i < ops.size → (listed.getD i false = false ↔ i ∈ L.map (·.1))) → (L.map (·.1)).Nodup → Closed ops listed →
      L.Pairwise (fun x y => pairB ops tbl x y = true) → wpMix P ops Q L a w → wpAny P .any ops Q m listed a w := by
  have both : ∀ (listed : Array Bool), listed.size = ops.size → ∀ i, i < ops.size → listed.getD i true = listed.getD i false := by
    intro listed hs i hi
    simp [Array.getD_eq_getD_getElem?, Array.getElem?_eq_getElem (show i < listed.size by omega)]
  intro m
  induction m with
  | zero =>
    intro L listed a w hL hs hlt hin hn hc hP h
    obtain rfl : L = [] := List.eq_nil_of_length_eq_zero hL
    refine ⟨?_, h⟩
    refine List.filter_eq_nil_iff.2 fun i hi => ?_
    have hi' := List.mem_range.1 hi
    have : listed.getD i false = true := by
      cases hb : listed.getD i false with
      | true => rfl
      | false => have := (hin i hi').1 hb; simp at this
    rw [both listed hs i hi', this]
    simp
  | succ m ih =>
    intro L listed a w hL hs hlt hin hn hc hP h
    obtain ⟨x, r, rfl⟩ := List.exists_cons_of_length_eq_add_one hL
    constructor
    · intro h0
      exfalso
      have hx := hlt x List.mem_cons_self
      have hxl : listed.getD x.1 false = false := (hin x.1 hx).2 (by simp)
      have hm : x.1 ∈ Region.ready .any ops listed := by
        refine List.mem_filter.2 ⟨List.mem_range.2 hx, ?_⟩
        rw [both listed hs _ hx, hxl]
        simp only [Bool.not_false, Bool.true_and]
        have ho : ops[x.1]? = some ops[x.1] := Array.getElem?_eq_getElem hx
        simp only [ho, Option.map_some, Option.getD_some, Array.all_eq_true']
        intro e he
        simp only [Bool.or_eq_true, Bool.not_eq_true']
        by_cases hb : Region.binds .any e = true
        · right
          have hlow' := hlow _ _ ho e he hb
          cases hle : listed.getD e.on false with
          | true => rfl
          | false =>
            exfalso
            have hin' := (hin e.on (by omega)).1 hle
            simp only [List.map_cons, List.mem_cons, List.mem_map] at hin'
            rcases hin' with e' | ⟨y, hy, hye⟩
            · omega
            · have hp := (List.pairwise_cons.1 hP).1 y hy
              have hoy : ops[y.1]? = some (ops[y.1]'(hlt y (List.mem_cons_of_mem _ hy))) := Array.getElem?_eq_getElem _
              simp only [pairB, ho, hoy, Bool.and_eq_true, Array.all_eq_true'] at hp
              have := hp.2 e he
              simp [hb, hye] at this
        · left; simpa using hb
      rw [h0] at hm
      cases hm
    · intro j hj
      have hj' := List.mem_filter.1 hj
      have hjs := List.mem_range.1 hj'.1
      have hb := hj'.2
      simp only [Bool.and_eq_true, Bool.not_eq_true'] at hb
      have hjl : listed.getD j false = false := by rw [← both listed hs j hjs]; exact hb.1
      have ho : ops[j]? = some ops[j] := Array.getElem?_eq_getElem hjs
      have hdeps : ∀ e ∈ (ops[j]).after, Region.binds .any e = true → listed.getD e.on false = true := by
        intro e he hbd
        have := hb.2
        simp only [ho, Option.map_some, Option.getD_some, Array.all_eq_true'] at this
        have := this e he
        simpa [hbd] using this
      obtain ⟨y, hy, hye⟩ := List.mem_map.1 ((hin j hjs).1 hjl)
      have hye' : y.1 = j := hye
      subst hye'
      have htb := tbl_listed hT hc (y.1 + 1) y.1 _ (Nat.lt_succ_self _) ho hdeps
      have hcl := pull (P := P) (Q := Q) (x :: r) tbl a w y hy hsel hP hn (fun z hz hin' => by
        have hzl := (hin z.1 (hlt z hz)).2 (List.mem_map.2 ⟨z, hz, rfl⟩)
        rw [htb z.1 hin'] at hzl
        cases hzl) h
      refine wpOp_mono (fun a' w' hh => ?_) (wpOp_of_clause (Q := Q) hcl)
      have hget : ∀ i, (listed.setIfInBounds y.1 true).getD i false = if i = y.1 then true else listed.getD i false := by
        intro i
        simp only [Array.getD_eq_getD_getElem?, Array.getElem?_setIfInBounds]
        by_cases e : y.1 = i
        · subst e; simp [show y.1 < listed.size by omega]
        · simp [e, show ¬ i = y.1 from fun h => e h.symm]
      have hlen : ((x :: r).filter (·.1 != y.1)).length = m := by
        have := filter_len (x :: r) y hy hn
        omega
      refine ih _ _ a' w' hlen (by simpa using hs) (fun z hz => hlt z (List.mem_filter.1 hz).1) (fun i hi => ?_) (List.Nodup.sublist (List.Sublist.map _ (List.filter_sublist)) hn) (fun i o hoi hil e he hbd => ?_) (List.Pairwise.sublist List.filter_sublist hP) hh
      · rw [hget]
        by_cases e : i = y.1
        · subst e
          simp only [if_true]
          constructor
          · intro h; cases h
          · intro h
            obtain ⟨z, hz, hz1⟩ := List.mem_map.1 h
            have := (List.mem_filter.1 hz).2
            simp [hz1] at this
        · rw [if_neg e, hin i hi]
          constructor
          · intro h
            obtain ⟨z, hz, hz1⟩ := List.mem_map.1 h
            exact List.mem_map.2 ⟨z, List.mem_filter.2 ⟨hz, by simp [hz1, e]⟩, hz1⟩
          · intro h
            obtain ⟨z, hz, hz1⟩ := List.mem_map.1 h
            exact List.mem_map.2 ⟨z, (List.mem_filter.1 hz).1, hz1⟩
      · rw [hget] at hil ⊢
        split
        · rfl
        · by_cases e' : i = y.1
          · subst e'
            rw [ho] at hoi
            cases hoi
            exact hdeps e he hbd
          · rw [if_neg e'] at hil
            exact hc i o hoi hil e he hbd

def mixB (ops : Array Oper) (tbl : Array (List Nat)) (L : List (Nat × Nat)) : Bool :=
  Region.noSelect ops && tblB ops tbl && decide (L.length = ops.size) && (L.all fun x => decide (x.1 < ops.size)) && ((List.range ops.size).all fun i => (L.map (·.1)).contains i) && decide (L.map (·.1)).Nodup &&
  ((List.range ops.size).all fun i => ((ops[i]?).map (·.after.all fun e => !Region.binds .any e || decide (e.on < i))).getD false) && decide (L.Pairwise fun x y => pairB ops tbl x y = true)

/-- The walk through a region that draws its order. -/
theorem wp_region_mix {id : Nat} {l : List Oper} {a : Act} {w : World} (tbl : Array (List Nat)) (L : List (Nat × Nat)) (hm : P.follows .mixedOrders = true) (hB : mixB l.toArray tbl L = true)
    (h : wpMix P l.toArray Q L a w.drew) : (Code.region id l.toArray true).wp P Q a w := by
  simp only [mixB, Bool.and_eq_true, decide_eq_true_eq, List.all_eq_true, List.mem_range, List.contains_iff_mem] at hB
  obtain ⟨⟨⟨⟨⟨⟨⟨h1, h2⟩, h3⟩, h4⟩, h5⟩, h6⟩, h7⟩, h8⟩ := hB
  refine wp_region_any hm (mix_any (tbl := tbl) h2 (Region.noSelect_spec h1) (fun i o ho e he hb => ?_) _ L _ a _ h3 (by simp) h4 (fun i hi => ?_) h6 (fun i o ho hil => ?_) h8 h)
  · have hi : i < l.toArray.size := (Array.getElem?_eq_some_iff.1 ho).1
    have := h7 i hi
    simp only [ho, Option.map_some, Option.getD_some, Array.all_eq_true'] at this
    have := this e he
    simpa [hb] using this
  · have := getD_replicate_false l.toArray.size i
    rw [this]
    exact ⟨fun _ => h5 i hi, fun _ => rfl⟩
  · rw [getD_replicate_false l.toArray.size i] at hil
    cases hil
end
end Om
