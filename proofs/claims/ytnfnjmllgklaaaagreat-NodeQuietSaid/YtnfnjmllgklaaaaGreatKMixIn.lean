/- XMix's law in a round of a wide fence. -/
import Derived.Test.YtnfnjmllgklaaaaGreatKMix
import Derived.OrdersIn
import Derived.RangeFuncCalls
set_option linter.unusedVariables false
set_option linter.unusedSimpArgs false
namespace Om
open Go Go.RowKit
section
variable {lp n : Nat} {P : Program} {ops : Array Oper} {Q : Exit → Act → World → Prop}
theorem inRound_of_wp {o : Oper} {a : Act} {w : World} {K : Act → World → Prop} {Q : Exit → Act → World → Prop} (hnd : ∀ c, o.op ≠ .defer c) (h : o.wp P a w K Q) : o.wpIn (Fence.wide.inRound lp) n P a w K Q := by
  refine ⟨fun _ _ => trivial, ?_⟩
  rw [Oper.semAt_eq _ _ _ hnd]
  unfold Oper.wp at h
  generalize (execOp a.eval o).run P w = r at h ⊢
  cases r with
  | ok x w' =>
    cases x with
    | value v => exact h
    | skip => exact h
    | defer d => exact h
    | enter f args => exact ⟨fun hd => Bool.noConfusion (show false = true from hd), (CallsIn.inRound lp (callsIn_wide.2 h)).mono fun e w'' hh => by cases e <;> exact hh⟩
    | row row args => exact ⟨fun hd => Bool.noConfusion (show false = true from hd), fun c cs _ => let ⟨v, w', r, s⟩ := h c cs; ⟨v, w', r, stepsIn_wide.2 s⟩⟩
    | _ => exact h.elim
  | halt x w' =>
    cases x with
    | panic v => exact h
    | _ => exact h.elim
theorem inOp_of_clause {x : Nat × Nat} {K K' : Act → World → Prop} {a : Act} {w : World} (hnd : ∀ (i : Nat) (o : Oper), ops[i]? = some o → ∀ c, o.op ≠ .defer c) (hK : ∀ a w, K a w → K' a w) (h : clause P ops x K a w) : wpOpIn (Fence.wide.inRound lp) n P ops Q x.1 K' a w := by
  unfold clause at h
  unfold wpOpIn
  cases ho : ops[x.1]? with
  | none => simp [ho] at h
  | some o =>
    simp only [ho] at h ⊢
    by_cases hx : x.2 ≤ 1
    · rw [if_pos hx] at h
      split
      · rename_i hw
        rw [if_pos hw] at h
        obtain ⟨v, hv, hK1⟩ := h
        refine inRound_of_wp (hnd _ _ ho) ?_
        have := tame_steady hv #[] w.drawn
        rw [ext_self] at this
        unfold Oper.wp
        rw [this]
        exact hK _ _ hK1
      · rename_i hw
        rw [if_neg hw] at h
        exact ⟨fun _ _ => trivial, hK _ _ h⟩
    · rw [if_neg hx] at h
      simp only [wpList] at h
      split
      · rename_i hw
        rw [if_pos hw] at h
        rcases h with h | ⟨_, _, _, hq⟩
        · refine inRound_of_wp (hnd _ _ ho) ?_
          unfold Oper.wp at h ⊢
          exact upon_only (dst := none) (v := undef) (fun d hd => by cases hd) (fun u w' ds hN => hK _ _ hN.2) h
        · exact hq.elim
      · rename_i hw
        rw [if_neg hw] at h
        exact ⟨fun _ _ => trivial, hK _ _ h.2⟩
theorem mix_anyIn (hnd : ∀ (i : Nat) (o : Oper), ops[i]? = some o → ∀ c, o.op ≠ .defer c) {tbl : Array (List Nat)} (hT : tblB ops tbl = true) (hsel : ∀ (i : Nat) (o : Oper) cs b, ops[i]? = some o → o.op ≠ .select cs b) (hlow : ∀ (i : Nat) (o : Oper), ops[i]? = some o → ∀ e ∈ o.after, Region.binds .any e = true → e.on < i) :
    ∀ (m : Nat) (L : List (Nat × Nat)) (listed : Array Bool) (a : Act) (w : World), L.length = m → listed.size = ops.size → (∀ x ∈ L, x.1 < ops.size) → (∀ i, i < ops.size → (listed.getD i false = false ↔ i ∈ L.map (·.1))) → (L.map (·.1)).Nodup → Closed ops listed →
      L.Pairwise (fun x y => pairB ops tbl x y = true) → wpMix P ops Q L a w → wpAnyIn (Fence.wide.inRound lp) n P .any ops Q m listed a w := by
  have both : ∀ (listed : Array Bool), listed.size = ops.size → ∀ i, i < ops.size → listed.getD i true = listed.getD i false := by
    intro listed hs i hi
    simp [Array.getD_eq_getD_getElem?, Array.getElem?_eq_getElem (show i < listed.size by omega)]
  intro m
  induction m with
  | zero =>
    intro L listed a w hL hs hlt hin hn hc hP h
    obtain rfl : L = [] := List.eq_nil_of_length_eq_zero hL
    refine ⟨?_, h⟩
    refine List.filter_eq_nil_iff.2 fun i hi => ?_
    have hi' := List.mem_range.1 hi
    have : listed.getD i false = true := by
      cases hb : listed.getD i false with
      | true => rfl
      | false => have := (hin i hi').1 hb; simp at this
    rw [both listed hs i hi', this]
    simp
  | succ m ih =>
    intro L listed a w hL hs hlt hin hn hc hP h
    obtain ⟨x, r, rfl⟩ := List.exists_cons_of_length_eq_add_one hL
    constructor
    · intro h0
      exfalso
      have hx := hlt x List.mem_cons_self
      have hxl : listed.getD x.1 false = false := (hin x.1 hx).2 (by simp)
      have hm : x.1 ∈ Region.ready .any ops listed := by
        refine List.mem_filter.2 ⟨List.mem_range.2 hx, ?_⟩
        rw [both listed hs _ hx, hxl]
        simp only [Bool.not_false, Bool.true_and]
        have ho : ops[x.1]? = some ops[x.1] := Array.getElem?_eq_getElem hx
        simp only [ho, Option.map_some, Option.getD_some, Array.all_eq_true']
        intro e he
        simp only [Bool.or_eq_true, Bool.not_eq_true']
        by_cases hb : Region.binds .any e = true
        · right
          have hlow' := hlow _ _ ho e he hb
          cases hle : listed.getD e.on false with
          | true => rfl
          | false =>
            exfalso
            have hin' := (hin e.on (by omega)).1 hle
            simp only [List.map_cons, List.mem_cons, List.mem_map] at hin'
            rcases hin' with e' | ⟨y, hy, hye⟩
            · omega
            · have hp := (List.pairwise_cons.1 hP).1 y hy
              have hoy : ops[y.1]? = some (ops[y.1]'(hlt y (List.mem_cons_of_mem _ hy))) := Array.getElem?_eq_getElem _
              simp only [pairB, ho, hoy, Bool.and_eq_true, Array.all_eq_true'] at hp
              have := hp.2 e he
              simp [hb, hye] at this
        · left; simpa using hb
      rw [h0] at hm
      cases hm
    · intro j hj
      have hj' := List.mem_filter.1 hj
      have hjs := List.mem_range.1 hj'.1
      have hb := hj'.2
      simp only [Bool.and_eq_true, Bool.not_eq_true'] at hb
      have hjl : listed.getD j false = false := by rw [← both listed hs j hjs]; exact hb.1
      have ho : ops[j]? = some ops[j] := Array.getElem?_eq_getElem hjs
      have hdeps : ∀ e ∈ (ops[j]).after, Region.binds .any e = true → listed.getD e.on false = true := by
        intro e he hbd
        have := hb.2
        simp only [ho, Option.map_some, Option.getD_some, Array.all_eq_true'] at this
        have := this e he
        simpa [hbd] using this
      obtain ⟨y, hy, hye⟩ := List.mem_map.1 ((hin j hjs).1 hjl)
      have hye' : y.1 = j := hye
      subst hye'
      have htb := tbl_listed hT hc (y.1 + 1) y.1 _ (Nat.lt_succ_self _) ho hdeps
      have hcl := pull (P := P) (Q := Q) (x :: r) tbl a w y hy hsel hP hn (fun z hz hin' => by
        have hzl := (hin z.1 (hlt z hz)).2 (List.mem_map.2 ⟨z, hz, rfl⟩)
        rw [htb z.1 hin'] at hzl
        cases hzl) h
      refine inOp_of_clause hnd (fun a' w' hh => ?_) hcl
      have hget : ∀ i, (listed.setIfInBounds y.1 true).getD i false = if i = y.1 then true else listed.getD i false := by
        intro i
        simp only [Array.getD_eq_getD_getElem?, Array.getElem?_setIfInBounds]
        by_cases e : y.1 = i
        · subst e; simp [show y.1 < listed.size by omega]
        · simp [e, show ¬ i = y.1 from fun h => e h.symm]
      have hlen : ((x :: r).filter (·.1 != y.1)).length = m := by
        have := filter_len (x :: r) y hy hn
        omega
      refine ih _ _ a' w' hlen (by simpa using hs) (fun z hz => hlt z (List.mem_filter.1 hz).1) (fun i hi => ?_) (List.Nodup.sublist (List.Sublist.map _ (List.filter_sublist)) hn) (fun i o hoi hil e he hbd => ?_) (List.Pairwise.sublist List.filter_sublist hP) hh
      · rw [hget]
        by_cases e : i = y.1
        · subst e
          simp only [if_true]
          constructor
          · intro h; cases h
          · intro h
            obtain ⟨z, hz, hz1⟩ := List.mem_map.1 h
            have := (List.mem_filter.1 hz).2
            simp [hz1] at this
        · rw [if_neg e, hin i hi]
          constructor
          · intro h
            obtain ⟨z, hz, hz1⟩ := List.mem_map.1 h
            exact List.mem_map.2 ⟨z, List.mem_filter.2 ⟨hz, by simp [hz1, e]⟩, hz1⟩
          · intro h
            obtain ⟨z, hz, hz1⟩ := List.mem_map.1 h
            exact List.mem_map.2 ⟨z, (List.mem_filter.1 hz).1, hz1⟩
      · rw [hget] at hil ⊢
        split
        · rfl
        · by_cases e' : i = y.1
          · subst e'
            rw [ho] at hoi
            cases hoi
            exact hdeps e he hbd
          · rw [if_neg e'] at hil
            exact hc i o hoi hil e he hbd

def noDefer (ops : Array Oper) : Bool := ops.all fun o => match o.op with | .defer _ => false | _ => true
theorem noDefer_spec (h : noDefer ops = true) (i : Nat) (o : Oper) (ho : ops[i]? = some o) (c) : o.op ≠ .defer c := by
  intro e
  have h' := (Array.all_eq_true_iff_forall_mem.1 h) o (Array.mem_of_getElem? ho)
  rw [e] at h'
  cases h'
/-- The walk through a region that draws its order, in a round. -/
theorem wpIn_region_mix {id : Nat} {l : List Oper} {a : Act} {w : World} (tbl : Array (List Nat)) (L : List (Nat × Nat)) (hm : P.follows .mixedOrders = true) (hB : (mixB l.toArray tbl L && noDefer l.toArray) = true)
    (h : wpMix P l.toArray Q L a w.drew) : (Code.region id l.toArray true).wpIn (Fence.wide.inRound lp) n P Q a w := by
  rw [Bool.and_eq_true] at hB
  obtain ⟨hB, hnd⟩ := hB
  simp only [mixB, Bool.and_eq_true, decide_eq_true_eq, List.all_eq_true, List.mem_range, List.contains_iff_mem] at hB
  obtain ⟨⟨⟨⟨⟨⟨⟨h1, h2⟩, h3⟩, h4⟩, h5⟩, h6⟩, h7⟩, h8⟩ := hB
  refine wpIn_region_any hm (mix_anyIn (noDefer_spec hnd) (tbl := tbl) h2 (Region.noSelect_spec h1) (fun i o ho e he hb => ?_) _ L _ a _ h3 (by simp) h4 (fun i hi => ?_) h6 (fun i o ho hil => ?_) h8 h)
  · have hi : i < l.toArray.size := (Array.getElem?_eq_some_iff.1 ho).1
    have := h7 i hi
    simp only [ho, Option.map_some, Option.getD_some, Array.all_eq_true'] at this
    have := this e he
    simpa [hb] using this
  · have := getD_replicate_false l.toArray.size i
    rw [this]
    exact ⟨fun _ => h5 i hi, fun _ => rfl⟩
  · rw [getD_replicate_false l.toArray.size i] at hil
    cases hil
end
end Om
