/- A machine's bounds: what holds of it whatever bits come; what is done is a frame that may be. -/
import Derived.Test.YtnfnjmllgklaaaaGreatKScanP
set_option linter.unusedVariables false
set_option linter.unusedSimpArgs false
namespace Om

/-! ### what fixed stuffing tells has the length that was asked for -/
theorem fixGet_form (ev : Nat) (hev : 1 ≤ ev) : ∀ (raw : List Bool) (last : Bool) (left : Nat) (f : Bool) (l : List Bool) (g : Bool), left ≤ ev → fixGetGo ev last left f raw = some (l, g) →
    (raw = [] ∧ l = [] ∧ g = f) ∨ (raw ≠ [] ∧ g = false ∧ raw.length = l.length + (l.length + ev - 1 - left) / ev ∧ 1 ≤ l.length) ∨ (raw ≠ [] ∧ g = true ∧ raw.length = l.length + (l.length + ev - 1 - left) / ev + 1 ∧ left ≤ l.length ∧ (l.length - left) % ev = 0)
  | [], last, left, f, l, g, _, h => by
    simp only [fixGetGo, Option.some.injEq, Prod.mk.injEq] at h
    exact .inl ⟨rfl, h.1.symm, h.2.symm⟩
  | b :: r, last, left, f, l, g, hl, h => by
    right
    by_cases h0 : left = 0
    · subst h0
      simp only [fixGetGo, if_true] at h
      by_cases hb : b = !last
      · rw [if_pos hb] at h
        rcases fixGet_form ev hev r b ev true l g (Nat.le_refl _) h with ⟨rfl, rfl, rfl⟩ | ⟨hr, rfl, hn, h1⟩ | ⟨hr, rfl, hn, h1, h2⟩
        · right
          refine ⟨by simp, rfl, ?_, Nat.zero_le _, by simp⟩
          simp only [List.length_cons, List.length_nil, Nat.zero_add]
          rw [Nat.div_eq_of_lt (by omega)]
        · left
          refine ⟨by simp, rfl, ?_, h1⟩
          rw [List.length_cons, hn, show l.length + ev - 1 - ev = l.length - 1 by omega, show l.length + ev - 1 - 0 = l.length - 1 + ev by omega, Nat.add_div_right _ (by omega)]
          omega
        · right
          refine ⟨by simp, rfl, ?_, Nat.zero_le _, ?_⟩
          · rw [List.length_cons, hn, show l.length + ev - 1 - ev = l.length - 1 by omega, show l.length + ev - 1 - 0 = l.length - 1 + ev by omega, Nat.add_div_right _ (by omega)]
            omega
          · have := Nat.add_mod_right (l.length - ev) ev
            rw [show l.length - ev + ev = l.length by omega] at this
            rw [Nat.sub_zero, this, h2]
      · rw [if_neg hb] at h
        cases h
    · simp only [fixGetGo] at h
      rw [if_neg h0] at h
      obtain ⟨x, hx, he⟩ := Option.map_eq_some_iff.1 h
      obtain ⟨l', g'⟩ := x
      simp only [Prod.mk.injEq] at he
      obtain ⟨rfl, rfl⟩ := he
      rcases fixGet_form ev hev r b (left - 1) false l' g' (by omega) hx with ⟨rfl, rfl, rfl⟩ | ⟨hr, rfl, hn, h1⟩ | ⟨hr, rfl, hn, h1, h2⟩
      · left
        refine ⟨by simp, rfl, ?_, by simp⟩
        simp only [List.length_cons, List.length_nil, Nat.zero_add]
        rw [Nat.div_eq_of_lt (by omega)]
      · left
        refine ⟨by simp, rfl, ?_, by simp⟩
        rw [List.length_cons, hn, List.length_cons, show l'.length + ev - 1 - (left - 1) = l'.length + 1 + ev - 1 - left by omega]
        omega
      · right
        refine ⟨by simp, rfl, ?_, by simp; omega, ?_⟩
        · rw [List.length_cons, hn, List.length_cons, show l'.length + ev - 1 - (left - 1) = l'.length + 1 + ev - 1 - left by omega]
          omega
        · rw [List.length_cons, show l'.length + 1 - left = l'.length - (left - 1) by omega]; exact h2
theorem fixSize_eq (n : Nat) (w : Way) (hn : 1 ≤ n) (hev : 1 ≤ w.every) : fixSize n w = n + (n + w.every - 1 - w.left) / w.every := by
  unfold fixSize Way.left
  rw [if_neg (by omega)]
  cases w.ahead
  · simp only [Bool.false_eq_true, if_false]
    rw [show n + w.every - 1 - w.every = n - 1 by omega]
    omega
  · simp only [if_true]
    rw [show n + w.every - 1 - 0 = n - 1 + w.every by omega, Nat.add_div_right _ (by omega)]
    omega
theorem fixGet_size {prev : Bool} {own l : List Bool} {g : Bool} {w : Way} {n : Nat} (hev : 1 ≤ w.every) (hn : 1 ≤ n) (h : fixGet prev own w = some (l, g)) (hl : own.length = fixSize n w) : g = false ∧ l.length = n := by
  have hle : w.left ≤ w.every := by unfold Way.left; split <;> omega
  rw [fixSize_eq n w hn hev] at hl
  generalize hL : w.left = left at *
  generalize hE : w.every = ev at *
  have hmono : ∀ a b, a ≤ b → (a + ev - 1 - left) / ev ≤ (b + ev - 1 - left) / ev := fun a b hab => Nat.div_le_div_right (by omega)
  unfold fixGet at h
  rw [hL, hE] at h
  rcases fixGet_form ev hev own prev left false l g hle h with ⟨rfl, _, _⟩ | ⟨_, rfl, hm, _⟩ | ⟨_, rfl, hm, h1, h2⟩
  · have hp : 0 < n + (n + ev - 1 - left) / ev := Nat.add_pos_left hn _
    rw [← hl] at hp; simp at hp
  · refine ⟨rfl, ?_⟩
    rcases Nat.lt_trichotomy l.length n with hlt | he | hgt
    · have := hmono _ _ (Nat.le_of_lt hlt); omega
    · exact he
    · have := hmono _ _ (Nat.le_of_lt hgt); omega
  · exfalso
    have hq := Nat.div_add_mod (l.length - left) ev
    rw [h2, Nat.add_zero] at hq
    generalize hQ : (l.length - left) / ev = q at hq
    have hd : (l.length + ev - 1 - left) / ev = q := by
      rw [show l.length + ev - 1 - left = (ev - 1) + ev * q by omega, Nat.add_mul_div_left _ _ (by omega), Nat.div_eq_of_lt (by omega)]
      omega
    have hd1 : (l.length + 1 + ev - 1 - left) / ev = q + 1 := by
      rw [show l.length + 1 + ev - 1 - left = 0 + ev * (q + 1) by rw [Nat.mul_add]; omega, Nat.add_mul_div_left _ _ (by omega)]
      simp
    rcases Nat.lt_or_ge l.length n with hlt | hge
    · have := hmono _ _ (Nat.succ_le_of_lt hlt)
      simp only [Nat.succ_eq_add_one] at this
      omega
    · have := hmono _ _ hge; omega

/-! ### frames so far -/
structure Frame.C (f : Frame) : Prop where
  kind : f.kind = 1
  id : f.id < (if f.ext then 536870912 else 2048)
  brs : f.brs = false
  esi : f.esi = false
  sec : f.sec = false
  sdt : f.sdt = 0
  vcid : f.vcid = 0
  af : f.af = 0
structure Frame.F (f : Frame) : Prop where
  kind : f.kind = 2
  id : f.id < 2048
  ext : f.ext = false
  rtr : f.rtr = false
  sec : f.sec = false
  sdt : f.sdt = 0
  vcid : f.vcid = 0
  af : f.af = 0
structure Frame.X (f : Frame) : Prop where
  kind : f.kind = 3
  id : f.id < 2048
  ext : f.ext = false
  rtr : f.rtr = false
  brs : f.brs = false
  esi : f.esi = false
theorem Frame.C.ok {f : Frame} (h : f.C) (hn : f.data.length ≤ 8) (hr : f.data.length = 0 ∨ f.rtr = false) : f.ok = true := by
  obtain ⟨h1, h2, h3, h4, h5, h6, h7, h8⟩ := h
  have hd : (f.rtr && !f.data.isEmpty) = false := by
    rcases hr with h | h
    · rw [List.length_eq_zero_iff] at h; simp [h]
    · simp [h]
  simp only [Frame.ok, h1, if_true, h3, h4, h5, h6, h7, h8, hd, codeOf, hn, h2, decide_true]
  rfl
theorem Frame.F.ok {f : Frame} (h : f.F) (hn : f.data.length ∈ fdSizes) : f.ok = true := by
  obtain ⟨h1, h2, h3, h4, h5, h6, h7, h8⟩ := h
  have hc : (codeOf 2 f.data.length).isSome = true := by
    show (fdSizes.idxOf? f.data.length).isSome = true
    rw [Option.isSome_iff_ne_none]
    intro e
    exact (List.idxOf?_eq_none_iff.1 e) hn
  simp only [Frame.ok, h1, h3, h4, h5, h6, h7, h8, hc, Bool.false_eq_true, if_false, h2, decide_true]
  rfl
theorem Frame.X.ok {f : Frame} (h : f.X) (h1' : 1 ≤ f.data.length) (hn : f.data.length ≤ 2048) : f.ok = true := by
  obtain ⟨h1, h2, h3, h4, h5, h6⟩ := h
  have hc : (codeOf 3 f.data.length).isSome = true := by simp [codeOf, h1', hn]
  simp only [Frame.ok, h1, h3, h4, h5, h6, hc, Bool.false_eq_true, if_false, h2, decide_true]
  rfl

theorem p_num_lt (l : List Bool) : num l < 2 ^ l.length := by
  induction l with
  | nil => simp [num]
  | cons b r ih => rw [p_num_cons, List.length_cons, Nat.pow_succ]; cases b <;> simp <;> omega
theorem p_num_le (l : List Bool) (n : Nat) (h : l.length ≤ n) : num l < 2 ^ n := Nat.lt_of_lt_of_le (p_num_lt l) (Nat.pow_le_pow_right (by decide) h)
theorem p_pack_length : ∀ (n : Nat) (l : List Bool), l.length = 8 * n → (pack l).length = n
  | 0, l, h => by rw [List.eq_nil_of_length_eq_zero h]; rfl
  | n + 1, l, h => by
    match l, h with
    | a :: b :: c :: d :: e :: f :: g :: i :: r, h =>
      simp only [pack, List.length_cons]
      rw [p_pack_length n r (by simp only [List.length_cons] at h; omega)]

/-! ### a machine's bounds -/
def NxOk (m : M) : Nx → Prop
  | .start => m.need = 1
  | .ident => m.need = 14
  | .extended => m.need = 34 ∧ m.f.C ∧ m.f.ext = false ∧ m.f.data = []
  | .reserved => m.need = 35 ∧ m.f.C ∧ m.f.data = []
  | .format => m.need = 15 ∧ m.f.C ∧ m.f.ext = false ∧ m.f.data = []
  | .newer => m.need = 16 ∧ m.f.C ∧ m.f.ext = false ∧ m.f.rtr = false ∧ m.f.data = []
  | .code => (m.need = 19 ∨ m.need = 39) ∧ m.f.C ∧ m.f.data = []
  | .codeEnd a n => m.need = a + 8 * n + 15 ∧ n ≤ 8 ∧ (a = 19 ∨ a = 39) ∧ (n = 0 ∨ m.f.rtr = false) ∧ m.f.C ∧ m.f.data = []
  | .fdCode => m.need = 22 ∧ m.f.F ∧ m.f.data = []
  | .fdData s => m.need = 22 + 8 * s ∧ s ∈ fdSizes ∧ s ≠ 0 ∧ m.f.F ∧ m.f.data = []
  | .xlHead => m.need = 17 ∧ m.f.X ∧ m.f.data = []
def RawOk (m : M) : Prop := m.raw.length ≤ 2 * m.l.length ∧ (full5 m.raw = true → m.raw.length < 2 * m.l.length)
def PkOk (m : M) (w : Way) (size : Nat) : PK → Prop
  | .fdSum kind => w = ⟨4, true⟩ ∧ (kind = 2 ∨ kind = 3) ∧ size = fixSize (4 + crcSize kind) w ∧ m.f.F ∧ m.f.data.length ∈ fdSizes ∧ m.raw.length ≤ 1068 ∧ m.raw ≠ []
  | .xlCode => w = ⟨8, false⟩ ∧ size = 22 ∧ m.f.X ∧ m.raw.length ≤ 34 ∧ m.l.length = 17 ∧ m.raw ≠ [] ∧ m.f.data = []
  | .xlData n => w = ⟨8, false⟩ ∧ size = fixSize (109 + 8 * n) w ∧ 1 ≤ n ∧ n ≤ 2048 ∧ m.f.X ∧ m.raw.length ≤ 34 ∧ m.l.length = 17 ∧ m.f.data = []
def MkOk (m : M) : MK → Prop
  | .xlCode => m.own = [] ∧ m.f.X ∧ m.raw.length ≤ 34 ∧ m.l.length = 17 ∧ m.raw ≠ [] ∧ m.f.data = []
  | .fin => m.f.ok = true
def StpOk (m : M) : Stp → Prop
  | .dyn => NxOk m m.next ∧ m.l.length < m.need ∧ m.own = [] ∧ RawOk m
  | .part w size _ k => m.own.length < size ∧ PkOk m w size k
  | .mark row k => row.length = 4 ∧ m.at_ < 4 ∧ MkOk m k
  | .last => m.at_ < 9 ∧ m.f.ok = true
structure M.Ok (m : M) : Prop where
  step : m.st.kind < 2 → StpOk m m.step
  done : m.st.kind = 2 → m.st.f.ok = true
  idle : m.st.kind ≠ 2 → m.st.f = Frame.zero
  kind : m.st.kind ≤ 4
  err : m.st.err ≤ 10
  typed : m.f.Typed
  stT : m.st.f.Typed
  id : m.f.id < 536870912
  stI : m.st.f.id < 536870912
theorem zero_typed : Frame.zero.Typed := ⟨by decide, by decide, by decide⟩
theorem M.Ok.new (xl : Bool) : (M.new xl).Ok :=
  ⟨fun _ => ⟨rfl, (by show 0 < 1; decide), rfl, (by show 0 ≤ 0; decide), (fun h => by cases h)⟩, fun h => (by cases h), fun _ => rfl, Nat.zero_le _, Nat.zero_le _, zero_typed, zero_typed, (by show 0 < 536870912; decide), (by show 0 < 536870912; decide)⟩
theorem M.Ok.badOf {m : M} (ht : m.f.Typed) (hi : m.f.id < 536870912) (e : Nat) (he : e ≤ 10) : (m.bad e).Ok :=
  ⟨fun h => (by simp [M.bad] at h), fun h => (by simp [M.bad] at h), fun _ => rfl, by simp [M.bad], he, ht, zero_typed, hi, by simp [M.bad, Frame.zero]⟩
end Om

/- A machine's bounds are kept by each bit. -/
namespace Om

theorem fixSize_ge (n : Nat) (w : Way) : n ≤ fixSize n w := by
  unfold fixSize
  split
  · omega
  · exact Nat.le_trans (Nat.le_add_right _ _) (Nat.le_add_right _ _)
theorem full5_snoc (raw : List Bool) (b : Bool) (h : full5 (raw ++ [b]) = true) : b = raw.getLastD false := by
  have h1 := p_full5R (raw ++ [b]).reverse
  rw [List.reverse_reverse, h, List.reverse_append] at h1
  simp only [List.reverse_cons, List.reverse_nil, List.nil_append, List.cons_append] at h1
  have h2 := of_decide_eq_true h1.symm
  rw [p_sstR_run] at h2
  cases hr : raw.reverse with
  | nil => rw [hr] at h2; simp at h2
  | cons c r =>
    rw [hr] at h2
    by_cases e : c = b
    · have : raw = r.reverse ++ [c] := by rw [← List.reverse_reverse raw, hr]; simp
      rw [this, e]; simp
    · rw [if_neg (by simpa using e)] at h2; omega

/-- What stays while bits are asked for. -/
structure M.Base (m : M) : Prop where
  step : m.step = .dyn
  kind : m.st.kind < 2
  stf : m.st.f = Frame.zero
  err : m.st.err ≤ 10
  own : m.own = []
  raw : RawOk m
  typed : m.f.Typed
  id : m.f.id < 536870912
theorem M.Base.ask {m : M} (h : m.Base) (n : Nat) (k : Nx) (hk : NxOk (m.ask n k) k) (hn : m.l.length < n) : (m.ask n k).Ok :=
  ⟨fun _ => by show StpOk _ m.step; rw [h.step]; exact ⟨hk, hn, h.own, h.raw⟩, fun e => by have := h.kind; have e' : m.st.kind = 2 := e; omega, fun _ => h.stf, by have := h.kind; show m.st.kind ≤ 4; omega, h.err, h.typed,
    by show m.st.f.Typed; rw [h.stf]; exact zero_typed, h.id, by show m.st.f.id < _; rw [h.stf]; decide⟩
theorem M.Base.bad {m : M} (h : m.Base) (e : Nat) (he : e ≤ 10) : (m.bad e).Ok := M.Ok.badOf h.typed h.id e he
theorem M.Base.withF {m : M} (h : m.Base) (f : Frame) (ht : f.Typed) (hi : f.id < 536870912) : ({ m with f := f } : M).Base := ⟨h.step, h.kind, h.stf, h.err, h.own, h.raw, ht, hi⟩
theorem typed_of_C {f : Frame} (h : f.C) : f.Typed := ⟨by rw [h.sdt]; decide, by rw [h.vcid]; decide, by rw [h.af]; decide⟩
theorem id_of_C {f : Frame} (h : f.C) : f.id < 536870912 := by have := h.id; split at this <;> omega
theorem M.number_lt (m : M) (a b : Nat) : m.number a b < 2 ^ (b - a) := p_num_le _ _ (by simp; omega)

/-- The machine behind a change that keeps its status. -/
theorem okOf {m m' : M} (h0 : m.st.kind < 2) (hst : m'.st = m.st) (hz : m.st.f = Frame.zero) (he : m.st.err ≤ 10) (hs : StpOk m' m'.step) (ht : m'.f.Typed) (hi : m'.f.id < 536870912) : m'.Ok :=
  ⟨fun _ => hs, fun e => by rw [hst] at e; omega, fun _ => by rw [hst]; exact hz, by rw [hst]; omega, by rw [hst]; exact he, ht, by rw [hst, hz]; exact zero_typed, hi, by rw [hst, hz]; decide⟩

theorem fdSizes_mem (x : Nat) (h : x < 16) : fdSizes.getD x 0 ∈ fdSizes := by
  have : ∀ x, x < 16 → fdSizes.getD x 0 ∈ fdSizes := by decide
  exact this x h
theorem fdSizes_le (s : Nat) (h : s ∈ fdSizes) : s ≤ 64 := by
  have : ∀ s ∈ fdSizes, s ≤ 64 := by decide
  exact this s h
theorem fdData_ok (m : M) (s : Nat) (hs : s ∈ fdSizes) (h : m.Base) (hl : m.l.length = 22 + 8 * s) (hf : m.f.F) (hr : m.raw ≠ []) : (m.fdData s).Ok := by
  have h64 := fdSizes_le s hs
  refine okOf (m := m) h.kind rfl h.stf h.err ?_ ⟨h.typed.1, h.typed.2, h.typed.3⟩ h.id
  show _ < fixSize _ _ ∧ _
  refine ⟨?_, rfl, ?_, rfl, ?_, ?_, ?_, hr⟩
  · show m.own.length < _
    rw [h.own]
    have : fSumKind s = 2 ∨ fSumKind s = 3 := by unfold fSumKind; split <;> simp
    rcases this with e | e <;> rw [e] <;> decide
  · show fSumKind s = 2 ∨ fSumKind s = 3
    unfold fSumKind; split <;> simp
  · exact ⟨hf.kind, hf.id, hf.ext, hf.rtr, hf.sec, hf.sdt, hf.vcid, hf.af⟩
  · show (pack (m.l.drop 22)).length ∈ fdSizes
    rw [p_pack_length s _ (by rw [List.length_drop]; omega)]
    exact hs
  · show m.raw.length ≤ 1068
    have := h.raw.1
    omega

theorem nexts_ok (m : M) (hN : NxOk m m.next) (hl : m.l.length = m.need) (h : m.Base) (hr : m.raw ≠ []) : m.nexts.Ok := by
  unfold M.nexts
  cases hx : m.next with
  | start =>
    rw [hx] at hN
    simp only
    split
    · exact h.ask 14 .ident rfl (by rw [hl, hN]; decide)
    · exact h.bad 5 (by decide)
  | ident =>
    rw [hx] at hN
    simp only
    have hn : m.number 1 12 < 2048 := m.number_lt 1 12
    have hb := h.withF { Frame.zero with kind := 1, id := m.number 1 12, rtr := m.flag 12 } ⟨Nat.zero_lt_succ _, Nat.zero_lt_succ _, Nat.zero_lt_succ _⟩ (by show m.number 1 12 < _; omega)
    have hc : ({ Frame.zero with kind := 1, id := m.number 1 12, rtr := m.flag 12 } : Frame).C := ⟨rfl, hn, rfl, rfl, rfl, rfl, rfl, rfl⟩
    have hl14 : m.l.length = 14 := by rw [hl, hN]
    split
    · exact hb.ask 15 .format ⟨rfl, hc, rfl, rfl⟩ (by show m.l.length < _; omega)
    · split
      · exact hb.ask 34 .extended ⟨rfl, hc, rfl, rfl⟩ (by show m.l.length < _; omega)
      · exact M.Ok.badOf (by exact hb.typed) (by exact hb.id) 5 (by decide)
  | extended =>
    rw [hx] at hN
    obtain ⟨hn, hc, he, hd⟩ := hN
    simp only
    have hid : m.f.id < 2048 := by have := hc.id; rw [he] at this; simpa using this
    have hn18 : m.number 14 32 < 262144 := m.number_lt 14 32
    have hc' : ({ m.f with ext := true, rtr := m.flag 32, id := m.f.id * 262144 + m.number 14 32 } : Frame).C := ⟨hc.kind, by show m.f.id * 262144 + m.number 14 32 < 536870912; omega, hc.brs, hc.esi, hc.sec, hc.sdt, hc.vcid, hc.af⟩
    have hb := h.withF _ (typed_of_C hc') (id_of_C hc')
    split
    · exact hb.ask 35 .reserved ⟨rfl, hc', hd⟩ (by show m.l.length < _; omega)
    · exact M.Ok.badOf (by exact hb.typed) (by exact hb.id) 5 (by decide)
  | reserved =>
    rw [hx] at hN
    obtain ⟨hn, hc, hd⟩ := hN
    simp only
    split
    · exact h.ask 39 .code ⟨.inr rfl, hc, hd⟩ (by omega)
    · exact h.bad 5 (by decide)
  | format =>
    rw [hx] at hN
    obtain ⟨hn, hc, he, hd⟩ := hN
    simp only
    split
    · exact h.ask 19 .code ⟨.inl rfl, hc, hd⟩ (by omega)
    · split
      · rename_i hrt
        exact h.ask 16 .newer ⟨rfl, hc, he, hrt, hd⟩ (by omega)
      · exact h.bad 5 (by decide)
  | newer =>
    rw [hx] at hN
    obtain ⟨hn, hc, he, hrt, hd⟩ := hN
    simp only
    have hid : m.f.id < 2048 := by have := hc.id; rw [he] at this; simpa using this
    split
    · have hf : ({ m.f with kind := 2 } : Frame).F := ⟨rfl, hid, he, hrt, hc.sec, hc.sdt, hc.vcid, hc.af⟩
      exact (h.withF { m.f with kind := 2 } ⟨h.typed.1, h.typed.2, h.typed.3⟩ h.id).ask 22 .fdCode ⟨rfl, hf, hd⟩ (by show m.l.length < _; omega)
    · split
      · exact ⟨fun e => (by simp at e), fun e => (by simp at e), fun _ => rfl, by simp, by simp, h.typed, zero_typed, h.id, by simp [Frame.zero]⟩
      · have hf : ({ m.f with kind := 3 } : Frame).X := ⟨rfl, hid, he, hrt, hc.brs, hc.esi⟩
        exact (h.withF { m.f with kind := 3 } ⟨h.typed.1, h.typed.2, h.typed.3⟩ h.id).ask 17 .xlHead ⟨rfl, hf, hd⟩ (by show m.l.length < _; omega)
  | code =>
    rw [hx] at hN
    obtain ⟨hn, hc, hd⟩ := hN
    simp only [M.code]
    split
    · rename_i hc2
      refine h.ask _ (.codeEnd m.l.length (m.number (m.l.length - 4) m.l.length)) ⟨rfl, hc2.1, by omega, hc2.2, hc, hd⟩ (by omega)
    · exact h.bad 5 (by decide)
  | codeEnd a n =>
    rw [hx] at hN
    obtain ⟨hn, h8, ha, hrt, hc, hd⟩ := hN
    simp only [M.fin]
    have hpl : (pack ((m.l.take (a + 8 * n)).drop a)).length = n := p_pack_length n _ (by simp; omega)
    refine okOf (m := m) h.kind rfl h.stf h.err ?_ ⟨h.typed.1, h.typed.2, h.typed.3⟩ h.id
    refine ⟨Nat.zero_lt_succ _, ?_⟩
    refine Frame.C.ok ⟨hc.kind, hc.id, hc.brs, hc.esi, hc.sec, hc.sdt, hc.vcid, hc.af⟩ ?_ ?_
    · show (pack _).length ≤ 8; rw [hpl]; exact h8
    · show (pack _).length = 0 ∨ _; rw [hpl]; exact hrt
  | fdCode =>
    rw [hx] at hN
    obtain ⟨hn, hf, hd⟩ := hN
    simp only [M.fdCode]
    have hf' : ({ m.f with brs := m.flag 16, esi := m.flag 17 } : Frame).F := ⟨hf.kind, hf.id, hf.ext, hf.rtr, hf.sec, hf.sdt, hf.vcid, hf.af⟩
    have hb := h.withF { m.f with brs := m.flag 16, esi := m.flag 17 } ⟨h.typed.1, h.typed.2, h.typed.3⟩ h.id
    have hlt : m.number 18 22 < 16 := m.number_lt 18 22
    have hm := fdSizes_mem _ hlt
    split
    · exact fdData_ok _ 0 (by decide) hb (by show m.l.length = _; omega) hf' hr
    · rename_i hs0
      exact hb.ask _ (.fdData _) ⟨rfl, hm, hs0, hf', hd⟩ (by show m.l.length < _; omega)
  | fdData s =>
    rw [hx] at hN
    obtain ⟨hn, hs, _, hf, hd⟩ := hN
    exact fdData_ok m s hs h (by omega) hf hr
  | xlHead =>
    rw [hx] at hN
    obtain ⟨hn, hf, hd⟩ := hN
    simp only
    split
    · refine okOf (m := m) h.kind rfl h.stf h.err ?_ h.typed h.id
      exact ⟨rfl, Nat.zero_lt_succ _, h.own, ⟨hf.kind, hf.id, hf.ext, hf.rtr, hf.brs, hf.esi⟩, by have := h.raw.1; show m.raw.length ≤ 34; omega, by show m.l.length = 17; omega, hr, hd⟩
    · exact h.bad 5 (by decide)

theorem parted_ok (m : M) (w : Way) (size : Nat) (k : PK) (l : List Bool) (h0 : m.st.kind < 2) (hz : m.st.f = Frame.zero) (he : m.st.err ≤ 10) (ht : m.f.Typed) (hi : m.f.id < 536870912) (hk : PkOk m w size k) (ho : m.own.length = size)
    (hl : ∀ n, 1 ≤ n → size = fixSize n w → l.length = n) : (m.parted l k).Ok := by
  cases k with
  | fdSum kind =>
    obtain ⟨rfl, hk2, hs, hf, hd, _⟩ := hk
    exact okOf (m := m) h0 rfl hz he ⟨Nat.zero_lt_succ _, hf.ok hd⟩ ht hi
  | xlCode =>
    obtain ⟨rfl, rfl, hf, hr, hl17, hne, hd⟩ := hk
    have hl20 := hl 20 (by decide) (by decide)
    have hn := p_num_le (l.drop 9) 11 (by simp; omega)
    refine okOf (m := m) h0 rfl hz he ?_ ht hi
    refine ⟨?_, rfl, rfl, by omega, by omega, ⟨hf.kind, hf.id, hf.ext, hf.rtr, hf.brs, hf.esi⟩, hr, hl17, hd⟩
    show m.own.length < fixSize _ _
    rw [ho]
    have := fixSize_ge (109 + 8 * (num (l.drop 9) + 1)) ⟨8, false⟩
    omega
  | xlData n =>
    obtain ⟨rfl, hs, h1, h2, hf, hr, hl17, hd⟩ := hk
    have hln := hl (109 + 8 * n) (by omega) hs
    have hpl : (pack ((l.take (77 + 8 * n)).drop 77)).length = n := p_pack_length n _ (by simp; omega)
    refine okOf (m := m) h0 rfl hz he ?_ ?_ hi
    · refine ⟨rfl, Nat.zero_lt_succ _, ?_⟩
      show Frame.ok _ = true
      refine Frame.X.ok ⟨hf.kind, hf.id, hf.ext, hf.rtr, hf.brs, hf.esi⟩ ?_ ?_
      · show 1 ≤ (pack _).length; rw [hpl]; exact h1
      · show (pack _).length ≤ 2048; rw [hpl]; exact h2
    · exact ⟨p_num_le _ 8 (by simp; omega), p_num_le _ 8 (by simp; omega), p_num_le _ 32 (by simp; omega)⟩

theorem M.Ok.see {m : M} (h : m.Ok) (b : Bool) : (m.see b).Ok := by
  unfold M.see
  by_cases h0 : m.st.kind < 2
  · simp only [h0, if_true]
    have hz : m.st.f = Frame.zero := h.idle (by omega)
    have hs := h.step h0
    unfold M.stepBit
    cases hx : m.step with
    | dyn =>
      rw [hx] at hs
      obtain ⟨hN, hl, ho, hr⟩ := hs
      simp only [M.dynamic]
      by_cases h5 : full5 m.raw = true
      · rw [if_pos h5]
        by_cases hb : b = m.raw.getLastD false
        · rw [if_pos hb]; exact M.Ok.badOf (by exact h.typed) (by exact h.id) 4 (by decide)
        · rw [if_neg hb]
          refine okOf (m := m) h0 rfl hz h.err ?_ h.typed h.id
          refine ⟨hN, hl, ho, ?_, fun e => absurd (full5_snoc _ _ e) hb⟩
          show (m.raw ++ [b]).length ≤ _
          have := hr.2 h5
          simp only [List.length_append, List.length_cons, List.length_nil]
          omega
      · rw [if_neg h5]
        have hro : RawOk ({ m with seen := m.seen + 1, raw := m.raw ++ [b], l := m.l ++ [b] } : M) := by
          have := hr.1
          constructor
          · simp only [List.length_append, List.length_cons, List.length_nil]; omega
          · intro _; simp only [List.length_append, List.length_cons, List.length_nil]; omega
        split
        · rename_i hn
          exact nexts_ok _ hN hn ⟨rfl, h0, hz, h.err, ho, hro, h.typed, h.id⟩ (by simp)
        · rename_i hn
          refine okOf (m := m) h0 rfl hz h.err ?_ h.typed h.id
          refine ⟨hN, ?_, ho, hro⟩
          simp only [List.length_append, List.length_cons, List.length_nil] at hn ⊢
          omega
    | part w size prev k =>
      rw [hx] at hs
      obtain ⟨hl, hk⟩ := hs
      simp only
      cases hg : fixGet prev (m.own ++ [b]) w with
      | none => exact M.Ok.badOf (by exact h.typed) (by exact h.id) 4 (by decide)
      | some x =>
        obtain ⟨l, g⟩ := x
        simp only
        have hev : 1 ≤ w.every := by cases k <;> (obtain ⟨rfl, _⟩ := hk; decide)
        split
        · rename_i hsz
          have hlen : ∀ n, 1 ≤ n → size = fixSize n w → (if g = true then [] else l).length = n := by
            intro n hn hs
            obtain ⟨rfl, hl⟩ := fixGet_size hev hn hg (by rw [← hs]; exact hsz)
            simpa using hl
          refine parted_ok _ w size k _ h0 hz h.err h.typed h.id ?_ hsz hlen
          cases k <;> exact hk
        · rename_i hsz
          refine okOf (m := m) h0 rfl hz h.err ?_ h.typed h.id
          refine ⟨?_, ?_⟩
          · simp only [List.length_append, List.length_cons, List.length_nil] at hsz ⊢
            omega
          · cases k <;> exact hk
    | mark row k =>
      rw [hx] at hs
      obtain ⟨h4, ha, hk⟩ := hs
      simp only
      split
      · split
        · cases k with
          | xlCode =>
            obtain ⟨ho, hf, hr, hl, hne, hd⟩ := hk
            refine okOf (m := m) h0 rfl hz h.err ?_ h.typed h.id
            exact ⟨by show m.own.length < _; rw [ho]; decide, rfl, by decide, ⟨hf.kind, hf.id, hf.ext, hf.rtr, hf.brs, hf.esi⟩, hr, hl, hne, hd⟩
          | fin => exact okOf (m := m) h0 rfl hz h.err ⟨Nat.zero_lt_succ _, hk⟩ h.typed h.id
        · rename_i hne
          refine okOf (m := m) h0 rfl hz h.err ?_ h.typed h.id
          refine ⟨h4, ?_, ?_⟩
          · simp only at hne ⊢; omega
          · cases k <;> exact hk
      · exact M.Ok.badOf (by exact h.typed) (by exact h.id) 5 (by decide)
    | last =>
      rw [hx] at hs
      obtain ⟨ha, hf⟩ := hs
      simp only [M.lastBit]
      split
      · exact M.Ok.badOf (by exact h.typed) (by exact h.id) 6 (by decide)
      · split
        · exact M.Ok.badOf (by exact h.typed) (by exact h.id) 5 (by decide)
        · split
          · refine ⟨fun _ => ?_, fun e => (by simp at e), fun _ => rfl, by simp, by simp, h.typed, zero_typed, h.id, by simp [Frame.zero]⟩
            exact ⟨by simp only; omega, hf⟩
          · split
            · exact ⟨fun e => (by simp at e), fun _ => hf, fun e => (by simp at e), by simp, by simp, h.typed, h.typed, h.id, h.id⟩
            · refine ⟨fun _ => ?_, fun e => (by simp [St.more] at e), fun _ => rfl, by simp [St.more], by simp [St.more], h.typed, zero_typed, h.id, by simp [St.more, Frame.zero]⟩
              exact ⟨by simp only at *; omega, hf⟩
  · rw [if_neg h0]
    exact ⟨fun e => absurd e h0, h.done, h.idle, h.kind, h.err, h.typed, h.stT, h.id, h.stI⟩
end Om
