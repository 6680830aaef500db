/- The plain scanning law: who goes bit by bit through a frame's wire has the frame in the end. No Go in it. -/
import Derived.Test.YtnfnjmllgklaaaaGreatKPure
set_option linter.unusedVariables false
set_option linter.unusedSimpArgs false
namespace Om

/-! ### numbers and bits -/
theorem p_bitsOf_length (n : Nat) : ∀ s, (bitsOf n s).length = s
  | 0 => rfl
  | s + 1 => by simp [bitsOf, p_bitsOf_length n s]
theorem p_num_cons (b : Bool) (l : List Bool) : num (b :: l) = b.toNat * 2 ^ l.length + num l := by
  have h : ∀ (l : List Bool) (a : Nat), l.foldl (fun n b => 2 * n + b.toNat) a = a * 2 ^ l.length + l.foldl (fun n b => 2 * n + b.toNat) 0 := by
    intro l
    induction l with
    | nil => intro a; simp
    | cons c r ih =>
      intro a
      simp only [List.foldl_cons, List.length_cons]
      rw [ih (2 * a + c.toNat), ih (2 * 0 + c.toNat), Nat.pow_succ, Nat.add_mul, Nat.mul_zero, Nat.zero_add]
      have : a * (2 ^ r.length * 2) = 2 * a * 2 ^ r.length := by rw [Nat.mul_comm (2 ^ r.length) 2, ← Nat.mul_assoc, Nat.mul_comm a 2]
      omega
  simp only [num, List.foldl_cons]
  rw [h l (2 * 0 + b.toNat)]
  simp
theorem p_num_bitsOf (n : Nat) : ∀ s, num (bitsOf n s) = n % 2 ^ s
  | 0 => by simp [bitsOf, num, Nat.mod_one]
  | s + 1 => by
    rw [bitsOf, p_num_cons, p_num_bitsOf n s, p_bitsOf_length, Nat.mod_pow_succ, Nat.toNat_testBit, Nat.add_comm, Nat.mul_comm]
theorem p_num_of (n s : Nat) (h : n < 2 ^ s) : num (bitsOf n s) = n := by rw [p_num_bitsOf, Nat.mod_eq_of_lt h]
theorem p_bytesBits_length (l : List UInt8) : (bytesBits l).length = 8 * l.length := by
  induction l with
  | nil => rfl
  | cons b r ih => simp only [bytesBits, List.length_append, p_bitsOf_length, ih, List.length_cons]; omega
theorem p_pack_bytes : ∀ l : List UInt8, pack (bytesBits l) = l
  | [] => rfl
  | b :: r => by
    have h := p_num_of b.toNat 8 b.toNat_lt
    simp only [bytesBits, bitsOf, List.cons_append, List.nil_append, pack, p_pack_bytes r]
    simp only [bitsOf] at h
    rw [h]
    simp
theorem p_seg (p x q : List Bool) (c a b : Nat) (ha : p.length = a) (hb : a + x.length = b) (hc : b ≤ c) : (((p ++ (x ++ q)).take c).take b).drop a = x := by
  subst ha; subst hb
  rw [List.take_take, Nat.min_eq_left hc, List.take_append, List.drop_append]
  simp
theorem p_flag (p : List Bool) (b : Bool) (q : List Bool) (c a : Nat) (ha : p.length = a) (hc : a < c) : ((p ++ b :: q).take c).getD a false = b := by
  subst ha
  simp [List.getD_eq_getElem?_getD, List.getElem?_take, hc]

/-! ### sums -/
theorem p_crcOne_lt (sz poly sum : Nat) (b : Bool) (hp : poly < 2 ^ sz) : crcOne sz poly sum b < 2 ^ sz := by
  have h : sum * 2 % 2 ^ sz < 2 ^ sz := Nat.mod_lt _ (Nat.two_pow_pos _)
  unfold crcOne
  split
  · exact Nat.xor_lt_two_pow h hp
  · exact h
theorem p_crcRun_lt (sz poly : Nat) (hp : poly < 2 ^ sz) : ∀ (l : List Bool) (sum : Nat), sum < 2 ^ sz → crcRun sz poly sum l < 2 ^ sz
  | [], _, h => h
  | b :: r, sum, _ => p_crcRun_lt sz poly hp r _ (p_crcOne_lt sz poly sum b hp)
theorem p_crcSum_lt (k : Nat) (l : List Bool) (h1 : 1 ≤ k) (h5 : k ≤ 5) : crcSum k l < 2 ^ crcSize k := by
  have h : crcPoly k < 2 ^ crcSize k ∧ crcStart k < 2 ^ crcSize k := by
    rcases (by omega : k = 1 ∨ k = 2 ∨ k = 3 ∨ k = 4 ∨ k = 5) with rfl | rfl | rfl | rfl | rfl <;> decide
  exact p_crcRun_lt _ _ h.1 l _ h.2
theorem p_crcFits_add (k : Nat) (l : List Bool) (h1 : 1 ≤ k) (h5 : k ≤ 5) : crcFits k (crcAdd k l) = true := by
  have hl := p_bitsOf_length (crcSum k l) (crcSize k)
  have hn := p_num_of _ _ (p_crcSum_lt k l h1 h5)
  unfold crcFits crcAdd
  rw [if_neg (by rw [List.length_append, hl]; omega), List.length_append, hl, Nat.add_sub_cancel, List.drop_append, List.take_append]
  simp [hn]

/-! ### dynamic stuffing -/
def sst (raw : List Bool) : Sst := raw.foldl Sst.see Sst.start
def sstR : List Bool → Sst
  | [] => Sst.start
  | b :: r => (sstR r).see b
theorem p_sst_rev (r : List Bool) : sst r.reverse = sstR r := by
  induction r with
  | nil => rfl
  | cons b r ih => simp only [sst, List.reverse_cons, List.foldl_append, List.foldl_cons, List.foldl_nil] at ih ⊢; rw [ih]; rfl
theorem p_sstR_last (b : Bool) (r : List Bool) : (sstR (b :: r)).last = b ∧ 0 < (sstR (b :: r)).run := by
  simp only [sstR, Sst.see]
  split
  · rename_i h; exact ⟨h.2, by simp⟩
  · exact ⟨rfl, by simp⟩
theorem p_sstR_run (b : Bool) (r : List Bool) : (sstR (b :: r)).run = if r.head? = some b then (sstR r).run + 1 else 1 := by
  cases r with
  | nil => simp [sstR, Sst.see, Sst.start]
  | cons c r =>
    have h := p_sstR_last c r
    rw [sstR, Sst.see]
    by_cases e : c = b
    · subst e; rw [if_pos ⟨h.2, h.1⟩]; simp
    · rw [if_neg (by rw [h.1]; exact fun x => e x.2), if_neg (by simpa using e)]
theorem p_full5R (r : List Bool) : full5 r.reverse = decide (5 ≤ (sstR r).run) := by
  unfold full5
  rw [List.reverse_reverse]
  match r with
  | [] => simp [sstR, Sst.start]
  | [a] => rw [p_sstR_run]; simp
  | [a, b] => rw [p_sstR_run, p_sstR_run]; simp; split <;> omega
  | [a, b, c] => rw [p_sstR_run, p_sstR_run, p_sstR_run]; simp; repeat (split <;> try omega)
  | [a, b, c, d] => rw [p_sstR_run, p_sstR_run, p_sstR_run, p_sstR_run]; simp; repeat (split <;> try omega)
  | a :: b :: c :: d :: e :: t =>
    have h := (p_sstR_last e t).2
    rw [p_sstR_run a, p_sstR_run b, p_sstR_run c, p_sstR_run d]
    generalize (sstR (e :: t)).run = n at h
    cases a <;> cases b <;> cases c <;> cases d <;> cases e <;> simp <;> omega
theorem p_full5 (raw : List Bool) (h : (sst raw).run ≤ 5) : full5 raw = decide ((sst raw).run = 5) := by
  have h1 := p_full5R raw.reverse
  have h2 := p_sst_rev raw.reverse
  rw [List.reverse_reverse] at h1 h2
  rw [h1, ← h2, Bool.eq_iff_iff]
  simp; omega
theorem p_sst_last (raw : List Bool) (h : raw ≠ []) : (sst raw).last = raw.getLastD false := by
  have h2 := p_sst_rev raw.reverse
  rw [List.reverse_reverse] at h2
  rw [h2]
  cases hr : raw.reverse with
  | nil => exact absurd (by simpa using hr) h
  | cons b r =>
    rw [(p_sstR_last b r).1]
    have : raw = r.reverse ++ [b] := by rw [← List.reverse_reverse raw, hr]; simp
    rw [this]; simp
theorem p_sst_snoc (raw : List Bool) (b : Bool) : sst (raw ++ [b]) = (sst raw).see b := by simp [sst]
theorem p_see_other (s : Sst) : s.see (!s.last) = ⟨!s.last, 1⟩ := by
  unfold Sst.see
  rw [if_neg]
  cases s.last <;> simp
theorem p_see_le (s : Sst) (b : Bool) (h : s.run ≤ 5) (h5 : s.run ≠ 5) : (s.see b).run ≤ 5 := by
  unfold Sst.see
  split
  · simp only; omega
  · simp
theorem p_stuff_full (s : Sst) (b : Bool) (r : List Bool) (h : s.run = 5) : stuffGo s (b :: r) = (!s.last) :: b :: stuffGo ((s.see (!s.last)).see b) r := by rw [stuffGo, if_pos h]
theorem p_stuff_free (s : Sst) (b : Bool) (r : List Bool) (h : ¬ s.run = 5) : stuffGo s (b :: r) = b :: stuffGo (s.see b) r := by rw [stuffGo, if_neg h]
theorem p_stuff_append : ∀ (a b : List Bool) (s : Sst), stuffGo s (a ++ b) = stuffGo s a ++ stuffGo ((stuffGo s a).foldl Sst.see s) b
  | [], b, s => by simp [stuffGo]
  | x :: r, b, s => by
    by_cases h : s.run = 5
    · rw [List.cons_append, p_stuff_full s x _ h, p_stuff_full s x _ h, p_stuff_append r b]
      simp
    · rw [List.cons_append, p_stuff_free s x _ h, p_stuff_free s x _ h, p_stuff_append r b]
      simp
theorem p_stuff_run : ∀ (l : List Bool) (s : Sst), s.run ≤ 5 → ((stuffGo s l).foldl Sst.see s).run ≤ 5
  | [], s, h => by simpa [stuffGo] using h
  | x :: r, s, h => by
    by_cases h5 : s.run = 5
    · rw [p_stuff_full s x _ h5]
      simp only [List.foldl_cons]
      refine p_stuff_run r _ ?_
      rw [p_see_other]
      exact p_see_le _ _ (by simp) (by simp)
    · rw [p_stuff_free s x _ h5]
      simp only [List.foldl_cons]
      exact p_stuff_run r _ (p_see_le s x h h5)
theorem p_stuffed_append (a b : List Bool) : stuffed (a ++ b) = stuffed a ++ stuffGo (sst (stuffed a)) b := p_stuff_append a b Sst.start
theorem p_stuffed_run (a : List Bool) : (sst (stuffed a)).run ≤ 5 := p_stuff_run a Sst.start (by decide)
theorem p_stuff_ge : ∀ (l : List Bool) (s : Sst), l.length ≤ (stuffGo s l).length
  | [], _ => by simp [stuffGo]
  | x :: r, s => by
    by_cases h : s.run = 5
    · rw [p_stuff_full s x _ h]; have := p_stuff_ge r ((s.see (!s.last)).see x); simp; omega
    · rw [p_stuff_free s x _ h]; have := p_stuff_ge r (s.see x); simp; omega
theorem p_split : ∀ (l : List Bool) (s : Sst) (f : Bool), s.run ≤ 5 → ∃ g, splitGo s f (stuffGo s l) = some (l, (stuffGo s l).length - l.length, g)
  | [], s, f, _ => ⟨f, by simp [stuffGo, splitGo]⟩
  | x :: r, s, f, h => by
    by_cases h5 : s.run = 5
    · have h1 : (s.see (!s.last)).run = 1 := by rw [p_see_other]
      obtain ⟨g, hg⟩ := p_split r ((s.see (!s.last)).see x) false (p_see_le _ _ (by omega) (by omega))
      refine ⟨g, ?_⟩
      have hge := p_stuff_ge r ((s.see (!s.last)).see x)
      rw [p_stuff_full s x _ h5, splitGo, if_pos h5, if_neg (by cases s.last <;> simp), splitGo, if_neg (by omega), hg]
      simp; omega
    · obtain ⟨g, hg⟩ := p_split r (s.see x) false (p_see_le _ _ h h5)
      refine ⟨g, ?_⟩
      have hge := p_stuff_ge r (s.see x)
      rw [p_stuff_free s x _ h5, splitGo, if_neg h5, hg]
      simp
theorem p_count (l : List Bool) : stuffCount (stuffed l) = some ((stuffed l).length - l.length) := by
  obtain ⟨g, hg⟩ := p_split l Sst.start false (by decide)
  unfold stuffCount
  rw [show stuffed l = stuffGo Sst.start l from rfl, hg]
  rfl

/-! ### fixed stuffing -/
theorem p_fix_due (ev : Nat) (last b : Bool) (r : List Bool) : fixPutGo ev last 0 (b :: r) = (!last) :: b :: fixPutGo ev b (ev - 1) r := by rw [fixPutGo, if_pos rfl]
theorem p_fix_free (ev : Nat) (last b : Bool) (left : Nat) (r : List Bool) (h : ¬ left = 0) : fixPutGo ev last left (b :: r) = b :: fixPutGo ev b (left - 1) r := by rw [fixPutGo, if_neg h]
theorem p_fix_prefix (ev : Nat) (hev : 1 ≤ ev) : ∀ (l : List Bool) (last : Bool) (left : Nat) (f : Bool) (i : Nat), (fixGetGo ev last left f ((fixPutGo ev last left l).take i)).isSome = true
  | [], last, left, f, i => by simp [fixPutGo, fixGetGo]
  | b :: r, last, left, f, i => by
    by_cases h : left = 0
    · subst h
      rw [p_fix_due]
      match i with
      | 0 => simp [fixGetGo]
      | 1 => simp [fixGetGo]
      | i + 2 =>
        have ih := p_fix_prefix ev hev r b (ev - 1) false i
        simp only [List.take_succ_cons, fixGetGo, if_true]
        rw [if_neg (by omega)]
        simpa using ih
    · rw [p_fix_free ev last b left r h]
      match i with
      | 0 => simp [fixGetGo]
      | i + 1 =>
        have ih := p_fix_prefix ev hev r b (left - 1) false i
        simp only [List.take_succ_cons, fixGetGo]
        rw [if_neg h]
        simpa using ih
theorem p_fix_whole (ev : Nat) (hev : 1 ≤ ev) : ∀ (l : List Bool) (last : Bool) (left : Nat), fixGetGo ev last left false (fixPutGo ev last left l) = some (l, false)
  | [], last, left => by simp [fixPutGo, fixGetGo]
  | b :: r, last, left => by
    by_cases h : left = 0
    · subst h
      rw [p_fix_due]
      simp only [fixGetGo, if_true]
      rw [if_neg (by omega), p_fix_whole ev hev r b (ev - 1)]
      rfl
    · rw [p_fix_free ev last b left r h]
      simp only [fixGetGo]
      rw [if_neg h, p_fix_whole ev hev r b (left - 1)]
      rfl
theorem p_fix_length (ev : Nat) (hev : 1 ≤ ev) : ∀ (l : List Bool) (last : Bool) (left : Nat), left ≤ ev → (fixPutGo ev last left l).length = l.length + (l.length + ev - 1 - left) / ev
  | [], last, left, h => by
    simp only [fixPutGo, List.length_nil, Nat.zero_add]
    rw [Nat.div_eq_of_lt (by omega)]
  | b :: r, last, left, h => by
    by_cases h0 : left = 0
    · subst h0
      rw [p_fix_due, List.length_cons, List.length_cons, p_fix_length ev hev r b (ev - 1) (by omega), List.length_cons,
        show r.length + 1 + ev - 1 - 0 = r.length + ev by omega, Nat.add_div_right _ (by omega), show r.length + ev - 1 - (ev - 1) = r.length by omega]
      omega
    · rw [p_fix_free ev last b left r h0, List.length_cons, p_fix_length ev hev r b (left - 1) (by omega), List.length_cons,
        show r.length + ev - 1 - (left - 1) = r.length + 1 + ev - 1 - left by omega]
      omega
theorem p_fix_append (ev : Nat) : ∀ (a b : List Bool) (last : Bool) (left : Nat), ∃ x y, fixPutGo ev last left (a ++ b) = fixPutGo ev last left a ++ fixPutGo ev x y b
  | [], b, last, left => ⟨last, left, by simp [fixPutGo]⟩
  | c :: r, b, last, left => by
    by_cases h : left = 0
    · subst h
      obtain ⟨x, y, e⟩ := p_fix_append ev r b c (ev - 1)
      exact ⟨x, y, by rw [List.cons_append, p_fix_due, p_fix_due, e]; rfl⟩
    · obtain ⟨x, y, e⟩ := p_fix_append ev r b c (left - 1)
      exact ⟨x, y, by rw [List.cons_append, p_fix_free _ _ _ _ _ h, p_fix_free _ _ _ _ _ h, e]; rfl⟩
theorem p_fixPut_length (prev : Bool) (l : List Bool) (w : Way) (hev : 1 ≤ w.every) (hl : l ≠ []) : (fixPut prev l w).length = fixSize l.length w := by
  have h0 : l.length ≠ 0 := by simpa using hl
  unfold fixPut fixSize Way.left
  rw [if_neg h0]
  cases w.ahead
  · simp only [Bool.false_eq_true, if_false]
    rw [p_fix_length _ hev _ _ _ (Nat.le_refl _), show l.length + w.every - 1 - w.every = l.length - 1 by omega]
    omega
  · simp only [if_true]
    rw [p_fix_length _ hev _ _ _ (Nat.zero_le _), show l.length + w.every - 1 - 0 = l.length - 1 + w.every by omega, Nat.add_div_right _ (by omega)]
    omega

/-! ### a machine that goes through a row -/
def M.run (m : M) (l : List Bool) : M := l.foldl M.see m
theorem M.run_append (m : M) (a b : List Bool) : m.run (a ++ b) = (m.run a).run b := by simp [M.run]
/-- Through a row to another machine: what it is ahead of the row's end is 'more'. -/
def Thru (m : M) (l : List Bool) (m' : M) : Prop := m.run l = m' ∧ ∀ i, i < l.length → (m.run (l.take i)).st.kind = 0
theorem Thru.nil (m : M) : Thru m [] m := ⟨rfl, fun i h => by simp at h⟩
theorem Thru.cons {m m' : M} {b : Bool} {l : List Bool} (h0 : m.st.kind = 0) (h : Thru (m.see b) l m') : Thru m (b :: l) m' := by
  refine ⟨h.1, fun i hi => ?_⟩
  match i with
  | 0 => exact h0
  | i + 1 => exact h.2 i (by simpa using hi)
theorem Thru.append {m m' m'' : M} {a b : List Bool} (h : Thru m a m') (k : Thru m' b m'') : Thru m (a ++ b) m'' := by
  refine ⟨by rw [M.run_append, h.1, k.1], fun i hi => ?_⟩
  rw [List.take_append]
  by_cases hlt : i < a.length
  · rw [show i - a.length = 0 by omega]
    simpa using h.2 i hlt
  · rw [List.take_of_length_le (by omega), M.run_append, h.1]
    exact k.2 _ (by simp at hi; omega)

theorem see_stuff (m : M) (b : Bool) (hs : m.step = .dyn) (h0 : m.st.kind = 0) (hf : full5 m.raw = true) (hb : ¬ b = m.raw.getLastD false) : m.see b = { m with seen := m.seen + 1, raw := m.raw ++ [b] } := by
  simp only [M.see, h0, M.stepBit, hs, M.dynamic, hf, if_true, hb, if_false, show (0 < 2) by decide]
theorem see_bit (m : M) (b : Bool) (hs : m.step = .dyn) (h0 : m.st.kind = 0) (hf : full5 m.raw = false) (hn : ¬ m.l.length + 1 = m.need) : m.see b = { m with seen := m.seen + 1, raw := m.raw ++ [b], l := m.l ++ [b] } := by
  simp only [M.see, h0, M.stepBit, hs, M.dynamic, hf]
  simp [hn]
theorem see_next (m : M) (b : Bool) (hs : m.step = .dyn) (h0 : m.st.kind = 0) (hf : full5 m.raw = false) (hn : m.l.length + 1 = m.need) : m.see b = ({ m with seen := m.seen + 1, raw := m.raw ++ [b], l := m.l ++ [b] } : M).nexts := by
  simp only [M.see, h0, M.stepBit, hs, M.dynamic, hf]
  simp [hn]
theorem raw_ne_of_run {raw : List Bool} (h : (sst raw).run = 5) : raw ≠ [] := by rintro rfl; simp [sst, Sst.start] at h
theorem thru_eq {m m' m'' : M} {l : List Bool} (h : Thru m l m') (e : m' = m'') : Thru m l m'' := e ▸ h
/-- Bits that are asked for come, with their stuff bits. -/
theorem dyn_thru : ∀ (bs : List Bool) (m : M), m.step = .dyn → m.st.kind = 0 → (sst m.raw).run ≤ 5 → bs ≠ [] → m.l.length + bs.length = m.need →
    Thru m (stuffGo (sst m.raw) bs) ({ m with seen := m.seen + (stuffGo (sst m.raw) bs).length, raw := m.raw ++ stuffGo (sst m.raw) bs, l := m.l ++ bs } : M).nexts
  | [], _, _, _, _, h, _ => absurd rfl h
  | b :: r, m, hs, h0, h5, _, hn => by
    simp only [List.length_cons] at hn
    by_cases hr : (sst m.raw).run = 5
    · have hne := raw_ne_of_run hr
      have hf : full5 m.raw = true := by rw [p_full5 _ h5]; simpa using hr
      have hb : ¬ (!(sst m.raw).last) = m.raw.getLastD false := by rw [p_sst_last _ hne]; cases m.raw.getLastD false <;> simp
      have h1 := see_stuff m (!(sst m.raw).last) hs h0 hf hb
      obtain ⟨m1, hm1⟩ : ∃ m1, m1 = m.see (!(sst m.raw).last) := ⟨_, rfl⟩
      rw [p_stuff_full _ _ _ hr]
      refine Thru.cons h0 ?_
      rw [← hm1]
      rw [← hm1] at h1
      have hsst : sst m1.raw = (sst m.raw).see (!(sst m.raw).last) := by rw [h1, p_sst_snoc]
      have hr1 : (sst m1.raw).run = 1 := by rw [hsst, p_see_other]
      have hf1 : full5 m1.raw = false := by rw [p_full5 _ (by omega)]; simp; omega
      have hs1 : m1.step = .dyn := by rw [h1]; exact hs
      have h01 : m1.st.kind = 0 := by rw [h1]; exact h0
      refine Thru.cons h01 ?_
      by_cases hrn : r = []
      · subst hrn
        rw [see_next m1 b hs1 h01 hf1 (by rw [h1]; simpa using hn)]
        simp only [stuffGo]
        rw [h1]
        simp only [List.length_cons, List.length_nil, List.append_assoc, List.cons_append, List.nil_append]
        exact Thru.nil _
      · have hrl : 0 < r.length := List.length_pos_iff.2 hrn
        rw [see_bit m1 b hs1 h01 hf1 (by rw [h1]; simp only; omega)]
        rw [h1]
        rw [← hsst, h1, ← p_sst_snoc]
        have ih := dyn_thru r { m with seen := m.seen + 1 + 1, raw := (m.raw ++ [!(sst m.raw).last]) ++ [b], l := m.l ++ [b] } hs h0 (by
          simp only
          rw [p_sst_snoc]
          rw [h1] at hr1
          exact p_see_le _ _ (by simp only at hr1; omega) (by simp only at hr1; omega)) hrn (by simp only [List.length_append, List.length_cons, List.length_nil]; omega)
        simp only [List.append_assoc, List.cons_append, List.nil_append, List.length_cons] at ih ⊢
        refine thru_eq ih ?_
        congr 2
        omega
    · have hf : full5 m.raw = false := by rw [p_full5 _ h5]; simpa using hr
      rw [p_stuff_free _ _ _ hr]
      refine Thru.cons h0 ?_
      by_cases hrn : r = []
      · subst hrn
        rw [see_next m b hs h0 hf (by simpa using hn)]
        simp only [stuffGo, List.length_cons, List.length_nil]
        exact Thru.nil _
      · have hrl : 0 < r.length := List.length_pos_iff.2 hrn
        rw [see_bit m b hs h0 hf (by omega), ← p_sst_snoc]
        have ih := dyn_thru r { m with seen := m.seen + 1, raw := m.raw ++ [b], l := m.l ++ [b] } hs h0 (by
          simp only
          rw [p_sst_snoc]
          exact p_see_le _ _ h5 hr) hrn (by simp only [List.length_append, List.length_cons, List.length_nil]; omega)
        simp only [List.append_assoc, List.cons_append, List.nil_append, List.length_cons] at ih ⊢
        refine thru_eq ih ?_
        congr 2
        omega
end Om

/- The plain scanning law, in stages. -/
namespace Om

def mkD (xl : Bool) (B : List Bool) (k need : Nat) (next : Nx) (f : Frame) : M :=
  ⟨xl, St.more, (stuffed (B.take k)).length, .dyn, next, stuffed (B.take k), B.take k, need, [], f, false, 0⟩
/-- Come so far through a body's raw bits. -/
def Come (xl : Bool) (B : List Bool) (k : Nat) (m : M) : Prop := Thru (M.new xl) (stuffed (B.take k)) m
theorem come_0 (xl : Bool) (B : List Bool) : Come xl B 0 (mkD xl B 0 1 .start Frame.zero) := by
  unfold Come
  rw [List.take_zero]
  exact Thru.nil _
theorem stage (xl : Bool) (B : List Bool) (k k' : Nat) (next : Nx) (f : Frame) (h : k < k') (h' : k' ≤ B.length) (hc : Come xl B k (mkD xl B k k' next f)) : Come xl B k' (mkD xl B k' k' next f).nexts := by
  have hB : B.take k' = B.take k ++ (B.take k').drop k := by
    conv => lhs; rw [← List.take_append_drop k (B.take k'), List.take_take, Nat.min_eq_left (by omega)]
  have hl : ((B.take k').drop k).length = k' - k := by simp; omega
  have ht := dyn_thru ((B.take k').drop k) (mkD xl B k k' next f) rfl rfl (p_stuffed_run _) (by intro e; rw [e] at hl; simp at hl; omega) (by simp only [mkD, hl]; simp; omega)
  have ha := Thru.append hc ht
  unfold Come
  have hs : stuffed (B.take k') = stuffed (B.take k) ++ stuffGo (sst (stuffed (B.take k))) ((B.take k').drop k) := by
    conv => lhs; rw [hB, p_stuffed_append]
  have hm : ({ mkD xl B k k' next f with seen := (mkD xl B k k' next f).seen + (stuffGo (sst (mkD xl B k k' next f).raw) ((B.take k').drop k)).length, raw := (mkD xl B k k' next f).raw ++ stuffGo (sst (mkD xl B k k' next f).raw) ((B.take k').drop k), l := (mkD xl B k k' next f).l ++ (B.take k').drop k } : M) = mkD xl B k' k' next f := by
    simp only [mkD, ← List.length_append]
    rw [← hs, ← hB]
  rw [hm] at ha
  rw [hs]
  exact ha

theorem nx_start {xl : Bool} {B : List Bool} {f : Frame} (h : (B.take 1).getD 0 false = false) : (mkD xl B 1 1 .start f).nexts = mkD xl B 1 14 .ident f := by
  simp only [M.nexts, mkD, M.flag, h, if_true]
  rfl
theorem nx_ident {xl r : Bool} {B : List Bool} {f : Frame} {i : Nat} (h13 : (B.take 14).getD 13 false = false) (h12 : (B.take 14).getD 12 false = r) (hn : num (((B.take 14).take 12).drop 1) = i) :
    (mkD xl B 14 14 .ident f).nexts = mkD xl B 14 15 .format { Frame.zero with kind := 1, id := i, rtr := r } := by
  simp only [M.nexts, mkD, M.flag, M.number, h13, h12, hn, if_true]
  rfl
theorem nx_identX {xl : Bool} {B : List Bool} {f : Frame} {i : Nat} (h13 : (B.take 14).getD 13 false = true) (h12 : (B.take 14).getD 12 false = true) (hn : num (((B.take 14).take 12).drop 1) = i) :
    (mkD xl B 14 14 .ident f).nexts = mkD xl B 14 34 .extended { Frame.zero with kind := 1, id := i, rtr := true } := by
  simp only [M.nexts, mkD, M.flag, M.number, h13, h12, hn, if_true, Bool.true_eq_false, if_false]
  rfl
theorem nx_extended {xl r : Bool} {B : List Bool} {f : Frame} {i : Nat} (h33 : (B.take 34).getD 33 false = false) (h32 : (B.take 34).getD 32 false = r) (hn : num (((B.take 34).take 32).drop 14) = i) :
    (mkD xl B 34 34 .extended f).nexts = mkD xl B 34 35 .reserved { f with ext := true, rtr := r, id := f.id * 262144 + i } := by
  simp only [M.nexts, mkD, M.flag, M.number, h33, h32, hn, if_true]
  rfl
theorem nx_reserved {xl : Bool} {B : List Bool} {f : Frame} (h : (B.take 35).getD 34 false = false) : (mkD xl B 35 35 .reserved f).nexts = mkD xl B 35 39 .code f := by
  simp only [M.nexts, mkD, M.flag, h, if_true]
  rfl
theorem nx_format0 {xl : Bool} {B : List Bool} {f : Frame} (h : (B.take 15).getD 14 false = false) : (mkD xl B 15 15 .format f).nexts = mkD xl B 15 19 .code f := by
  simp only [M.nexts, mkD, M.flag, h, if_true]
  rfl
theorem nx_format1 {xl : Bool} {B : List Bool} {f : Frame} (h : (B.take 15).getD 14 false = true) (hr : f.rtr = false) : (mkD xl B 15 15 .format f).nexts = mkD xl B 15 16 .newer f := by
  simp only [M.nexts, mkD, M.flag, h, hr, if_true, Bool.true_eq_false, if_false]
  rfl
theorem nx_newer0 {xl : Bool} {B : List Bool} {f : Frame} (h : (B.take 16).getD 15 false = false) : (mkD xl B 16 16 .newer f).nexts = mkD xl B 16 22 .fdCode { f with kind := 2 } := by
  simp only [M.nexts, mkD, M.flag, h, if_true]
  rfl
theorem nx_newer1 {B : List Bool} {f : Frame} (h : (B.take 16).getD 15 false = true) : (mkD true B 16 16 .newer f).nexts = mkD true B 16 17 .xlHead { f with kind := 3 } := by
  simp only [M.nexts, mkD, M.flag, h, if_true, Bool.true_eq_false, if_false]
  rfl
theorem nx_alien {B : List Bool} {f : Frame} (h : (B.take 16).getD 15 false = true) : (mkD false B 16 16 .newer f).nexts = { mkD false B 16 16 .newer f with st := ⟨4, 0, Frame.zero⟩ } := by
  simp only [M.nexts, mkD, M.flag, h, if_true, Bool.true_eq_false, if_false]
theorem nx_code {xl : Bool} {B : List Bool} {f : Frame} {a n : Nat} (ha : (B.take a).length = a) (hn : num (((B.take a).take a).drop (a - 4)) = n) (h8 : n ≤ 8) (hr : n = 0 ∨ f.rtr = false) :
    (mkD xl B a a .code f).nexts = mkD xl B a (a + 8 * n + 15) (.codeEnd a n) f := by
  simp only [M.nexts, M.code, mkD, M.number, ha, hn, h8, hr, and_self, if_true]
  rfl
theorem nx_codeEnd {xl : Bool} {B : List Bool} {f : Frame} {a n K : Nat} :
    (mkD xl B K K (.codeEnd a n) f).nexts = ⟨xl, St.more, (stuffed (B.take K)).length, .last, .codeEnd a n, stuffed (B.take K), B.take K, K, [], { f with data := pack (((B.take K).take (a + 8 * n)).drop a) }, crcFits 1 (B.take K), 0⟩ := rfl
theorem nx_fdCode0 {xl b e : Bool} {B : List Bool} {f : Frame} (hb : (B.take 22).getD 16 false = b) (he : (B.take 22).getD 17 false = e) (hn : fdSizes.getD (num (((B.take 22).take 22).drop 18)) 0 = 0) :
    (mkD xl B 22 22 .fdCode f).nexts = ({ mkD xl B 22 22 .fdCode f with f := { f with brs := b, esi := e } } : M).fdData 0 := by
  simp only [M.nexts, M.fdCode, mkD, M.number, M.flag, hb, he, hn, if_true]
theorem nx_fdCode {xl b e : Bool} {B : List Bool} {f : Frame} {s : Nat} (hb : (B.take 22).getD 16 false = b) (he : (B.take 22).getD 17 false = e) (hn : fdSizes.getD (num (((B.take 22).take 22).drop 18)) 0 = s) (hs : s ≠ 0) :
    (mkD xl B 22 22 .fdCode f).nexts = mkD xl B 22 (22 + 8 * s) (.fdData s) { f with brs := b, esi := e } := by
  simp only [M.nexts, M.fdCode, mkD, M.number, M.flag, hb, he, hn, hs, if_false]
  rfl
theorem nx_xlHead {xl : Bool} {B : List Bool} {f : Frame} (h : (B.take 17).getD 16 false = false) : (mkD xl B 17 17 .xlHead f).nexts = (mkD xl B 17 17 .xlHead f).mark [true, false, false, true] .xlCode := by
  simp only [M.nexts, mkD, M.flag, h, if_true]

/-! ### parts, marks -/
theorem part_thru (L : List Bool) (prev : Bool) (w : Way) (hev : 1 ≤ w.every) (hL : L ≠ []) (k : PK) : ∀ (r : List Bool) (m : M), m.step = .part w (fixSize L.length w) prev k → m.st.kind = 0 → r ≠ [] → m.own ++ r = fixPut prev L w →
    Thru m r (({ m with seen := m.seen + r.length, own := fixPut prev L w } : M).parted L k)
  | [], _, _, _, h, _ => absurd rfl h
  | b :: r, m, hs, h0, _, hr => by
    have hlen := p_fixPut_length prev L w hev hL
    have htk : m.own ++ [b] = (fixPut prev L w).take (m.own.length + 1) := by
      rw [← hr, List.take_append, List.take_of_length_le (by omega), Nat.add_sub_cancel_left]; rfl
    refine Thru.cons h0 ?_
    by_cases hrn : r = []
    · subst hrn
      have hg : fixGet prev (m.own ++ [b]) w = some (L, false) := by rw [hr]; exact p_fix_whole _ hev L prev _
      have hl : m.own.length + 1 = fixSize L.length w := by rw [← hlen, ← hr]; simp
      have : m.see b = ({ m with seen := m.seen + 1, own := m.own ++ [b] } : M).parted L k := by
        simp only [M.see, h0, M.stepBit, hs]
        rw [hg]
        simp [hl]
      rw [this, hr]
      exact Thru.nil _
    · have hrl := List.length_pos_iff.2 hrn
      have hg := p_fix_prefix w.every hev L prev w.left false (m.own.length + 1)
      have hl : ¬ m.own.length + 1 = fixSize L.length w := by rw [← hlen, ← hr]; simp; omega
      obtain ⟨x, hx⟩ := Option.isSome_iff_exists.1 hg
      obtain ⟨x1, x2⟩ := x
      have hx' : fixGet prev (m.own ++ [b]) w = some (x1, x2) := by rw [htk]; exact hx
      have hsee : m.see b = { m with seen := m.seen + 1, own := m.own ++ [b] } := by
        simp only [M.see, h0, M.stepBit, hs]
        rw [hx']
        simp [hl]
      rw [hsee]
      have ih := part_thru L prev w hev hL k r { m with seen := m.seen + 1, own := m.own ++ [b] } hs h0 hrn (by simp only [List.append_assoc, List.cons_append, List.nil_append]; exact hr)
      simp only [Nat.add_assoc, Nat.add_comm 1 r.length] at ih
      simp only [List.length_cons]
      exact ih
/-- What is behind a mark. -/
def M.marked (m : M) : MK → M
  | .xlCode => m.part ⟨8, false⟩ 20 .xlCode
  | .fin => m.fin
theorem mark4_thru (a b c d : Bool) (k : MK) (m : M) (hs : m.step = .mark [a, b, c, d] k) (h0 : m.st.kind = 0) (ha : m.at_ = 0) : Thru m [a, b, c, d] (({ m with seen := m.seen + 4, at_ := 4 } : M).marked k) := by
  have h1 : m.see a = { m with seen := m.seen + 1, at_ := 1 } := by
    simp only [M.see, h0, M.stepBit, hs, ha]; simp
  have h2 : ∀ m' : M, m'.step = .mark [a, b, c, d] k → m'.st.kind = 0 → m'.at_ = 1 → m'.see b = { m' with seen := m'.seen + 1, at_ := 2 } := fun m' hs h0 ha => by
    simp only [M.see, h0, M.stepBit, hs, ha]; simp
  have h3 : ∀ m' : M, m'.step = .mark [a, b, c, d] k → m'.st.kind = 0 → m'.at_ = 2 → m'.see c = { m' with seen := m'.seen + 1, at_ := 3 } := fun m' hs h0 ha => by
    simp only [M.see, h0, M.stepBit, hs, ha]; simp
  have h4 : ∀ m' : M, m'.step = .mark [a, b, c, d] k → m'.st.kind = 0 → m'.at_ = 3 → m'.see d = ({ m' with seen := m'.seen + 1, at_ := 4 } : M).marked k := fun m' hs h0 ha => by
    simp only [M.see, h0, M.stepBit, hs, ha, M.marked]
    cases k <;> simp
  refine Thru.cons h0 ?_
  rw [h1]
  refine Thru.cons h0 ?_
  rw [h2 { m with seen := m.seen + 1, at_ := 1 } hs h0 rfl]
  refine Thru.cons h0 ?_
  rw [h3 { m with seen := m.seen + 1 + 1, at_ := 2 } hs h0 rfl]
  refine Thru.cons h0 ?_
  rw [h4 { m with seen := m.seen + 1 + 1 + 1, at_ := 3 } hs h0 rfl]
  exact Thru.nil _

/-! ### the end -/
/-- A machine whose sums are right, ahead of the delimiter. -/
structure AtEnd (m : M) (f : Frame) : Prop where
  step : m.step = .last
  at_ : m.at_ = 0
  fits : m.fits = true
  f : m.f = f
  st : m.st.kind = 0
theorem see_last (m : M) (b : Bool) (hs : m.step = .last) (h0 : m.st.kind < 2) : m.see b = ({ m with seen := m.seen + 1 } : M).lastBit b := by
  simp only [M.see, M.stepBit, hs, h0, if_true]
/-- The delimiter: the slot is next. -/
theorem end_slot {m : M} {f : Frame} (h : AtEnd m f) : m.see true = { m with seen := m.seen + 1, at_ := 1, st := ⟨1, 0, Frame.zero⟩ } := by
  rw [see_last m true h.step (by rw [h.st]; decide)]
  simp [M.lastBit, h.at_, h.fits]
/-- The slot, whatever it holds. -/
theorem end_ack {m : M} (a : Bool) (hs : m.step = .last) (h0 : m.st.kind < 2) (ha : m.at_ = 1) : m.see a = { m with seen := m.seen + 1, at_ := 2, st := St.more } := by
  rw [see_last m a hs h0]
  simp [M.lastBit, ha]
theorem end_one {m : M} (hs : m.step = .last) (h0 : m.st.kind < 2) (hf : m.fits = true) (ha : 2 ≤ m.at_) (ha8 : m.at_ < 8) : m.see true = { m with seen := m.seen + 1, at_ := m.at_ + 1, st := St.more } := by
  rw [see_last m true hs h0]
  have h1 : ¬ m.at_ = 0 := by omega
  have h9 : ¬ m.at_ = 8 := by omega
  simp [M.lastBit, hf, h1, h9]
theorem end_done {m : M} (hs : m.step = .last) (h0 : m.st.kind < 2) (hf : m.fits = true) (ha8 : m.at_ = 8) : m.see true = { m with seen := m.seen + 1, at_ := 9, st := ⟨2, 0, m.f⟩ } := by
  rw [see_last m true hs h0]
  simp [M.lastBit, hf, ha8]
end Om

/- The plain scanning law: Classic frames. -/
namespace Om

/-- The small fields' bounds, as Go's types have them. -/
structure Frame.Typed (f : Frame) : Prop where
  sdt : f.sdt < 256
  vcid : f.vcid < 256
  af : f.af < 4294967296

theorem ok_kind {f : Frame} (h : f.ok = true) : f.kind = 1 ∨ f.kind = 2 ∨ f.kind = 3 := by
  simp only [Frame.ok, Bool.and_eq_true] at h
  have h1 := h.1.1.1
  unfold codeOf at h1
  by_cases e1 : f.kind = 1
  · exact .inl e1
  · by_cases e2 : f.kind = 2
    · exact .inr (.inl e2)
    · by_cases e3 : f.kind = 3
      · exact .inr (.inr e3)
      · simp [e1, e2, e3] at h1
theorem ok_id {f : Frame} (h : f.ok = true) : f.id < (if f.ext then 536870912 else 2048) := by
  simp only [Frame.ok, Bool.and_eq_true, decide_eq_true_eq] at h
  exact h.1.1.2
theorem ok_rtr {f : Frame} (h : f.ok = true) : f.data.length = 0 ∨ f.rtr = false := by
  simp only [Frame.ok, Bool.and_eq_true] at h
  have h1 := h.1.2
  cases hr : f.rtr
  · exact .inr rfl
  · left; simpa [hr] using h1
theorem ok_1 {f : Frame} (h : f.ok = true) (hk : f.kind = 1) : f.data.length ≤ 8 ∧ f.brs = false ∧ f.esi = false ∧ f.sec = false ∧ f.sdt = 0 ∧ f.vcid = 0 ∧ f.af = 0 := by
  simp only [Frame.ok, Bool.and_eq_true, hk, if_true] at h
  obtain ⟨⟨⟨h1, _⟩, _⟩, h4⟩ := h
  have hl : f.data.length ≤ 8 := by
    unfold codeOf at h1
    by_cases e : f.data.length ≤ 8
    · exact e
    · simp [e] at h1
  simp only [Bool.and_eq_true, Bool.not_eq_true', beq_iff_eq] at h4
  exact ⟨hl, h4.1.1.1.1.1, h4.1.1.1.1.2, h4.1.1.1.2, h4.1.1.2, h4.1.2, h4.2⟩
theorem ok_2 {f : Frame} (h : f.ok = true) (hk : f.kind = 2) : (∃ c, c < 16 ∧ codeOf 2 f.data.length = some c ∧ fdSizes.getD c 0 = f.data.length) ∧ f.ext = false ∧ f.rtr = false ∧ f.sec = false ∧ f.sdt = 0 ∧ f.vcid = 0 ∧ f.af = 0 := by
  simp only [Frame.ok, Bool.and_eq_true, hk] at h
  obtain ⟨⟨⟨h1, _⟩, _⟩, h4⟩ := h
  obtain ⟨c, hc⟩ := Option.isSome_iff_exists.1 h1
  have hc' : fdSizes.idxOf? f.data.length = some c := hc
  have hx : c < 16 ∧ fdSizes.getD c 0 = f.data.length := by
    have hl := List.idxOf?_eq_some_iff.1 hc'
    obtain ⟨hlt, he, _⟩ := hl
    refine ⟨hlt, ?_⟩
    rw [List.getD_eq_getElem?_getD, List.getElem?_eq_getElem hlt]
    simpa using he
  simp at h4
  exact ⟨⟨c, hx.1, hc, hx.2⟩, h4.1.1.1.1.1, h4.1.1.1.1.2, h4.1.1.1.2, h4.1.1.2, h4.1.2, h4.2⟩
theorem ok_3 {f : Frame} (h : f.ok = true) (hk : f.kind = 3) : 1 ≤ f.data.length ∧ f.data.length ≤ 2048 ∧ codeOf 3 f.data.length = some (f.data.length - 1) ∧ f.ext = false ∧ f.rtr = false ∧ f.brs = false ∧ f.esi = false := by
  simp only [Frame.ok, Bool.and_eq_true, hk] at h
  obtain ⟨⟨⟨h1, _⟩, _⟩, h4⟩ := h
  have hl : 1 ≤ f.data.length ∧ f.data.length ≤ 2048 := by
    unfold codeOf at h1
    by_cases e : 1 ≤ f.data.length ∧ f.data.length ≤ 2048
    · exact e
    · simp [e] at h1
  simp at h4
  exact ⟨hl.1, hl.2, by simp [codeOf, hl.1, hl.2], h4.1.1.1, h4.1.1.2, h4.1.2, h4.2⟩

theorem classic_end (xl : Bool) (B : List Bool) (a n : Nat) (f0 f : Frame) (hn : n = f.data.length) (hc : Come xl B a (mkD xl B a (a + 8 * n + 15) (.codeEnd a n) f0)) (hl : B.length = a + 8 * n + 15)
    (hd : ((B.take (a + 8 * n + 15)).take (a + 8 * n)).drop a = bytesBits f.data) (hf : crcFits 1 B = true) (hf0 : { f0 with data := f.data } = f) : ∃ m, Thru (M.new xl) (stuffed B) m ∧ AtEnd m f := by
  have s := stage xl B a (a + 8 * n + 15) (.codeEnd a n) f0 (by omega) (by omega) hc
  rw [nx_codeEnd, hd, p_pack_bytes, hf0] at s
  unfold Come at s
  rw [List.take_of_length_le (by omega), hf] at s
  exact ⟨_, s, rfl, rfl, rfl, rfl, rfl⟩

theorem scan_std (f : Frame) (xl : Bool) (h : f.ok = true) (hk : f.kind = 1) (hx : f.ext = false) : ∃ m, Thru (M.new xl) (stuffed (cBody f)) m ∧ AtEnd m f := by
  obtain ⟨h8, hb, he, hs, h1, h2, h3⟩ := ok_1 h hk
  have hid := ok_id h
  have hr := ok_rtr h
  rw [hx] at hid
  simp only [Bool.false_eq_true, if_false] at hid
  have hfit := p_crcFits_add 1 (cHead f ++ bitsOf f.data.length 4 ++ bytesBits f.data) (by omega) (by omega)
  obtain ⟨S, hS⟩ : ∃ S, S = bitsOf (crcSum 1 (cHead f ++ bitsOf f.data.length 4 ++ bytesBits f.data)) (crcSize 1) := ⟨_, rfl⟩
  obtain ⟨B, hBB⟩ : ∃ B, B = cBody f := ⟨_, rfl⟩
  have hSl : S.length = 15 := by rw [hS, p_bitsOf_length]; rfl
  have hIl := p_bitsOf_length f.id 11
  have hCl := p_bitsOf_length f.data.length 4
  have hDl := p_bytesBits_length f.data
  have hIn := p_num_of f.id 11 hid
  have hCn := p_num_of f.data.length 4 (by omega)
  have hB : B = false :: (bitsOf f.id 11 ++ (f.rtr :: false :: false :: (bitsOf f.data.length 4 ++ (bytesBits f.data ++ S)))) := by
    rw [hBB, cBody, crcAdd, ← hS, cHead, hx]
    simp
  have hfB : crcFits 1 B = true := by rw [hBB]; exact hfit
  generalize bitsOf f.id 11 = I at *
  generalize bitsOf f.data.length 4 = C at *
  have hl : B.length = 19 + 8 * f.data.length + 15 := by rw [hB]; simp; omega
  rw [← hBB]
  clear hBB hS hfit
  have e0 : (B.take 1).getD 0 false = false := by rw [hB]; rfl
  have e12 : (B.take 14).getD 12 false = f.rtr := by
    rw [show B = (false :: I) ++ f.rtr :: (false :: false :: (C ++ (bytesBits f.data ++ S))) by rw [hB]; simp]
    exact p_flag _ _ _ 14 12 (by simp [hIl]) (by omega)
  have e13 : (B.take 14).getD 13 false = false := by
    rw [show B = (false :: I ++ [f.rtr]) ++ false :: (false :: (C ++ (bytesBits f.data ++ S))) by rw [hB]; simp]
    exact p_flag _ _ _ 14 13 (by simp [hIl]) (by omega)
  have e14 : (B.take 15).getD 14 false = false := by
    rw [show B = (false :: I ++ [f.rtr, false]) ++ false :: (C ++ (bytesBits f.data ++ S)) by rw [hB]; simp]
    exact p_flag _ _ _ 15 14 (by simp [hIl]) (by omega)
  have eI : num (((B.take 14).take 12).drop 1) = f.id := by
    rw [show B = [false] ++ (I ++ (f.rtr :: false :: false :: (C ++ (bytesBits f.data ++ S)))) by rw [hB]; simp, p_seg _ _ _ 14 1 12 rfl (by rw [hIl]) (by omega), hIn]
  have eC : num (((B.take 19).take 19).drop (19 - 4)) = f.data.length := by
    rw [show B = (false :: I ++ [f.rtr, false, false]) ++ (C ++ (bytesBits f.data ++ S)) by rw [hB]; simp, p_seg _ _ _ 19 15 19 (by simp [hIl]) (by rw [hCl]) (by omega), hCn]
  have eD : ((B.take (19 + 8 * f.data.length + 15)).take (19 + 8 * f.data.length)).drop 19 = bytesBits f.data := by
    rw [show B = (false :: I ++ [f.rtr, false, false] ++ C) ++ (bytesBits f.data ++ S) by rw [hB]; simp, p_seg _ _ _ _ 19 _ (by simp [hIl, hCl]) (by rw [hDl]) (by omega)]
  have s1 := stage xl B 0 1 .start Frame.zero (by omega) (by omega) (come_0 xl B)
  rw [nx_start e0] at s1
  have s2 := stage xl B 1 14 .ident _ (by omega) (by omega) s1
  rw [nx_ident e13 e12 eI] at s2
  have s3 := stage xl B 14 15 .format _ (by omega) (by omega) s2
  rw [nx_format0 e14] at s3
  have s4 := stage xl B 15 19 .code _ (by omega) (by omega) s3
  rw [nx_code (by rw [List.length_take]; omega) eC h8 ?hr] at s4
  case hr => exact hr
  refine classic_end xl B 19 f.data.length _ f rfl s4 hl eD hfB ?_
  obtain ⟨k, i, e, r, b, s, x, t, v, a, d⟩ := f
  simp only at *
  subst hk hx hb he hs h1 h2 h3
  rfl

theorem scan_ext (f : Frame) (xl : Bool) (h : f.ok = true) (hk : f.kind = 1) (hx : f.ext = true) : ∃ m, Thru (M.new xl) (stuffed (cBody f)) m ∧ AtEnd m f := by
  obtain ⟨h8, hb, he, hs, h1, h2, h3⟩ := ok_1 h hk
  have hid := ok_id h
  have hr := ok_rtr h
  rw [hx] at hid
  simp only [if_true] at hid
  have hfit := p_crcFits_add 1 (cHead f ++ bitsOf f.data.length 4 ++ bytesBits f.data) (by omega) (by omega)
  obtain ⟨S, hS⟩ : ∃ S, S = bitsOf (crcSum 1 (cHead f ++ bitsOf f.data.length 4 ++ bytesBits f.data)) (crcSize 1) := ⟨_, rfl⟩
  obtain ⟨B, hBB⟩ : ∃ B, B = cBody f := ⟨_, rfl⟩
  have hSl : S.length = 15 := by rw [hS, p_bitsOf_length]; rfl
  have hIl := p_bitsOf_length (f.id / 262144) 11
  have hJl := p_bitsOf_length (f.id % 262144) 18
  have hCl := p_bitsOf_length f.data.length 4
  have hDl := p_bytesBits_length f.data
  have hIn := p_num_of (f.id / 262144) 11 (by omega)
  have hJn := p_num_of (f.id % 262144) 18 (by omega)
  have hCn := p_num_of f.data.length 4 (by omega)
  have hB : B = false :: (bitsOf (f.id / 262144) 11 ++ (true :: true :: (bitsOf (f.id % 262144) 18 ++ (f.rtr :: false :: false :: (bitsOf f.data.length 4 ++ (bytesBits f.data ++ S)))))) := by
    rw [hBB, cBody, crcAdd, ← hS, cHead, hx]
    simp
  have hfB : crcFits 1 B = true := by rw [hBB]; exact hfit
  generalize bitsOf (f.id / 262144) 11 = I at *
  generalize bitsOf (f.id % 262144) 18 = J at *
  generalize bitsOf f.data.length 4 = C at *
  have hl : B.length = 39 + 8 * f.data.length + 15 := by rw [hB]; simp; omega
  rw [← hBB]
  clear hBB hS hfit
  have e0 : (B.take 1).getD 0 false = false := by rw [hB]; rfl
  have e12 : (B.take 14).getD 12 false = true := by
    rw [show B = (false :: I) ++ true :: (true :: (J ++ (f.rtr :: false :: false :: (C ++ (bytesBits f.data ++ S))))) by rw [hB]; simp]
    exact p_flag _ _ _ 14 12 (by simp [hIl]) (by omega)
  have e13 : (B.take 14).getD 13 false = true := by
    rw [show B = (false :: I ++ [true]) ++ true :: (J ++ (f.rtr :: false :: false :: (C ++ (bytesBits f.data ++ S)))) by rw [hB]; simp]
    exact p_flag _ _ _ 14 13 (by simp [hIl]) (by omega)
  have e32 : (B.take 34).getD 32 false = f.rtr := by
    rw [show B = (false :: I ++ [true, true] ++ J) ++ f.rtr :: (false :: false :: (C ++ (bytesBits f.data ++ S))) by rw [hB]; simp]
    exact p_flag _ _ _ 34 32 (by simp [hIl, hJl]) (by omega)
  have e33 : (B.take 34).getD 33 false = false := by
    rw [show B = (false :: I ++ [true, true] ++ J ++ [f.rtr]) ++ false :: (false :: (C ++ (bytesBits f.data ++ S))) by rw [hB]; simp]
    exact p_flag _ _ _ 34 33 (by simp [hIl, hJl]) (by omega)
  have e34 : (B.take 35).getD 34 false = false := by
    rw [show B = (false :: I ++ [true, true] ++ J ++ [f.rtr, false]) ++ false :: (C ++ (bytesBits f.data ++ S)) by rw [hB]; simp]
    exact p_flag _ _ _ 35 34 (by simp [hIl, hJl]) (by omega)
  have eI : num (((B.take 14).take 12).drop 1) = f.id / 262144 := by
    rw [show B = [false] ++ (I ++ (true :: true :: (J ++ (f.rtr :: false :: false :: (C ++ (bytesBits f.data ++ S)))))) by rw [hB]; simp, p_seg _ _ _ 14 1 12 rfl (by rw [hIl]) (by omega), hIn]
  have eJ : num (((B.take 34).take 32).drop 14) = f.id % 262144 := by
    rw [show B = (false :: I ++ [true, true]) ++ (J ++ (f.rtr :: false :: false :: (C ++ (bytesBits f.data ++ S)))) by rw [hB]; simp, p_seg _ _ _ 34 14 32 (by simp [hIl]) (by rw [hJl]) (by omega), hJn]
  have eC : num (((B.take 39).take 39).drop (39 - 4)) = f.data.length := by
    rw [show B = (false :: I ++ [true, true] ++ J ++ [f.rtr, false, false]) ++ (C ++ (bytesBits f.data ++ S)) by rw [hB]; simp, p_seg _ _ _ 39 35 39 (by simp [hIl, hJl]) (by rw [hCl]) (by omega), hCn]
  have eD : ((B.take (39 + 8 * f.data.length + 15)).take (39 + 8 * f.data.length)).drop 39 = bytesBits f.data := by
    rw [show B = (false :: I ++ [true, true] ++ J ++ [f.rtr, false, false] ++ C) ++ (bytesBits f.data ++ S) by rw [hB]; simp, p_seg _ _ _ _ 39 _ (by simp [hIl, hJl, hCl]) (by rw [hDl]) (by omega)]
  have s1 := stage xl B 0 1 .start Frame.zero (by omega) (by omega) (come_0 xl B)
  rw [nx_start e0] at s1
  have s2 := stage xl B 1 14 .ident _ (by omega) (by omega) s1
  rw [nx_identX e13 e12 eI] at s2
  have s3 := stage xl B 14 34 .extended _ (by omega) (by omega) s2
  rw [nx_extended e33 e32 eJ] at s3
  have s4 := stage xl B 34 35 .reserved _ (by omega) (by omega) s3
  rw [nx_reserved e34] at s4
  have s5 := stage xl B 35 39 .code _ (by omega) (by omega) s4
  rw [nx_code (by rw [List.length_take]; omega) eC h8 ?hr] at s5
  case hr => exact hr
  refine classic_end xl B 39 f.data.length _ f rfl s5 hl eD hfB ?_
  obtain ⟨k, i, e, r, b, s, x, t, v, a, d⟩ := f
  simp only at *
  subst hk hx hb he hs h1 h2 h3
  simp [Frame.zero]
  omega

theorem scan_classic (f : Frame) (xl : Bool) (h : f.ok = true) (hk : f.kind = 1) : ∃ m, Thru (M.new xl) (stuffed (cBody f)) m ∧ AtEnd m f := by
  cases hx : f.ext
  · exact scan_std f xl h hk hx
  · exact scan_ext f xl h hk hx
end Om

/- The plain scanning law: FD and XL frames. -/
namespace Om

theorem p_tells (n : Nat) : tells (tally n) = some (n % 8) := by
  have h : ∀ m, m < 8 → tells (tally m) = some m := by decide
  have e : tally n = tally (n % 8) := by unfold tally; rw [Nat.mod_mod]
  rw [e, h _ (Nat.mod_lt _ (by decide))]
theorem p_tally_length (n : Nat) : (tally n).length = 4 := by
  have h : ∀ m, m < 8 → (tally m).length = 4 := by decide
  have e : tally n = tally (n % 8) := by unfold tally; rw [Nat.mod_mod]
  rw [e, h _ (Nat.mod_lt _ (by decide))]
theorem M.tells_eq (m : M) (B : List Bool) (hr : m.raw = stuffed B) (l : List Bool) (hl : l = tally ((stuffed B).length - B.length)) : m.tells l = true := by
  unfold M.tells
  rw [hl, p_tells, hr, p_count]
  simp
theorem p_seg' (p x q : List Bool) (a b : Nat) (ha : p.length = a) (hb : a + x.length = b) : ((p ++ (x ++ q)).take b).drop a = x := by
  subst ha; subst hb
  rw [List.take_append, List.drop_append]
  simp

theorem fd_end (xl : Bool) (f : Frame) (m : M) (B : List Bool) (hB : B = fBody f) (hc : Thru (M.new xl) (stuffed B) m) (hs : m.step = .part ⟨4, true⟩ (fixSize (4 + crcSize (fSumKind f.data.length)) ⟨4, true⟩) ((stuffed B).getLastD false) (.fdSum (fSumKind f.data.length)))
    (h0 : m.st.kind = 0) (ho : m.own = []) (hr : m.raw = stuffed B) (hf : m.f = f) : ∃ m, Thru (M.new xl) (fRaw f) m ∧ AtEnd m f := by
  obtain ⟨k, hk⟩ : ∃ k, k = fSumKind f.data.length := ⟨_, rfl⟩
  obtain ⟨st, hst⟩ : ∃ st, st = (stuffed B).length - B.length := ⟨_, rfl⟩
  obtain ⟨S, hS⟩ : ∃ S, S = bitsOf (crcSum k (stuffed B ++ tally st)) (crcSize k) := ⟨_, rfl⟩
  have hk15 : 1 ≤ k ∧ k ≤ 5 := by rw [hk]; unfold fSumKind; split <;> omega
  have hSl : S.length = crcSize k := by rw [hS, p_bitsOf_length]
  have hadd : crcAdd k (stuffed B ++ tally st) = stuffed B ++ (tally st ++ S) := by rw [crcAdd, ← hS, List.append_assoc]
  have hfit := p_crcFits_add k (stuffed B ++ tally st) hk15.1 hk15.2
  rw [hadd] at hfit
  have hraw : fRaw f = stuffed B ++ fixPut ((stuffed B).getLastD false) (tally st ++ S) ⟨4, true⟩ := by
    rw [fRaw, fClose, ← hB, ← hst, ← hk, hadd]
    simp
  have hL : (tally st ++ S).length = 4 + crcSize k := by rw [List.length_append, p_tally_length, hSl]
  rw [← hk, ← hL] at hs
  have hne : tally st ++ S ≠ [] := by intro e; rw [e] at hL; simp at hL; omega
  have hp := part_thru (tally st ++ S) _ ⟨4, true⟩ (by decide) hne _ (fixPut ((stuffed B).getLastD false) (tally st ++ S) ⟨4, true⟩) m hs h0 (by
    intro e
    have := p_fixPut_length ((stuffed B).getLastD false) _ ⟨4, true⟩ (by decide) hne
    rw [e, hL] at this
    simp [fixSize] at this) (by rw [ho]; rfl)
  rw [hraw]
  refine ⟨_, hc.append hp, rfl, rfl, ?_, hf, h0⟩
  show (M.tells _ ((tally st ++ S).take 4) && crcFits k (m.raw ++ (tally st ++ S))) = true
  rw [hr, hfit, Bool.and_true]
  refine M.tells_eq _ B rfl _ ?_
  rw [← hst, List.take_append_of_le_length (by rw [p_tally_length]; omega), List.take_of_length_le (by rw [p_tally_length]; omega)]

theorem scan_fd (f : Frame) (xl : Bool) (h : f.ok = true) (hk : f.kind = 2) : ∃ m, Thru (M.new xl) (fRaw f) m ∧ AtEnd m f := by
  obtain ⟨⟨c, hc, hcode, hsz⟩, hx, hr, hs, h1, h2, h3⟩ := ok_2 h hk
  have hid := ok_id h
  rw [hx] at hid
  simp only [Bool.false_eq_true, if_false] at hid
  obtain ⟨B, hBB⟩ : ∃ B, B = fBody f := ⟨_, rfl⟩
  have hIl := p_bitsOf_length f.id 11
  have hCl := p_bitsOf_length c 4
  have hDl := p_bytesBits_length f.data
  have hIn := p_num_of f.id 11 hid
  have hCn := p_num_of c 4 (by omega)
  have hB : B = false :: (bitsOf f.id 11 ++ (false :: false :: true :: false :: f.brs :: f.esi :: (bitsOf c 4 ++ bytesBits f.data))) := by
    rw [hBB, fBody, fHead, hcode]
    simp
  generalize bitsOf f.id 11 = I at *
  generalize bitsOf c 4 = C at *
  have hl : B.length = 22 + 8 * f.data.length := by rw [hB]; simp; omega
  have e0 : (B.take 1).getD 0 false = false := by rw [hB]; rfl
  have e12 : (B.take 14).getD 12 false = false := by
    rw [show B = (false :: I) ++ false :: (false :: true :: false :: f.brs :: f.esi :: (C ++ bytesBits f.data)) by rw [hB]; simp]
    exact p_flag _ _ _ 14 12 (by simp [hIl]) (by omega)
  have e13 : (B.take 14).getD 13 false = false := by
    rw [show B = (false :: I ++ [false]) ++ false :: (true :: false :: f.brs :: f.esi :: (C ++ bytesBits f.data)) by rw [hB]; simp]
    exact p_flag _ _ _ 14 13 (by simp [hIl]) (by omega)
  have e14 : (B.take 15).getD 14 false = true := by
    rw [show B = (false :: I ++ [false, false]) ++ true :: (false :: f.brs :: f.esi :: (C ++ bytesBits f.data)) by rw [hB]; simp]
    exact p_flag _ _ _ 15 14 (by simp [hIl]) (by omega)
  have e15 : (B.take 16).getD 15 false = false := by
    rw [show B = (false :: I ++ [false, false, true]) ++ false :: (f.brs :: f.esi :: (C ++ bytesBits f.data)) by rw [hB]; simp]
    exact p_flag _ _ _ 16 15 (by simp [hIl]) (by omega)
  have e16 : (B.take 22).getD 16 false = f.brs := by
    rw [show B = (false :: I ++ [false, false, true, false]) ++ f.brs :: (f.esi :: (C ++ bytesBits f.data)) by rw [hB]; simp]
    exact p_flag _ _ _ 22 16 (by simp [hIl]) (by omega)
  have e17 : (B.take 22).getD 17 false = f.esi := by
    rw [show B = (false :: I ++ [false, false, true, false, f.brs]) ++ f.esi :: (C ++ bytesBits f.data) by rw [hB]; simp]
    exact p_flag _ _ _ 22 17 (by simp [hIl]) (by omega)
  have eI : num (((B.take 14).take 12).drop 1) = f.id := by
    rw [show B = [false] ++ (I ++ (false :: false :: true :: false :: f.brs :: f.esi :: (C ++ bytesBits f.data))) by rw [hB]; simp, p_seg _ _ _ 14 1 12 rfl (by rw [hIl]) (by omega), hIn]
  have eC : fdSizes.getD (num (((B.take 22).take 22).drop 18)) 0 = f.data.length := by
    rw [show B = (false :: I ++ [false, false, true, false, f.brs, f.esi]) ++ (C ++ bytesBits f.data) by rw [hB]; simp, p_seg _ _ _ 22 18 22 (by simp [hIl]) (by rw [hCl]) (by omega), hCn, hsz]
  have eD : B.drop 22 = bytesBits f.data := by
    rw [show B = (false :: I ++ [false, false, true, false, f.brs, f.esi] ++ C) ++ bytesBits f.data by rw [hB]; simp]
    exact List.drop_left' (by simp [hIl, hCl])
  have s1 := stage xl B 0 1 .start Frame.zero (by omega) (by omega) (come_0 xl B)
  rw [nx_start e0] at s1
  have s2 := stage xl B 1 14 .ident _ (by omega) (by omega) s1
  rw [nx_ident e13 e12 eI] at s2
  have s3 := stage xl B 14 15 .format _ (by omega) (by omega) s2
  rw [nx_format1 e14 rfl] at s3
  have s4 := stage xl B 15 16 .newer _ (by omega) (by omega) s3
  rw [nx_newer0 e15] at s4
  have s5 := stage xl B 16 22 .fdCode _ (by omega) (by omega) s4
  have hfr : ∀ d, d = f.data → ({ Frame.zero with kind := 2, id := f.id, rtr := false, brs := f.brs, esi := f.esi, data := d } : Frame) = f := by
    rintro _ rfl
    obtain ⟨k, i, e, r, b, s, x, t, v, a, d⟩ := f
    simp only at *
    subst hk hx hr hs h1 h2 h3
    rfl
  by_cases h0 : f.data.length = 0
  · rw [nx_fdCode0 e16 e17 (by rw [eC, h0])] at s5
    unfold Come at s5
    have hB22 : B.take 22 = B := List.take_of_length_le (by omega)
    rw [hB22] at s5
    refine fd_end xl f _ B hBB s5 ?_ rfl rfl ?_ ?_
    · rw [h0]; simp only [M.fdData, M.part, mkD, hB22]; rfl
    · simp only [M.fdData, M.part, mkD, hB22]
    · refine hfr _ ?_
      show pack ((B.take 22).drop 22) = f.data
      rw [hB22, eD, p_pack_bytes]
  · rw [nx_fdCode e16 e17 eC h0] at s5
    have s6 := stage xl B 22 (22 + 8 * f.data.length) (.fdData f.data.length) _ (by omega) (by omega) s5
    unfold Come at s6
    have hBn : B.take (22 + 8 * f.data.length) = B := List.take_of_length_le (by omega)
    rw [hBn] at s6
    refine fd_end xl f _ B hBB s6 ?_ rfl rfl ?_ ?_
    · simp only [M.nexts, M.fdData, M.part, mkD, hBn]; rfl
    · simp only [M.nexts, M.fdData, M.part, mkD, hBn]
    · refine hfr _ ?_
      show pack ((B.take (22 + 8 * f.data.length)).drop 22) = f.data
      rw [hBn, eD, p_pack_bytes]

theorem scan_xl (f : Frame) (h : f.ok = true) (hk : f.kind = 3) (ht : f.Typed) : ∃ m, Thru (M.new true) (xRaw f) m ∧ AtEnd m f := by
  obtain ⟨hn1, hn2, hcode, hx, hr, hb, he⟩ := ok_3 h hk
  have hid := ok_id h
  rw [hx] at hid
  simp only [Bool.false_eq_true, if_false] at hid
  obtain ⟨B, hBB⟩ : ∃ B, B = xHead f := ⟨_, rfl⟩
  have hIl := p_bitsOf_length f.id 11
  have hIn := p_num_of f.id 11 hid
  have hB : B = false :: (bitsOf f.id 11 ++ [false, false, true, true, false]) := by rw [hBB, xHead]
  generalize bitsOf f.id 11 = I at *
  have hl : B.length = 17 := by rw [hB]; simp [hIl]
  have e0 : (B.take 1).getD 0 false = false := by rw [hB]; rfl
  have e12 : (B.take 14).getD 12 false = false := by
    rw [show B = (false :: I) ++ false :: [false, true, true, false] by rw [hB]; simp]
    exact p_flag _ _ _ 14 12 (by simp [hIl]) (by omega)
  have e13 : (B.take 14).getD 13 false = false := by
    rw [show B = (false :: I ++ [false]) ++ false :: [true, true, false] by rw [hB]; simp]
    exact p_flag _ _ _ 14 13 (by simp [hIl]) (by omega)
  have e14 : (B.take 15).getD 14 false = true := by
    rw [show B = (false :: I ++ [false, false]) ++ true :: [true, false] by rw [hB]; simp]
    exact p_flag _ _ _ 15 14 (by simp [hIl]) (by omega)
  have e15 : (B.take 16).getD 15 false = true := by
    rw [show B = (false :: I ++ [false, false, true]) ++ true :: [false] by rw [hB]; simp]
    exact p_flag _ _ _ 16 15 (by simp [hIl]) (by omega)
  have e16 : (B.take 17).getD 16 false = false := by
    rw [show B = (false :: I ++ [false, false, true, true]) ++ false :: [] by rw [hB]; simp]
    exact p_flag _ _ _ 17 16 (by simp [hIl]) (by omega)
  have eI : num (((B.take 14).take 12).drop 1) = f.id := by
    rw [show B = [false] ++ (I ++ [false, false, true, true, false]) by rw [hB]; simp, p_seg _ _ _ 14 1 12 rfl (by rw [hIl]) (by omega), hIn]
  have s1 := stage true B 0 1 .start Frame.zero (by omega) (by omega) (come_0 true B)
  rw [nx_start e0] at s1
  have s2 := stage true B 1 14 .ident _ (by omega) (by omega) s1
  rw [nx_ident e13 e12 eI] at s2
  have s3 := stage true B 14 15 .format _ (by omega) (by omega) s2
  rw [nx_format1 e14 rfl] at s3
  have s4 := stage true B 15 16 .newer _ (by omega) (by omega) s3
  rw [nx_newer1 e15] at s4
  have s5 := stage true B 16 17 .xlHead _ (by omega) (by omega) s4
  rw [nx_xlHead e16] at s5
  unfold Come at s5
  have hB17 : B.take 17 = B := List.take_of_length_le (by omega)
  rw [hB17] at s5
  -- the data part
  obtain ⟨st, hst⟩ : ∃ st, st = (stuffed B).length - B.length := ⟨_, rfl⟩
  obtain ⟨n, hn⟩ : ∃ n, n = f.data.length := ⟨_, rfl⟩
  obtain ⟨L, hL⟩ : ∃ L, L = xBody f := ⟨_, rfl⟩
  obtain ⟨S, hS⟩ : ∃ S, S = bitsOf (crcSum 4 (xHead f ++ xPart f)) 13 := ⟨_, rfl⟩
  obtain ⟨R, hR⟩ : ∃ R, R = bitsOf (crcSum 5 (xSealed f ++ bitsOf f.vcid 8 ++ bitsOf f.af 32 ++ bytesBits f.data)) (crcSize 5) := ⟨_, rfl⟩
  have hSl : S.length = 13 := by rw [hS, p_bitsOf_length]
  have hRl : R.length = 32 := by rw [hR, p_bitsOf_length]; rfl
  have hfit5 : crcFits 5 L = true := by rw [hL]; exact p_crcFits_add 5 _ (by omega) (by omega)
  have hfit4 : crcFits 4 (B ++ (xPart f ++ S)) = true := by
    have := p_crcFits_add 4 (xHead f ++ xPart f) (by omega) (by omega)
    rw [crcAdd, show crcSize 4 = 13 from rfl, ← hS, List.append_assoc, ← hBB] at this
    exact this
  have hTl := p_bitsOf_length f.sdt 8
  have hTn := p_num_of f.sdt 8 ht.sdt
  have hCl := p_bitsOf_length (n - 1) 11
  have hCn := p_num_of (n - 1) 11 (by omega)
  have hVl := p_bitsOf_length f.vcid 8
  have hVn := p_num_of f.vcid 8 ht.vcid
  have hAl := p_bitsOf_length f.af 32
  have hAn := p_num_of f.af 32 ht.af
  have hDl := p_bytesBits_length f.data
  have hPl := p_tally_length st
  have hPart : xPart f = bitsOf f.sdt 8 ++ (f.sec :: (bitsOf (n - 1) 11 ++ tally st)) := by rw [xPart, ← hBB, ← hst, ← hn]; simp
  have hLL : L = bitsOf f.sdt 8 ++ (f.sec :: (bitsOf (n - 1) 11 ++ (tally st ++ (S ++ (bitsOf f.vcid 8 ++ (bitsOf f.af 32 ++ (bytesBits f.data ++ R))))))) := by
    rw [hL, xBody, crcAdd, ← hR, xSealed, ← hS, hPart]
    simp
  rw [hPart] at hfit4
  have hraw : xRaw f = stuffed B ++ ([true, false, false, true] ++ (fixPut true L ⟨8, false⟩ ++ [false, true, true, false])) := by rw [xRaw, ← hBB, ← hL]; simp
  generalize bitsOf f.sdt 8 = T at *
  generalize bitsOf (n - 1) 11 = C at *
  generalize bitsOf f.vcid 8 = V at *
  generalize bitsOf f.af 32 = A at *
  clear hS hR hL hPart
  have hLl : L.length = 109 + 8 * n := by rw [hLL]; simp; omega
  have hL1 : L.take 20 = T ++ (f.sec :: C) := by
    rw [show L = (T ++ (f.sec :: C)) ++ (tally st ++ (S ++ (V ++ (A ++ (bytesBits f.data ++ R))))) by rw [hLL]; simp]
    exact List.take_left' (by simp [hTl, hCl])
  have eT : num (L.take 8) = f.sdt := by rw [hLL, List.take_left' hTl, hTn]
  have eS : L.getD 8 false = f.sec := by
    have := p_flag T f.sec (C ++ (tally st ++ (S ++ (V ++ (A ++ (bytesBits f.data ++ R)))))) 9 8 hTl (by omega)
    rw [← hLL] at this
    rw [← this, List.getD_eq_getElem?_getD, List.getD_eq_getElem?_getD, List.getElem?_take]
    simp
  have eC : num ((L.take 20).drop 9) = n - 1 := by
    rw [show L = (T ++ [f.sec]) ++ (C ++ (tally st ++ (S ++ (V ++ (A ++ (bytesBits f.data ++ R)))))) by rw [hLL]; simp, p_seg' _ _ _ 9 20 (by simp [hTl]) (by rw [hCl]), hCn]
  have eP : (L.take 24).drop 20 = tally st := by
    rw [show L = (T ++ f.sec :: C) ++ (tally st ++ (S ++ (V ++ (A ++ (bytesBits f.data ++ R))))) by rw [hLL]; simp, p_seg' _ _ _ 20 24 (by simp [hTl, hCl]) (by rw [hPl])]
  have eH : L.take 37 = T ++ (f.sec :: (C ++ tally st)) ++ S := by
    rw [show L = (T ++ (f.sec :: (C ++ tally st)) ++ S) ++ (V ++ (A ++ (bytesBits f.data ++ R))) by rw [hLL]; simp]
    exact List.take_left' (by simp [hTl, hCl, hPl, hSl])
  have eV : num ((L.take 45).drop 37) = f.vcid := by
    rw [show L = (T ++ f.sec :: C ++ tally st ++ S) ++ (V ++ (A ++ (bytesBits f.data ++ R))) by rw [hLL]; simp, p_seg' _ _ _ 37 45 (by simp [hTl, hCl, hPl, hSl]) (by rw [hVl]), hVn]
  have eA : num ((L.take 77).drop 45) = f.af := by
    rw [show L = (T ++ f.sec :: C ++ tally st ++ S ++ V) ++ (A ++ (bytesBits f.data ++ R)) by rw [hLL]; simp, p_seg' _ _ _ 45 77 (by simp [hTl, hCl, hPl, hSl, hVl]) (by rw [hAl]), hAn]
  have eD : pack ((L.take (77 + 8 * n)).drop 77) = f.data := by
    rw [show L = (T ++ f.sec :: C ++ tally st ++ S ++ V ++ A) ++ (bytesBits f.data ++ R) by rw [hLL]; simp, p_seg' _ _ _ 77 _ (by simp [hTl, hCl, hPl, hSl, hVl, hAl]) (by rw [hDl, hn]), p_pack_bytes]
  obtain ⟨P, hP⟩ : ∃ P, P = fixPut true L ⟨8, false⟩ := ⟨_, rfl⟩
  obtain ⟨P1, hP1⟩ : ∃ P1, P1 = fixPut true (L.take 20) ⟨8, false⟩ := ⟨_, rfl⟩
  obtain ⟨P2, hP2⟩ : ∃ P2, P = P1 ++ P2 := by
    obtain ⟨x, y, e⟩ := p_fix_append 8 (L.take 20) (L.drop 20) true 8
    exact ⟨_, by rw [hP, hP1]; conv => lhs; rw [← List.take_append_drop 20 L]
                 exact e⟩
  have hPl := p_fixPut_length true L ⟨8, false⟩ (by decide) (by intro e; rw [e] at hLl; simp at hLl; omega)
  have hP1l := p_fixPut_length true (L.take 20) ⟨8, false⟩ (by decide) (by intro e; have := congrArg List.length e; rw [List.length_take, hLl] at this; simp at this)
  have h20 : (L.take 20).length = 20 := by rw [List.length_take]; omega
  rw [h20] at hP1l
  rw [← hP] at hPl
  rw [← hP1] at hP1l
  have hf20 : fixSize 20 ⟨8, false⟩ = 22 := by decide
  have hP22 : fixSize L.length ⟨8, false⟩ ≥ 117 := by unfold fixSize; rw [if_neg (by omega)]; simp; omega
  have hP2n : P2 ≠ [] := by rintro rfl; rw [hP2, List.append_nil, hP1l, hf20] at hPl; omega
  have t1 := mark4_thru true false false true .xlCode _ (by rfl) (by rfl) (by rfl) |> s5.append
  have t2 := part_thru (L.take 20) true ⟨8, false⟩ (by decide) (by intro e; rw [e] at h20; simp at h20) .xlCode P1 _ (by rw [h20]; rfl) (by rfl) (by rintro rfl; rw [hf20] at hP1l; simp at hP1l) (by rw [← hP1]; rfl) |> t1.append
  have hnn : num ((L.take 20).drop 9) + 1 = n := by rw [eC]; omega
  simp only [M.parted, hnn] at t2
  have t3 := part_thru L true ⟨8, false⟩ (by decide) (by intro e; rw [e] at hLl; simp at hLl; omega) (.xlData n) P2 _ (by rw [hLl]; rfl) (by rfl) hP2n (by rw [← hP, hP2, hP1]; rfl) |> t2.append
  have t4 := mark4_thru false true true false .fin _ (by rfl) (by rfl) (by rfl) |> t3.append
  have e5 : stuffed B ++ [true, false, false, true] ++ P1 ++ P2 ++ [false, true, true, false] = xRaw f := by rw [hraw, ← hP, hP2]; simp
  rw [e5] at t4
  refine ⟨_, t4, rfl, rfl, ?_, ?_, rfl⟩
  · show (M.tells _ ((L.take 24).drop 20) && crcFits 4 ((B.take 17) ++ L.take 37) && crcFits 5 L) = true
    rw [hfit5, eH, hB17]
    rw [show B ++ (T ++ f.sec :: (C ++ tally st) ++ S) = B ++ (T ++ (f.sec :: (C ++ tally st)) ++ S) by simp, hfit4, Bool.and_true, Bool.and_true]
    exact M.tells_eq _ B (by show stuffed (B.take 17) = _; rw [hB17]) _ (by rw [eP, hst])
  · show ({ kind := 3, id := f.id, ext := false, rtr := false, brs := false, esi := false, sec := L.getD 8 false, sdt := num (L.take 8), vcid := num ((L.take 45).drop 37), af := num ((L.take 77).drop 45), data := pack ((L.take (77 + 8 * n)).drop 77) } : Frame) = f
    rw [eS, eT, eV, eA, eD]
    obtain ⟨k, i, e, r, b, s, x, t, v, a, d⟩ := f
    simp only at *
    subst hk hx hr hb he
    rfl

/-- The raw bits of a frame, up to the delimiter. -/
def rawOf (f : Frame) : List Bool := if f.kind = 1 then stuffed (cBody f) else if f.kind = 2 then fRaw f else xRaw f
theorem wire_bits (f : Frame) : (wire f).bits = rawOf f ++ ones 10 ∧ (wire f).ack = (rawOf f).length + 1 := by
  unfold wire rawOf
  by_cases h1 : f.kind = 1
  · rw [if_pos h1, if_pos h1]; exact ⟨rfl, rfl⟩
  · by_cases h2 : f.kind = 2
    · rw [if_neg h1, if_pos h2, if_neg h1, if_pos h2]; exact ⟨rfl, rfl⟩
    · rw [if_neg h1, if_neg h2, if_neg h1, if_neg h2]; exact ⟨rfl, rfl⟩
/-- Whoever knows the frame's kind is, behind its raw bits, ahead of the delimiter, with the frame. -/
theorem scan_raw (f : Frame) (xl : Bool) (h : f.ok = true) (ht : f.Typed) (hx : f.kind = 3 → xl = true) : ∃ m, Thru (M.new xl) (rawOf f) m ∧ AtEnd m f := by
  unfold rawOf
  rcases ok_kind h with hk | hk | hk
  · rw [if_pos hk]; exact scan_classic f xl h hk
  · rw [if_neg (by omega), if_pos hk]; exact scan_fd f xl h hk
  · rw [if_neg (by omega), if_neg (by omega), hx hk]; exact scan_xl f h hk ht
end Om
