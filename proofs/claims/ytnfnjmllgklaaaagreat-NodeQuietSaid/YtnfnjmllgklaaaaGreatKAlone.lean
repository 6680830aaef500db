/- Plain laws of one node: who is alone is never heard; who has nothing drives nothing. No Go in it. -/
import Derived.Test.YtnfnjmllgklaaaaGreatKNodeP
set_option linter.unusedVariables false
set_option linter.unusedSimpArgs false
namespace Om

/-- A node alone on its wire, with a frame. -/
structure Alone (n : N) : Prop where
  has : n.has = true
  b0 : n.w.bits.getD 0 true = false
  ack : n.w.ack + 1 < n.w.bits.length
  slot : n.w.bits.getD n.w.ack true = true
  rec_ : n.fault.rec_ = 0
  off : n.fault.off = false
  tec : n.fault.tec ≤ 128
  t8 : n.fault.tec % 8 = 0
  phase : n.phase = 1 ∨ (n.phase = 2 ∧ n.count ≤ n.w.ack) ∨ n.phase = 5 ∨ n.phase = 7 ∨ n.phase = 8 ∨ n.phase = 9

theorem alone_of {n m : N} (h : Alone n) (h1 : m.has = n.has) (h2 : m.w = n.w) (h3 : m.fault = n.fault) (h4 : m.phase = 1 ∨ (m.phase = 2 ∧ m.count ≤ m.w.ack) ∨ m.phase = 5 ∨ m.phase = 7 ∨ m.phase = 8 ∨ m.phase = 9) : Alone m :=
  ⟨by rw [h1]; exact h.has, by rw [h2]; exact h.b0, by rw [h2]; exact h.ack, by rw [h2]; exact h.slot, by rw [h3]; exact h.rec_, by rw [h3]; exact h.off, by rw [h3]; exact h.tec, by rw [h3]; exact h.t8, h4⟩
theorem wrong_eq (n : N) (ev e : Nat) (h : (n.fault.next ev).off = false) : n.wrong ev e = (⟨4, e, Frame.zero⟩, ({ n.counts ev with quiet := (n.counts ev).passive } : N).to 5) := by
  unfold N.wrong
  exact congrArg (Prod.mk _) (if_neg (by show ¬ (n.fault.next ev).off = true; rw [h]; decide))
/-- What a bit of its own does. -/
structure AloneStep (n : N) (r : Ev × N) : Prop where
  alone : Alone r.2
  up : n.fault.tec ≤ r.2.fault.tec
  ev : r.1.kind = 0 ∨ (r.1.kind = 4 ∧ r.1.err = 9)
theorem alone_counted {n : N} (h : Alone n) (b : Bool) (most next : Nat) (hp : n.phase = 5 ∨ n.phase = 7 ∨ n.phase = 8 ∨ n.phase = 9) (hn : next = 1 ∨ next = 7 ∨ next = 8 ∨ next = 9) : AloneStep n (n.counted b most next) := by
  simp only [N.counted]
  generalize (if b = true then n.count + 1 else 0) = c
  refine ⟨?_, ?_, .inl rfl⟩
  · simp only
    split
    · exact alone_of h rfl rfl rfl (by simp only [N.to]; omega)
    · exact alone_of h rfl rfl rfl (by simp only; omega)
  · simp only
    split <;> exact Nat.le_refl _
theorem alone_send {n : N} (h : Alone n) (hp : n.phase = 2) (hc : n.count ≤ n.w.ack) : AloneStep n (n.send (n.w.bits.getD n.count true)) := by
  unfold N.send
  simp only
  have hack := h.ack
  by_cases ha : n.count = n.w.ack
  · rw [if_pos ha, ha, h.slot, if_pos rfl]
    have hoff := h.off
    have htec := h.tec
    have h8 := h.t8
    have hrec := h.rec_
    have hm : n.fault.mode = if 127 < n.fault.tec then 1 else 0 := by
      unfold Fault.mode; rw [hoff, hrec]; simp
    have hnx : (n.fault.next 5) = if 127 < n.fault.tec then n.fault else ⟨n.fault.tec + 8, 0, false⟩ := by
      unfold Fault.next
      rw [hoff]
      simp only [Bool.false_eq_true, if_false]
      rw [hm]
      by_cases ht : 127 < n.fault.tec
      · simp [ht]
      · simp only [ht, if_false, if_true, Fault.sendError, hrec]
        have : decide (255 < n.fault.tec + 8) = false := by simp; omega
        rw [this]
    have hx : (n.fault.next 5).off = false ∧ (n.fault.next 5).rec_ = 0 ∧ (n.fault.next 5).tec ≤ 128 ∧ (n.fault.next 5).tec % 8 = 0 ∧ n.fault.tec ≤ (n.fault.next 5).tec := by
      rw [hnx]
      by_cases ht : 127 < n.fault.tec
      · rw [if_pos ht]; exact ⟨hoff, hrec, htec, h8, Nat.le_refl _⟩
      · rw [if_neg ht]; exact ⟨rfl, rfl, by simp only; omega, by simp only; omega, by simp only; omega⟩
    rw [wrong_eq ({ n with count := n.w.ack, row := n.row.see true } : N) 5 9 hx.1]
    exact ⟨⟨h.has, h.b0, h.ack, h.slot, hx.2.1, hx.1, hx.2.2.1, hx.2.2.2.1, .inr (.inr (.inl rfl))⟩, hx.2.2.2.2, .inr ⟨rfl, rfl⟩⟩
  · rw [if_neg ha, if_neg (by simp), if_pos (by omega)]
    exact ⟨alone_of h rfl rfl rfl (by simp only; omega), Nat.le_refl _, .inl rfl⟩
theorem alone_step {n : N} (h : Alone n) : AloneStep n (n.take n.out) := by
  rcases h.phase with e | ⟨e, hc⟩ | e | e | e | e
  · have ho : n.out = false := by unfold N.out; rw [if_pos e, h.has]; rfl
    have ht : n.take false = (({ n with sender := n.has } : N).begin 2).send false := by
      unfold N.take; rw [e]
      show n.idle false = _
      unfold N.idle
      exact if_pos h.has
    have h2 : Alone (({ n with sender := n.has } : N).begin 2) := ⟨h.has, h.b0, h.ack, h.slot, h.rec_, h.off, h.tec, h.t8, .inr (.inl ⟨rfl, Nat.zero_le _⟩)⟩
    have h3 := alone_send h2 rfl (Nat.zero_le _)
    rw [show (({ n with sender := n.has } : N).begin 2).w.bits.getD (({ n with sender := n.has } : N).begin 2).count true = false from h.b0] at h3
    rw [ho, ht]
    exact ⟨h3.alone, h3.up, h3.ev⟩
  · have ho : n.out = n.w.bits.getD n.count true := by unfold N.out; rw [if_neg (by omega), if_pos e]
    have ht : n.take (n.w.bits.getD n.count true) = n.send (n.w.bits.getD n.count true) := by unfold N.take; rw [e]; rfl
    rw [ho, ht]
    exact alone_send h e hc
  · have ht : ∀ b, n.take b = n.counted true 6 7 := fun b => by unfold N.take; rw [e]; rfl
    rw [ht]; exact alone_counted h _ _ _ (by omega) (by omega)
  · have ht : ∀ b, n.take b = n.counted b 8 8 := fun b => by unfold N.take; rw [e]; rfl
    rw [ht]; exact alone_counted h _ _ _ (by omega) (by omega)
  · have ho : n.out = true := by unfold N.out; rw [e]; rfl
    have ht : n.take true = n.counted true 3 (if n.sender ∧ n.passive then 9 else 1) := by unfold N.take; rw [e]; rfl
    rw [ho, ht]
    refine alone_counted h _ _ _ (by omega) ?_
    split <;> omega
  · have ho : n.out = true := by unfold N.out; rw [e]; rfl
    have ht : n.take true = n.counted true 8 1 := by unfold N.take; rw [e]; rfl
    rw [ho, ht]
    exact alone_counted h _ _ _ (by omega) (by omega)

/-- Nothing but ones, to a node without a frame. -/
structure Quiet (n : N) (i : Nat) : Prop where
  has : n.has = false
  fault : n.fault = ⟨0, 0, false⟩
  phase : (n.phase = 0 ∧ n.count = i ∧ i ≤ 10) ∨ (n.phase = 1 ∧ n.count = 0 ∧ 11 ≤ i)
theorem quiet_new (k : Bool) : Quiet (N.new k) 0 := ⟨rfl, rfl, .inl ⟨rfl, rfl, by decide⟩⟩
theorem quiet_step {n : N} {i : Nat} (h : Quiet n i) : Quiet (n.take true).2 (i + 1) ∧ (n.take true).1 = Ev.none ∧ n.out = true ∧ (n.take true).2.f = n.f := by
  rcases h.phase with ⟨e, hc, hi⟩ | ⟨e, hc, hi⟩
  · have ho : n.out = true := by unfold N.out; rw [e]; rfl
    have ht : n.take true = n.counted true 11 1 := by unfold N.take; rw [e]; rfl
    rw [ht, ho]
    simp only [N.counted, if_true, hc]
    by_cases h11 : i + 1 = 11
    · rw [if_pos h11]; exact ⟨⟨h.has, h.fault, .inr ⟨rfl, rfl, by omega⟩⟩, trivial, trivial, rfl⟩
    · rw [if_neg h11]; exact ⟨⟨h.has, h.fault, .inl ⟨e, rfl, by omega⟩⟩, trivial, trivial, rfl⟩
  · have ho : n.out = true := by unfold N.out; rw [if_pos e, h.has]; rfl
    have ht : n.take true = (Ev.none, { n with sender := n.has }) := by
      rw [take_1 e]
      unfold N.idle
      rw [if_neg (by rw [h.has]; decide)]
      rfl
    rw [ht, ho]
    exact ⟨⟨h.has, h.fault, .inr ⟨e, hc, by omega⟩⟩, rfl, rfl, rfl⟩
end Om
