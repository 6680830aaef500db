/- A node's bounds, kept by each bit; what comes of a bit. No Go in it. -/
import Derived.Test.YtnfnjmllgklaaaaGreatKScanOk
set_option linter.unusedVariables false
set_option linter.unusedSimpArgs false
namespace Om

theorem sendErr_ok (t r : Nat) (h4 : t ≤ 255) (h2 : r ≤ 255) : (Fault.sendError ⟨t, r, false⟩).ok = true := by
  show (decide (t + 8 ≤ 263) && decide (r ≤ 255) && (decide (255 < t + 8) == decide (255 < t + 8))) = true
  rw [decide_eq_true (by omega : t + 8 ≤ 263), decide_eq_true h2]
  simp
theorem ev4 (e : Nat) (f : Frame) : (⟨4, e, f⟩ : Ev).kind ≠ 1 ∧ (⟨4, e, f⟩ : Ev).kind ≠ 2 ∧ (⟨4, e, f⟩ : Ev).kind ≤ 4 := ⟨by show 4 ≠ 1; decide, by show 4 ≠ 2; decide, by show 4 ≤ 4; decide⟩
theorem fault_next_ok (s : Fault) (e : Nat) (h : s.ok = true) : (s.next e).ok = true := by
  obtain ⟨t, r, o⟩ := s
  simp only [Fault.ok, Bool.and_eq_true, decide_eq_true_eq, beq_iff_eq] at h
  obtain ⟨⟨h1, h2⟩, h3⟩ := h
  unfold Fault.next
  cases o
  · have h4 : t ≤ 255 := by have := of_decide_eq_false h3.symm; omega
    simp only [Bool.false_eq_true, if_false]
    split
    · simp [Fault.ok]; omega
    · simp only [Fault.ok, Bool.and_eq_true, decide_eq_true_eq, beq_iff_eq]
      refine ⟨⟨h1, ?_⟩, h3⟩
      split <;> omega
    · exact sendErr_ok t r h4 h2
    · simp only [Fault.ok, Bool.and_eq_true, decide_eq_true_eq, beq_iff_eq]
      exact ⟨⟨h1, by omega⟩, h3⟩
    · split
      · exact sendErr_ok t r h4 h2
      · simp only [Fault.ok, Bool.and_eq_true, decide_eq_true_eq, beq_iff_eq]; exact ⟨⟨h1, h2⟩, h3⟩
    · simp only [Fault.ok, Bool.and_eq_true, decide_eq_true_eq, beq_iff_eq]; exact ⟨⟨h1, h2⟩, h3⟩
  · simp only [if_true]
    split
    · decide
    · simp only [Fault.ok, Bool.and_eq_true, decide_eq_true_eq, beq_iff_eq]; exact ⟨⟨h1, h2⟩, h3⟩

def PhaseOk (n : N) : Prop :=
  (n.phase = 0 ∧ n.count < 11) ∨ (n.phase = 1 ∧ n.count = 0) ∨ (n.phase = 2 ∧ n.has = true ∧ n.count < n.w.bits.length) ∨ (n.phase = 3 ∧ n.row.st.kind < 2 ∧ n.count = 0) ∨ (n.phase = 4 ∧ n.count = 0) ∨ (n.phase = 5 ∧ n.count < 6) ∨ (n.phase = 6 ∧ n.count < 6) ∨ (n.phase = 7 ∧ n.count < 8) ∨
  (n.phase = 8 ∧ n.count < 3) ∨ (n.phase = 9 ∧ n.count < 8) ∨ (n.phase = 10 ∧ n.count = 0) ∨ (n.phase = 11 ∧ n.count < 176)
structure N.Ok (n : N) : Prop where
  row : n.row.Ok
  fault : n.fault.ok = true
  phase : PhaseOk n
  w : n.has = true → n.f.ok = true ∧ n.w = wire n.f
  typed : n.f.Typed
  id : n.f.id < 536870912
  len : n.w.bits.length ≤ 1000000
  ack : n.w.ack ≤ 1000000
  arb : n.w.arb ≤ 1000000
theorem N.Ok.new (k : Bool) : (N.new k).Ok := ⟨M.Ok.new k, rfl, .inl ⟨rfl, Nat.zero_lt_succ _⟩, fun h => (by cases h), zero_typed, Nat.zero_lt_succ _, Nat.zero_le _, Nat.zero_le _, Nat.zero_le _⟩

/-- What a bit may do: bounds are kept; the frame goes only by 'sent'; what is got may be. -/
structure Took (n : N) (r : Ev × N) : Prop where
  ok : r.2.Ok
  sent : r.1.kind = 1 → n.has = true ∧ r.2.has = false ∧ r.1.f = n.f ∧ r.2.phase = 8
  has : r.1.kind ≠ 1 → r.2.has = n.has
  got : r.1.kind = 2 → r.1.f.ok = true ∧ r.2.phase = 4
  zero : r.1.kind ≠ 1 → r.1.kind ≠ 2 → r.1.f = Frame.zero
  kind : r.1.kind ≤ 4
  f : r.2.f = n.f
  w : r.2.w = n.w
  knows : r.2.knows = n.knows
  typed : r.1.f.Typed
  id : r.1.f.id < 536870912
  err : r.1.err ≤ 10

/-- A node that keeps its frame, with an event without one. -/
theorem took_plain {n : N} (h : n.Ok) (m : N) (e : Ev) (he : e.kind ≠ 1 ∧ e.kind ≠ 2 ∧ e.kind ≤ 4) (hf : e.f = Frame.zero) (her : e.err ≤ 10) (h1 : m.has = n.has) (h2 : m.f = n.f) (h3 : m.w = n.w) (h4 : m.knows = n.knows) (h5 : m.row.Ok) (h6 : m.fault.ok = true) (h7 : PhaseOk m) : Took n (e, m) :=
  ⟨⟨h5, h6, h7, fun hh => by rw [h2, h3]; exact h.w (by rw [← h1]; exact hh), by rw [h2]; exact h.typed, by rw [h2]; exact h.id, by rw [h3]; exact h.len, by rw [h3]; exact h.ack, by rw [h3]; exact h.arb⟩,
   fun e' => absurd e' he.1, fun _ => h1, fun e' => absurd e' he.2.1, fun _ _ => hf, he.2.2, h2, h3, h4, by rw [hf]; exact zero_typed, by rw [hf]; decide, her⟩

theorem counted_took {n : N} (h : n.Ok) (b : Bool) (most next : Nat) (hc : n.count < most) (hb : n.phase = 0 ∧ most = 11 ∨ n.phase = 5 ∧ most = 6 ∨ n.phase = 6 ∧ most = 6 ∨ n.phase = 7 ∧ most = 8 ∨ n.phase = 8 ∧ most = 3 ∨ n.phase = 9 ∧ most = 8) (hn : next = 1 ∨ next = 7 ∨ next = 8 ∨ next = 9) : Took n (n.counted b most next) := by
  simp only [N.counted]
  generalize hcc : (if b = true then n.count + 1 else 0) = c
  refine took_plain h _ _ ⟨by decide, by decide, by decide⟩ rfl (by decide) ?_ ?_ ?_ ?_ ?_ ?_ ?_
  · split <;> rfl
  · split <;> rfl
  · split <;> rfl
  · split <;> rfl
  · split <;> exact h.row
  · split <;> exact h.fault
  · split
    · rcases hn with rfl | rfl | rfl | rfl <;> simp [PhaseOk, N.to]
    · rename_i hne
      have hc' : c < most := by cases b <;> simp only [if_true, Bool.false_eq_true, if_false] at hcc <;> omega
      rcases hb with ⟨e, rfl⟩ | ⟨e, rfl⟩ | ⟨e, rfl⟩ | ⟨e, rfl⟩ | ⟨e, rfl⟩ | ⟨e, rfl⟩ <;> simp [PhaseOk, e] <;> omega
theorem wrong_took {n : N} (h : n.Ok) (ev e : Nat) (he : e ≤ 10) : Took n (n.wrong ev e) := by
  unfold N.wrong
  have hf : (n.fault.next ev).ok = true := fault_next_ok _ _ h.fault
  refine took_plain h _ _ (ev4 _ _) rfl he ?_ ?_ ?_ ?_ ?_ ?_ ?_
  · split <;> rfl
  · split <;> rfl
  · split <;> rfl
  · split <;> rfl
  · split <;> exact h.row
  · split <;> exact hf
  · split
    · unfold PhaseOk N.to N.counts; simp
    · unfold PhaseOk N.to N.counts; simp
theorem Took.of {n n' : N} {r : Ev × N} (h : Took n' r) (h1 : n'.has = n.has) (h2 : n'.f = n.f) (h3 : n'.w = n.w) (h4 : n'.knows = n.knows) : Took n r :=
  ⟨h.ok, fun e => by rw [← h1, ← h2]; exact h.sent e, fun e => by rw [← h1]; exact h.has e, h.got, h.zero, h.kind, by rw [← h2]; exact h.f, by rw [← h3]; exact h.w, by rw [← h4]; exact h.knows, h.typed, h.id, h.err⟩
theorem heard_took {n : N} (h : n.Ok) (hp : n.phase = 3 ∧ n.count = 0) (other : Nat) (ho : other = 0 ∨ other = 3) : Took n (n.heard n.row.st other) := by
  unfold N.heard
  have hk := h.row.kind
  have hf : (n.fault.next 2).ok = true := fault_next_ok _ _ h.fault
  split
  · rename_i h2
    refine ⟨⟨h.row, hf, by unfold PhaseOk N.to; simp, h.w, h.typed, h.id, h.len, h.ack, h.arb⟩, fun e => (by simp at e), fun _ => rfl, fun _ => ⟨h.row.done h2, rfl⟩, fun _ e => absurd rfl e, by simp, rfl, rfl, rfl, h.row.stT, h.row.stI, by simp⟩
  · exact wrong_took h 4 _ h.row.err
  · refine took_plain h _ _ ?_ rfl (by simp) rfl rfl rfl rfl h.row h.fault (by unfold PhaseOk N.to; simp)
    rcases ho with rfl | rfl <;> decide
  · rename_i h2 h3 h4
    refine took_plain h _ _ ?_ rfl (by simp) rfl rfl rfl rfl h.row h.fault ?_
    · rcases ho with rfl | rfl <;> decide
    · unfold PhaseOk
      refine .inr (.inr (.inr (.inl ⟨hp.1, ?_, hp.2⟩)))
      have a2 : n.row.st.kind ≠ 2 := h2
      have a3 : n.row.st.kind ≠ 3 := h3
      have a4 : n.row.st.kind ≠ 4 := h4
      omega
theorem starts_took {n : N} (h : n.Ok) : Took n (n.starts false) := by
  unfold N.starts
  have hs : ((M.new n.knows).see false).st.kind < 2 := by cases n.knows <;> decide
  exact took_plain h _ _ ⟨by decide, by decide, by decide⟩ rfl (by decide) rfl rfl rfl rfl ((M.Ok.new _).see false) h.fault (by unfold PhaseOk; exact .inr (.inr (.inr (.inl ⟨rfl, hs, rfl⟩))))
theorem send_took {n : N} (h : n.Ok) (hh : n.has = true) (hp : n.phase = 2) (hc : n.count < n.w.bits.length) (b : Bool) : Took n (n.send b) := by
  unfold N.send
  have hrow := h.row.see b
  have h1 : ({ n with row := n.row.see b } : N).Ok := ⟨hrow, h.fault, by unfold PhaseOk; exact .inr (.inr (.inl ⟨hp, hh, hc⟩)), h.w, h.typed, h.id, h.len, h.ack, h.arb⟩
  have hon : Took n (if n.count + 1 < n.w.bits.length then (Ev.none, ({ n with row := n.row.see b, count := n.count + 1 } : N)) else (⟨1, 0, n.f⟩, (({ n with row := n.row.see b, count := n.count + 1, has := false } : N).counts 1).to 8)) := by
    split
    · rename_i hlt
      exact took_plain h _ _ ⟨by decide, by decide, by decide⟩ rfl (by decide) rfl rfl rfl rfl hrow h.fault (by unfold PhaseOk; exact .inr (.inr (.inl ⟨hp, hh, hlt⟩)))
    · have hf : (n.fault.next 1).ok = true := fault_next_ok _ _ h.fault
      exact ⟨⟨hrow, hf, by unfold PhaseOk N.to; simp, fun e => (by cases e), h.typed, h.id, h.len, h.ack, h.arb⟩, fun _ => ⟨hh, rfl, rfl, rfl⟩, fun e => absurd rfl e, fun e => (by simp at e), fun e _ => absurd rfl e, by simp, rfl, rfl, rfl, h.typed, h.id, by simp⟩
  simp only
  split
  · split
    · exact (wrong_took h1 5 9 (by decide)).of rfl rfl rfl rfl
    · exact hon
  · split
    · split
      · have h3 : ({ ({ n with row := n.row.see b } : N).to 3 with sender := false } : N).row.Ok := hrow
        unfold N.heard
        have hk := hrow.kind
        have hf : (n.fault.next 2).ok = true := fault_next_ok _ _ h.fault
        split
        · rename_i h2
          refine ⟨⟨hrow, hf, by unfold PhaseOk N.to; simp, h.w, h.typed, h.id, h.len, h.ack, h.arb⟩, fun e => (by simp at e), fun _ => rfl, fun _ => ⟨hrow.done h2, rfl⟩, fun _ e => absurd rfl e, by simp, rfl, rfl, rfl, hrow.stT, hrow.stI, by simp⟩
        · have hf4 : (n.fault.next 4).ok = true := fault_next_ok _ _ h.fault
          unfold N.wrong
          refine took_plain h _ _ (ev4 _ _) rfl hrow.err ?_ ?_ ?_ ?_ ?_ ?_ ?_
          · split <;> rfl
          · split <;> rfl
          · split <;> rfl
          · split <;> rfl
          · split <;> exact hrow
          · split <;> exact hf4
          · split
            · unfold PhaseOk N.to N.counts; simp
            · unfold PhaseOk N.to N.counts; simp
        · exact took_plain h _ _ ⟨by decide, by decide, by decide⟩ rfl (by simp) rfl rfl rfl rfl hrow h.fault (by unfold PhaseOk N.to; simp)
        · rename_i h2 h3 h4
          refine took_plain h _ _ ⟨by decide, by decide, by decide⟩ rfl (by simp) rfl rfl rfl rfl hrow h.fault ?_
          unfold PhaseOk
          refine .inr (.inr (.inr (.inl ⟨rfl, ?_, rfl⟩)))
          have a2 : (n.row.see b).st.kind ≠ 2 := h2
          have a3 : (n.row.see b).st.kind ≠ 3 := h3
          have a4 : (n.row.see b).st.kind ≠ 4 := h4
          show (n.row.see b).st.kind < 2
          omega
      · exact (wrong_took h1 3 5 (by decide)).of rfl rfl rfl rfl
    · exact hon

theorem wire_pos (f : Frame) : 0 < (wire f).bits.length := by
  rw [(wire_bits f).1]; simp [ones]

/-- A bit. -/
theorem take_took {n : N} (h : n.Ok) (b : Bool) : Took n (n.take b) := by
  have hp := h.phase
  unfold N.take
  rcases hp with ⟨e, hc⟩ | ⟨e, hc⟩ | ⟨e, hh, hc⟩ | ⟨e, hk, hc⟩ | ⟨e, hc⟩ | ⟨e, hc⟩ | ⟨e, hc⟩ | ⟨e, hc⟩ | ⟨e, hc⟩ | ⟨e, hc⟩ | ⟨e, hc⟩ | ⟨e, hc⟩ <;> rw [e]
  · exact counted_took h b 11 1 hc (by omega) (by omega)
  · simp only [N.idle]
    have h1 : ({ n with sender := n.has } : N).Ok := ⟨h.row, h.fault, by unfold PhaseOk; exact .inr (.inl ⟨e, hc⟩), h.w, h.typed, h.id, h.len, h.ack, h.arb⟩
    by_cases hh : n.has = true
    · rw [if_pos hh]
      obtain ⟨hf, hw⟩ := h.w hh
      have hpos : 0 < n.w.bits.length := by rw [hw]; exact wire_pos _
      have h2 : (({ n with sender := n.has } : N).begin 2).Ok := ⟨M.Ok.new _, h.fault, by unfold PhaseOk; exact .inr (.inr (.inl ⟨rfl, hh, hpos⟩)), h.w, h.typed, h.id, h.len, h.ack, h.arb⟩
      exact (send_took h2 hh rfl hpos b).of rfl rfl rfl rfl
    · rw [if_neg hh]
      cases b
      · simp only [if_true]
        exact (starts_took h1).of rfl rfl rfl rfl
      · simp only [Bool.true_eq_false, if_false]
        exact took_plain h _ _ ⟨by decide, by decide, by decide⟩ rfl (by decide) rfl rfl rfl rfl h.row h.fault (by unfold PhaseOk; exact .inr (.inl ⟨e, hc⟩))
  · exact send_took h hh e hc b
  · simp only [N.receive]
    by_cases hx : (n.row.see b).st.kind < 2
    · have h1 : ({ n with row := n.row.see b } : N).Ok := ⟨h.row.see b, h.fault, by unfold PhaseOk; exact .inr (.inr (.inr (.inl ⟨e, hx, hc⟩))), h.w, h.typed, h.id, h.len, h.ack, h.arb⟩
      exact (heard_took h1 ⟨e, hc⟩ 0 (.inl rfl)).of rfl rfl rfl rfl
    · have hrow := h.row.see b
      unfold N.heard
      have hk' := hrow.kind
      have hf : (n.fault.next 2).ok = true := fault_next_ok _ _ h.fault
      split
      · rename_i h2
        refine ⟨⟨hrow, hf, by unfold PhaseOk N.to; simp, h.w, h.typed, h.id, h.len, h.ack, h.arb⟩, fun e => (by simp at e), fun _ => rfl, fun _ => ⟨hrow.done h2, rfl⟩, fun _ e => absurd rfl e, by simp, rfl, rfl, rfl, hrow.stT, hrow.stI, by simp⟩
      · have hf4 : (n.fault.next 4).ok = true := fault_next_ok _ _ h.fault
        unfold N.wrong
        refine took_plain h _ _ (ev4 _ _) rfl hrow.err ?_ ?_ ?_ ?_ ?_ ?_ ?_
        · split <;> rfl
        · split <;> rfl
        · split <;> rfl
        · split <;> rfl
        · split <;> exact hrow
        · split <;> exact hf4
        · split
          · unfold PhaseOk N.to N.counts; simp
          · unfold PhaseOk N.to N.counts; simp
      · exact took_plain h _ _ ⟨by decide, by decide, by decide⟩ rfl (by simp) rfl rfl rfl rfl hrow h.fault (by unfold PhaseOk N.to; simp)
      · rename_i h2 h3 h4
        exfalso
        have a2 : (n.row.see b).st.kind ≠ 2 := h2
        have a3 : (n.row.see b).st.kind ≠ 3 := h3
        have a4 : (n.row.see b).st.kind ≠ 4 := h4
        omega
  · simp only [N.lastP]
    refine took_plain h _ _ ⟨by decide, by decide, by decide⟩ rfl (by decide) ?_ ?_ ?_ ?_ ?_ ?_ ?_
    · split <;> rfl
    · split <;> rfl
    · split <;> rfl
    · split <;> rfl
    · split <;> exact h.row
    · split <;> exact h.fault
    · split
      · unfold PhaseOk N.to; simp
      · unfold PhaseOk N.to; simp
  · exact counted_took h true 6 7 hc (by omega) (by omega)
  · exact counted_took h true 6 7 hc (by omega) (by omega)
  · exact counted_took h b 8 8 hc (by omega) (by omega)
  · simp only [N.pause]
    cases b
    · simp only [Bool.false_eq_true, if_false]
      split
      · exact starts_took h
      · exact took_plain h _ _ ⟨by decide, by decide, by decide⟩ rfl (by decide) rfl rfl rfl rfl h.row h.fault (by unfold PhaseOk N.to; simp)
    · simp only [if_true]
      refine counted_took h true 3 _ hc (by omega) ?_
      split <;> omega
  · simp only [N.suspend]
    cases b
    · exact starts_took h
    · exact counted_took h true 8 1 hc (by omega) (by omega)
  · exact took_plain h _ _ ⟨by decide, by decide, by decide⟩ rfl (by decide) rfl rfl rfl rfl h.row h.fault (by unfold PhaseOk; exact .inr (.inr (.inr (.inr (.inr (.inr (.inr (.inr (.inr (.inr (.inl ⟨e, hc⟩)))))))))))
  · simp only [N.recover]
    have hf : (n.fault.next 6).ok = true := fault_next_ok _ _ h.fault
    have hs : n.count - n.count % 11 ≤ n.count := Nat.sub_le _ _
    generalize hcc : (if b = true then n.count + 1 else n.count - n.count % 11) = c
    have hc' : c ≤ 176 := by cases b <;> simp only [if_true, Bool.false_eq_true, if_false] at hcc <;> omega
    refine took_plain h _ _ ⟨by decide, by decide, by decide⟩ rfl (by decide) ?_ ?_ ?_ ?_ ?_ ?_ ?_
    · split <;> rfl
    · split <;> rfl
    · split <;> rfl
    · split <;> rfl
    · split <;> exact h.row
    · split
      · exact hf
      · exact h.fault
    · split
      · unfold PhaseOk N.to; simp
      · rename_i hne
        simp [PhaseOk, e]
        omega
theorem take_0 {n : N} (e : n.phase = 0) (b : Bool) : n.take b = n.counted b 11 1 := by
  unfold N.take; simp only [e]
theorem take_1 {n : N} (e : n.phase = 1) (b : Bool) : n.take b = n.idle b := by
  unfold N.take; simp only [e]
theorem take_2 {n : N} (e : n.phase = 2) (b : Bool) : n.take b = n.send b := by
  unfold N.take; simp only [e]
theorem take_3 {n : N} (e : n.phase = 3) (b : Bool) : n.take b = n.receive b := by
  unfold N.take; simp only [e]
theorem take_4 {n : N} (e : n.phase = 4) (b : Bool) : n.take b = n.lastP b := by
  unfold N.take; simp only [e]
theorem take_5 {n : N} (e : n.phase = 5) (b : Bool) : n.take b = n.counted true 6 7 := by
  unfold N.take; simp only [e]
theorem take_6 {n : N} (e : n.phase = 6) (b : Bool) : n.take b = n.counted true 6 7 := by
  unfold N.take; simp only [e]
theorem take_7 {n : N} (e : n.phase = 7) (b : Bool) : n.take b = n.counted b 8 8 := by
  unfold N.take; simp only [e]
theorem take_8 {n : N} (e : n.phase = 8) (b : Bool) : n.take b = n.pause b := by
  unfold N.take; simp only [e]
theorem take_9 {n : N} (e : n.phase = 9) (b : Bool) : n.take b = n.suspend b := by
  unfold N.take; simp only [e]
theorem take_10 {n : N} (e : n.phase = 10) (b : Bool) : n.take b = (Ev.none, n) := by
  unfold N.take; simp only [e]
theorem take_11 {n : N} (e : n.phase = 11) (b : Bool) : n.take b = n.recover b := by
  unfold N.take; simp only [e]
end Om
