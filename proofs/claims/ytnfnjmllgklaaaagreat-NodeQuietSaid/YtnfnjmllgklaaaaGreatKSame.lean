/- bytes.Equal, bytes.Clone, frame.Same. -/
import Derived.Test.YtnfnjmllgklaaaaGreatKEq5
import Derived.Laws.BytesArg
import Derived.Lib.LazyBuf
import Derived.Shelf.Bytes.SlEqualAll
set_option linter.unusedVariables false
set_option linter.unusedSimpArgs false
namespace Go.Proofs.YtnfnjmllgklaaaaGreat
open Go Go.RowKit Go.Shelf Om

theorem spot_none {w : World} {a : Addr} {v : Value} (h : w.cell? a = some v) : a.spot = none := by
  unfold World.cell? at h
  split at h
  · split at h
    · cases h
    · rename_i hs
      cases hsp : a.spot with
      | none => rfl
      | some x => rw [hsp] at hs; exact absurd rfl hs
  · cases h
theorem conv_bytes (w : World) (A : Option Addr) (cap : Nat) (l : List UInt8) (hr : Rd w A (bytesV l)) : (convert 23 9 (.slice A l.length cap)).run Tryz.prog w = .ok (.string ⟨l.toArray⟩) w := by
  have hs : strOfNums (l.map fun b => (b.toNat : Int)) = ⟨l.toArray⟩ := Lib.Lz.strOfNums_map l
  rw [← hs]
  rcases Nat.eq_zero_or_pos l.length with h0 | h0
  · obtain rfl : l = [] := List.eq_nil_of_length_eq_zero h0
    exact run_convert_bytes_zero w 23 5 Tryz.underlying23 Tryz.underlying5 A cap 9 Tryz.underlying9
  · obtain ⟨⟨b, o, sp⟩, rfl, hc⟩ := hr.byte 0 h0
    have hsp : sp = none := by
      cases sp with
      | none => rfl
      | some x => have := spot_none hc; simp [Addr.add] at this
    subst hsp
    refine run_convert_bytes_arg (P := Tryz.prog) w 23 5 Tryz.underlying23 Tryz.underlying5 b o l.length cap _ (by simp) (fun i hi => ?_) 9 Tryz.underlying9
    obtain ⟨ad, e, h⟩ := hr.byte i hi
    cases e
    rw [add_plain] at h
    rw [h]
    simp [byV, List.getD_eq_getElem?_getD, hi]

set_option maxRecDepth 100000 in
theorem equal_any (A1 A2 : Option Addr) (c1 c2 : Nat) (l1 l2 : List UInt8) (w : World) (h1 : Rd w A1 (bytesV l1)) (h2 : Rd w A2 (bytesV l2)) :
    Calls Tryz.prog 76 #[.slice A1 l1.length c1, .slice A2 l2.length c2] w fun e w' => e = .returned (.bool (decide (l1 = l2))) ∧ w' = w := by
  have e1 := conv_bytes w A1 c1 l1 h1
  have e2 := conv_bytes w A2 c2 l2 h2
  clear h1 h2
  go_enter Tryz.func76, Tryz.ntmps76
  go_wp2
  go_ret
  exact ⟨by rw [show decide (l1 = l2) = (l1 == l2) by rw [Bool.eq_iff_iff]; simp]; rfl, rfl⟩

/-- A frame as Go's struct. -/
def frV (f : Om.Frame) (D : Option Addr) (cap : Nat) : Value :=
  .agg #[.int .i64 f.kind, .int .u32 (f.id : Nat), .bool f.ext, .bool f.rtr, .bool f.brs, .bool f.esi, .bool f.sec, .int .u8 (f.sdt : Nat), .int .u8 (f.vcid : Nat), .int .u32 (f.af : Nat), .slice D f.data.length cap]
def frCells (f : Om.Frame) (D : Option Addr) (cap : Nat) : Array Value :=
  #[.int .i64 f.kind, .int .u32 (f.id : Nat), .bool f.ext, .bool f.rtr, .bool f.brs, .bool f.esi, .bool f.sec, .int .u8 (f.sdt : Nat), .int .u8 (f.vcid : Nat), .int .u32 (f.af : Nat), .slice D f.data.length cap]

set_option maxRecDepth 100000 in
set_option maxHeartbeats 1000000 in
/-- frame.Same. -/
theorem same_any (f g : Om.Frame) (D1 D2 : Option Addr) (c1 c2 : Nat) (w : World) (h1 : Rd w D1 (bytesV f.data)) (h2 : Rd w D2 (bytesV g.data)) :
    Calls Tryz.prog 22 #[frV f D1 c1, frV g D2 c2] w fun e w' => e = .returned (.bool (decide (f = g))) ∧ Below w.heap.size w w' := by
  have hB := fun o o' : Obj => ((Below.refl w.heap.size w).alloc (Nat.le_refl _) o).alloc (by simp) o'
  have heq := fun o o' : Obj => equal_any D1 D2 c1 c2 f.data g.data ((w.alloc o).alloc o') (h1.kept (hB o o')) (h2.kept (hB o o'))
  clear h1 h2
  obtain ⟨k1, i1, e1, r1, b1, s1, x1, t1, v1, a1, d1⟩ := f
  obtain ⟨k2, i2, e2, r2, b2, s2, x2, t2, v2, a2, d2⟩ := g
  unfold frV
  simp only at heq
  have hgo : decide ((⟨k1, i1, e1, r1, b1, s1, x1, t1, v1, a1, d1⟩ : Om.Frame) = ⟨k2, i2, e2, r2, b2, s2, x2, t2, v2, a2, d2⟩) =
      decide (k1 = k2 ∧ i1 = i2 ∧ (e1 = e2 ∧ r1 = r2 ∧ b1 = b2 ∧ s1 = s2 ∧ x1 = x2) ∧ t1 = t2 ∧ v1 = v2 ∧ a1 = a2 ∧ d1 = d2) := by
    rw [Bool.eq_iff_iff, decide_eq_true_iff, decide_eq_true_iff, Om.Frame.mk.injEq]
    simp only [and_assoc]
  rw [hgo]
  clear hgo
  dsimp only
  have hq5 := eq5 e1 r1 b1 s1 x1 e2 r2 b2 s2 x2
  have hBB := hB (.cells (frCells ⟨k1, i1, e1, r1, b1, s1, x1, t1, v1, a1, d1⟩ D1 c1) 25) (.cells (frCells ⟨k2, i2, e2, r2, b2, s2, x2, t2, v2, a2, d2⟩ D2 c2) 25)
  by_cases hk : k1 = k2
  · subst hk
    by_cases hi : i1 = i2
    · subst hi
      by_cases hf : e1 = e2 ∧ r1 = r2 ∧ b1 = b2 ∧ s1 = s2 ∧ x1 = x2
      · have hq6 : ∀ w, (Op.equalIn 10000 127 (.agg #[.bool e1, .bool r1, .bool b1, .bool s1, .bool x1]) (.agg #[.bool e2, .bool r2, .bool b2, .bool s2, .bool x2])).run Tryz.prog w = .ok true w := fun w => by rw [hq5 w, decide_eq_true hf]
        clear hq5
        obtain ⟨rfl, rfl, rfl, rfl, rfl⟩ := hf
        by_cases ht : t1 = t2
        · subst ht
          by_cases hv : v1 = v2
          · subst hv
            by_cases ha : a1 = a2
            · subst ha
              rw [show decide (k1 = k1 ∧ i1 = i1 ∧ (e1 = e1 ∧ r1 = r1 ∧ b1 = b1 ∧ s1 = s1 ∧ x1 = x1) ∧ t1 = t1 ∧ v1 = v1 ∧ a1 = a1 ∧ d1 = d2) = decide (d1 = d2) by simp]
              clear hB
              go_enter Tryz.func22, Tryz.ntmps22
              simp only [List.append_eq, List.cons_append, List.nil_append]
              go_wp2_with fail
              refine (heq _ _).mono ?_
              rintro e w1 ⟨rfl, rfl⟩
              clear heq
              go_wp2
              go_ret
              exact ⟨rfl, hBB⟩
            · have hd : ((a1 : Int) == (a2 : Int)) = false := beq_eq_false_iff_ne.2 (by omega)
              rw [decide_eq_false (fun h => ha h.2.2.2.2.2.1)]
              clear heq hB ha
              go_enter Tryz.func22, Tryz.ntmps22
              simp only [List.append_eq, List.cons_append, List.nil_append]
              go_wp2
              go_ret
              exact ⟨rfl, hBB⟩
          · have hd : ((v1 : Int) == (v2 : Int)) = false := beq_eq_false_iff_ne.2 (by omega)
            rw [decide_eq_false (fun h => hv h.2.2.2.2.1)]
            clear heq hB hv
            go_enter Tryz.func22, Tryz.ntmps22
            simp only [List.append_eq, List.cons_append, List.nil_append]
            go_wp2
            go_ret
            exact ⟨rfl, hBB⟩
        · have hd : ((t1 : Int) == (t2 : Int)) = false := beq_eq_false_iff_ne.2 (by omega)
          rw [decide_eq_false (fun h => ht h.2.2.2.1)]
          clear heq hB ht
          go_enter Tryz.func22, Tryz.ntmps22
          simp only [List.append_eq, List.cons_append, List.nil_append]
          go_wp2
          go_ret
          exact ⟨rfl, hBB⟩
      · rw [decide_eq_false (fun h => hf h.2.2.1)]
        clear heq hB
        have hq6 : ∀ w, (Op.equalIn 10000 127 (.agg #[.bool e1, .bool r1, .bool b1, .bool s1, .bool x1]) (.agg #[.bool e2, .bool r2, .bool b2, .bool s2, .bool x2])).run Tryz.prog w = .ok false w := fun w => by rw [hq5 w, decide_eq_false hf]
        clear hq5
        clear hf
        go_enter Tryz.func22, Tryz.ntmps22
        simp only [List.append_eq, List.cons_append, List.nil_append]
        go_wp2
        go_ret
        exact ⟨rfl, hBB⟩
    · have hd : ((i1 : Int) == (i2 : Int)) = false := beq_eq_false_iff_ne.2 (by omega)
      rw [decide_eq_false (fun h => hi h.2.1)]
      clear heq hB hi
      go_enter Tryz.func22, Tryz.ntmps22
      simp only [List.append_eq, List.cons_append, List.nil_append]
      go_wp2
      go_ret
      exact ⟨rfl, hBB⟩
  · have hd : (k1 == k2) = false := beq_eq_false_iff_ne.2 hk
    rw [decide_eq_false (fun h => hk h.1)]
    clear heq hB hk
    go_enter Tryz.func22, Tryz.ntmps22
    simp only [List.append_eq, List.cons_append, List.nil_append]
    go_wp2
    go_ret
    exact ⟨rfl, hBB⟩
end Go.Proofs.YtnfnjmllgklaaaaGreat
