/- crc.Size, More, Sum, Fits. -/
import Derived.Test.YtnfnjmllgklaaaaGreatKCrcRun
set_option linter.unusedVariables false
set_option linter.unusedSimpArgs false
namespace Om
theorem crc_facts (k : Nat) (h1 : 1 ≤ k) (h5 : k ≤ 5) : 4 ≤ crcSize k ∧ crcSize k ≤ 32 ∧ crcPoly k < 2 ^ crcSize k ∧ crcStart k < 2 ^ crcSize k := by
  rcases (by omega : k = 1 ∨ k = 2 ∨ k = 3 ∨ k = 4 ∨ k = 5) with rfl | rfl | rfl | rfl | rfl <;> decide
end Om
namespace Go.Proofs.YtnfnjmllgklaaaaGreat
open Go Go.RowKit Go.Shelf Om

theorem field0 (a b c : Value) (w : World) : (Instr.field 288 (.agg #[a, b, c]) 0).run Tryz.prog w = .ok a w := by
  simp [Instr.field, run_underlying Tryz.underlying288, Sem.run_bind, part, asAgg, go_sem]
theorem field2 (a b c : Value) (w : World) : (Instr.field 288 (.agg #[a, b, c]) 2).run Tryz.prog w = .ok c w := by
  simp [Instr.field, run_underlying Tryz.underlying288, Sem.run_bind, part, asAgg, go_sem]
set_option maxRecDepth 100000 in
theorem size_any (k : Nat) (w : World) (h1 : 1 ≤ k) (h5 : k ≤ 5) :
    Calls Tryz.prog 231 #[.int .i64 k] w fun e w' => e = .returned (.int .i64 (crcSize k : Nat)) ∧ Below w.heap.size w w' := by
  have h := of_any k w h1 h5
  have hf := field0
  go_enter Tryz.func231, Tryz.ntmps231
  go_wp2_with fail
  refine h.mono ?_
  rintro e w1 ⟨rfl, hB⟩
  go_wp2
  go_ret
  exact ⟨rfl, hB⟩

set_option maxRecDepth 100000 in
set_option maxHeartbeats 1000000 in
theorem more_any (k sum : Nat) (D : Option Addr) (cap : Nat) (l : List Bool) (w : World) (h1 : 1 ≤ k) (h5 : k ≤ 5) (hs : sum < 2 ^ crcSize k) (hl : l.length ≤ 65536) (hcap : l.length ≤ cap) (hr : Rd w D (bitsV l)) :
    Calls Tryz.prog 247 #[.int .i64 k, .int .u64 sum, .slice D l.length cap] w fun e w' => e = .returned (.tuple #[.int .u64 (crcRun (crcSize k) (crcPoly k) sum l : Nat), .int .i64 0]) ∧ Below w.heap.size w w' := by
  obtain ⟨f4, f32, fp, _⟩ := crc_facts k h1 h5
  have h := of_any k w h1 h5
  have hsz : (((crcSize k : Nat) : Int) == 0) = false := beq_eq_false_iff_ne.2 (by omega)
  have hsh : (sum : Int) / 2 ^ crcSize k = 0 := by
    rw [show ((sum : Int) / 2 ^ crcSize k) = ((sum / 2 ^ crcSize k : Nat) : Int) by simp, Nat.div_eq_of_lt hs]; rfl
  have hck := fun w2 (hB : Below w.heap.size w w2) => check_ok D cap l w2 (hr.kept hB) hl
  have hrun := fun w2 (hB : Below w.heap.size w w2) => crcrun_any (crcSize k) (crcPoly k) (crcStart k) sum D cap l f4 f32 fp hs (by omega) hcap w2 (hr.kept hB)
  have HC := Lib.hid hck
  have HR := Lib.hid hrun
  clear hck hrun hs fp hr
  generalize crcSize k = sz at *
  generalize crcPoly k = po at *
  generalize crcStart k = st at *
  go_enter Tryz.func247, Tryz.ntmps247
  go_wp2_with fail
  refine h.mono ?_
  rintro e w1 ⟨rfl, hB⟩
  have hB2 : Below w.heap.size w (w1.alloc (.cells #[.int .i64 sz, .int .u64 po, .int .u64 st] 288)) := hB.alloc hB.size _
  have hck := HC.out _ hB2
  have hrun := HR.out _ hB2
  have hs0 : (0 : Int) ≤ (sz : Int) := by omega
  clear h HC HR
  go_wp2_with (first | (refine wpList_store_row rfl _ _ _ rfl _ rfl _ _ _ (heap_alloc_new w1 _) rfl rfl rfl rfl ?_; rw [World.setRow_alloc_new]) | (go_at_call 194; refine hck.mono ?_; rintro e w2 ⟨rfl, rfl⟩) | (go_at_call 257; refine hrun.mono ?_; rintro e w2 ⟨rfl, hB3⟩))
  go_ret2
  exact ⟨rfl, below_then hB2 hB3⟩

set_option maxRecDepth 100000 in
/-- crc.Sum. -/
theorem sum_any (k : Nat) (D : Option Addr) (cap : Nat) (l : List Bool) (w : World) (h1 : 1 ≤ k) (h5 : k ≤ 5) (hl : l.length ≤ 65536) (hcap : l.length ≤ cap) (hr : Rd w D (bitsV l)) :
    Calls Tryz.prog 230 #[.int .i64 k, .slice D l.length cap] w fun e w' => e = .returned (.tuple #[.int .u64 (crcSum k l : Nat), .int .i64 0]) ∧ Below w.heap.size w w' := by
  obtain ⟨_, _, _, fs⟩ := crc_facts k h1 h5
  have h := of_any k w h1 h5
  have hf := field2
  have hmore := fun w2 (hB : Below w.heap.size w w2) => more_any k (crcStart k) D cap l w2 h1 h5 fs hl hcap (hr.kept hB)
  have HM := Lib.hid hmore
  clear hmore hr fs
  go_enter Tryz.func230, Tryz.ntmps230
  go_wp2_with fail
  refine h.mono ?_
  rintro e w1 ⟨rfl, hB⟩
  have hm := HM.out _ hB
  clear h HM
  go_wp2_with fail
  refine hm.mono ?_
  rintro e w2 ⟨rfl, hB2⟩
  go_wp2
  go_ret2
  exact ⟨rfl, below_then hB hB2⟩

set_option maxRecDepth 100000 in
set_option maxHeartbeats 1000000 in
/-- crc.Fits. -/
theorem fits_any (k : Nat) (D : Option Addr) (cap : Nat) (l : List Bool) (w : World) (h1 : 1 ≤ k) (h5 : k ≤ 5) (hl : l.length ≤ 65536) (hcap : l.length ≤ cap) (hr : Rd w D (bitsV l)) :
    Calls Tryz.prog 253 #[.int .i64 k, .slice D l.length cap] w fun e w' => e = .returned (.bool (crcFits k l)) ∧ Below w.heap.size w w' := by
  obtain ⟨f4, f32, _, _⟩ := crc_facts k h1 h5
  have h := size_any k w h1 h5
  have hsz : (((crcSize k : Nat) : Int) == 0) = false := beq_eq_false_iff_ne.2 (by omega)
  have hgo : crcFits k l = if l.length < crcSize k then false else num (l.drop (l.length - crcSize k)) == crcSum k (l.take (l.length - crcSize k)) := rfl
  rw [hgo]
  clear hgo
  by_cases hlt : l.length < crcSize k
  · rw [if_pos hlt]
    have hlt' : (l.length : Int) < (crcSize k : Nat) := by omega
    clear hr
    generalize crcSize k = sz at *
    go_enter Tryz.func253, Tryz.ntmps253
    go_wp2_with fail
    refine h.mono ?_
    rintro e w1 ⟨rfl, hB⟩
    clear h
    go_wp2
    go_ret
    exact ⟨rfl, hB⟩
  · rw [if_neg hlt]
    obtain ⟨ad, rfl, _⟩ := hr.bit 0 (by omega)
    have hck := fun w2 (hB : Below w.heap.size w w2) => check_ok (some ad) cap l w2 (hr.kept hB) hl
    have hget := fun w2 (hB : Below w.heap.size w w2) => get_any (some (ad.add (l.length - crcSize k))) (cap - (l.length - crcSize k)) (l.drop (l.length - crcSize k)) w2 (by simpa [bitsV, List.map_drop] using (hr.kept hB).drop (l.length - crcSize k)) (by simp; omega)
    have hsum := fun w2 (hB : Below w.heap.size w w2) => sum_any k (some ad) cap (l.take (l.length - crcSize k)) w2 h1 h5 (by simp; omega) (by simp; omega) (by simpa [bitsV, List.map_take] using (hr.kept hB).take (l.length - crcSize k))
    have hdl : (l.drop (l.length - crcSize k)).length = crcSize k := by simp; omega
    have htl : (l.take (l.length - crcSize k)).length = l.length - crcSize k := by simp
    rw [hdl] at hget
    rw [htl] at hsum
    have HC := Lib.hid hck
    have HG := Lib.hid hget
    have HS := Lib.hid hsum
    clear hck hget hsum hdl htl hr
    have hge : ¬ (l.length : Int) < (crcSize k : Nat) := by omega
    have hle : (0 : Int) ≤ (l.length : Int) - (crcSize k : Nat) := by omega
    generalize num (l.drop (l.length - crcSize k)) = x at *
    generalize crcSum k (l.take (l.length - crcSize k)) = y at *
    generalize crcSize k = sz at *
    generalize l.length = n at *
    have hto : ((n : Int) - (sz : Int)).toNat = n - sz := by omega
    have hq : n - (n - sz) = sz := by omega
    have hcl : (n : Int) - (sz : Int) ≤ (cap : Int) := by omega
    have hnl : (n : Int) - (sz : Int) ≤ (n : Int) := by omega
    go_enter Tryz.func253, Tryz.ntmps253
    go_wp2_with fail
    refine h.mono ?_
    rintro e w1 ⟨rfl, hB⟩
    clear h
    go_wp2_with fail
    refine (HC.out _ hB).mono ?_
    rintro e w2 ⟨rfl, rfl⟩
    go_wp2_with fail
    refine (HG.out _ hB).mono ?_
    rintro e w3 ⟨rfl, hB3⟩
    have hB3' := below_then hB hB3
    go_wp2_with fail
    refine (HS.out _ hB3').mono ?_
    rintro e w4 ⟨rfl, hB4⟩
    have hxy : ((y : Int) == (x : Int)) = (x == y) := by rw [Bool.eq_iff_iff]; simp only [beq_iff_eq]; omega
    go_wp2
    go_ret
    exact ⟨rfl, below_then hB3' hB4⟩
end Go.Proofs.YtnfnjmllgklaaaaGreat
