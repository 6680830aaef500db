/- crc.table, crc.run. -/
import Derived.Test.YtnfnjmllgklaaaaGreatKPack
import Derived.Test.YtnfnjmllgklaaaaGreatKCrc
set_option linter.unusedVariables false
set_option linter.unusedSimpArgs false
namespace Go.Proofs.YtnfnjmllgklaaaaGreat
open Go Go.RowKit Go.Shelf Om

theorem wrapU (x : Int) (h0 : 0 ≤ x) (h1 : x < 18446744073709551616) : IntKind.u64.wrap x = x := by rw [IntKind.wrap_u64]; omega
theorem wrapI (x : Int) (h0 : -9223372036854775808 ≤ x) (h1 : x ≤ 9223372036854775807) : IntKind.i64.wrap x = x := by rw [IntKind.wrap_i64]; omega
/-- A whole row is stored. -/
theorem wpList_store_row {P : Program} {ops : Array Oper} {rest : List Oper} {o : Oper} {a : Act} {w : World} {Q : Exit → Act → World → Prop} (hgd : o.guard = none) (ty : TypeId) (p x : Operand) (ho : o.op = .store ty p x)
    (g : Nat) (hp : a.eval p = .pointer (some ⟨g, 0, none⟩)) (t : TypeId) (old cs : Array Value) (hg : w.heap[g]? = some (.cells old t (0, 0))) (hx : a.eval x = .agg cs) (hi : (P.info? ty).map (·.size) = some cs.size) (hs : old.size = cs.size) (h1 : cs.all (·.oneCell') = true)
    (h : wpList P ops Q rest (a.put o.dst undef) (w.setRow g cs)) : wpList P ops Q (o :: rest) a w := by
  refine wpList_plain hgd fun K hK => ?_
  unfold Oper.wp execOp
  simp only [ho, hp, hx, Instr.storeAt, Instr.sureAddr, Sem.run_bind, Sem.run_pure, Result.andThen_ok, run_storeVar_row w g t ty old cs hg hi hs h1]
  exact hK _ _ h
theorem zero4 : (madeCells (Value.int .u8 0).cells (4 * 1)).toList = bitsV [false, false, false, false] := by
  first | decide | rfl | (simp [madeCells, bitsV, bv, bi, Value.cells]; done) | (simp [madeCells, bitsV, bv, bi, Value.cells]; rfl)
/-- A table's value. -/
def tblOf (sz poly i : Nat) : Nat := crcRun sz poly (i * 2 ^ (sz - 4)) [false, false, false, false]
def tblV (sz poly k : Nat) : List Value := (upto (fun i => Value.int .u64 (tblOf sz poly i : Nat)) k) ++ List.replicate (16 - k) (.int .u64 0)
theorem tblV_length (sz poly k : Nat) (hk : k ≤ 16) : (tblV sz poly k).length = 16 := by simp [tblV, upto_length]; omega
theorem tblV_set (sz poly k : Nat) (hk : k < 16) : (tblV sz poly k).set k (.int .u64 (tblOf sz poly k : Nat)) = tblV sz poly (k + 1) := by
  have hu : (upto (fun i => Value.int .u64 (tblOf sz poly i : Nat)) k).length = k := upto_length _ _
  unfold tblV
  rw [List.set_append_right _ _ (by omega), hu, Nat.sub_self, upto_succ, show 16 - k = (16 - (k + 1)) + 1 by omega, List.replicate_succ, List.set_cons_zero, List.append_assoc]
  rfl

theorem tbl_one {sz poly k : Nat} : (tblV sz poly k).toArray.all (·.oneCell') = true := by
  rw [List.all_toArray]
  unfold tblV upto
  rw [List.all_append]
  simp [Value.oneCell']
set_option maxRecDepth 100000 in
set_option maxHeartbeats 1000000 in
theorem table_any (sz poly st : Nat) (w : World) (h4 : 4 ≤ sz) (h2 : sz ≤ 32) (hp : poly < 2 ^ sz) :
    Calls Tryz.prog 267 #[.agg #[.int .i64 sz, .int .u64 poly, .int .u64 st]] w fun e w' => e = .returned (.agg (tblV sz poly 16).toArray) ∧ Below w.heap.size w w' := by
  have hall := fun (k : Nat) (hk : k < 16) (D : Option Addr) (W : World) (hr : Rd W D (bitsV [false, false, false, false])) =>
    all_any sz poly st (k * 2 ^ (sz - 4)) D 4 [false, false, false, false] W (by omega) h2
    (by
      have : 2 ^ sz = 16 * 2 ^ (sz - 4) := by rw [show 16 = 2 ^ 4 from rfl, ← Nat.pow_add, show 4 + (sz - 4) = sz by omega]
      rw [this]; exact Nat.mul_lt_mul_of_pos_right hk (Nat.two_pow_pos _)) hp hr (by decide)
  have HA := Lib.hid hall
  clear hall hp
  go_enter Tryz.func267, Tryz.ntmps267
  go_wp2
  go_loopw [4] (fun i W => ∃ (k : Nat), k ≤ 16 ∧ i = .int .i64 k ∧ W.heap[w.heap.size]? = some (.cells #[.int .i64 sz, .int .u64 poly, .int .u64 st] 288 (0, 0)) ∧
      W.heap[w.heap.size + 1]? = some (.cells (tblV sz poly k).toArray 302 (0, 0)) ∧ Below w.heap.size w W) (fun i _ => 16 - (intOf i).toNat)
  case atStart => exact ⟨0, by omega, rfl, blk_alloc (heap_alloc_new w _) _, heap_alloc2_new w _ _, ((Below.refl _ _).alloc (Nat.le_refl _) _).alloc (by simp) _⟩
  case round =>
    obtain ⟨k, hk, rfl, hb1, hb2, hB⟩ := hrel
    rcases Nat.lt_or_ge k 16 with hlt | hge
    · have hc0 : wr.cell? ⟨w.heap.size, 0, none⟩ = some (.int .i64 sz) := by rw [blk_cell hb1]; rfl
      have hc1 : wr.cell? ⟨w.heap.size, 1, none⟩ = some (.int .u64 poly) := by rw [blk_cell hb1]; rfl
      have hc2 : wr.cell? ⟨w.heap.size, 2, none⟩ = some (.int .u64 st) := by rw [blk_cell hb1]; rfl
      have hx0 := ext_cell_of hc0
      have hx1 := ext_cell_of hc1
      have hx2 := ext_cell_of hc2
      have H1 := Lib.hid hb1
      have H2 := Lib.hid hb2
      clear hb1 hb2 hc0 hc1 hc2
      have hw1 : IntKind.u64.wrap (k : Int) = (k : Int) := wrapU _ (by omega) (by omega)
      have hw2 : IntKind.i64.wrap ((sz : Int) - 4) = (sz : Int) - 4 := wrapI _ (by omega) (by omega)
      have hw3 : ((sz : Int) - 4).toNat = sz - 4 := by omega
      have hw4 : (0 : Int) ≤ (sz : Int) - 4 := by omega
      have hT : k * 2 ^ (sz - 4) < 4294967296 := by
        have h1 : 2 ^ (sz - 4) ≤ 2 ^ 28 := Nat.pow_le_pow_right (by decide) (by omega)
        have h2 : k * 2 ^ (sz - 4) < 16 * 2 ^ (sz - 4) := Nat.mul_lt_mul_of_pos_right hlt (Nat.two_pow_pos _)
        omega
      obtain ⟨S, hS⟩ : ∃ S, S = k * 2 ^ (sz - 4) := ⟨_, rfl⟩
      have hSi : (k : Int) * 2 ^ (sz - 4) = (S : Int) := by rw [hS]; simp
      have hw5 : IntKind.u64.wrap (S : Int) = (S : Int) := wrapU _ (by omega) (by omega)
      have HS := Lib.hid hS
      clear hT hS
      go_wp2
      refine wp_region_mix #[[], [], [1], [], [3], [3, 4], [1, 2, 3, 4, 5], [], [], [8], [1, 2, 3, 4, 5, 6, 7, 8, 9], [0, 1, 2, 3, 4, 5, 6, 7, 8, 9, 10], [0, 1, 2, 3, 4, 5, 6, 7, 8, 9, 10, 11]] [(0, 0), (1, 0), (2, 0), (3, 0), (4, 1), (5, 0), (6, 0), (8, 1), (9, 0), (7, 3), (10, 2), (11, 0), (12, 2)] (by kernel_rfl) (by kernel_rfl) ?_
      repeat ((first | refine mix_pu rfl (fun K hK => ?_) | refine mix_st rfl (fun K hK => ?_)); go_simp; refine hK _ ?_; clear hK K)
      clear hx0 hx1 hx2
      refine mix_kp rfl ?_
      obtain ⟨i0, hi, hzz⟩ := Option.map_eq_some_iff.1 info5
      simp only [Prod.mk.injEq] at hzz
      refine wpList_make_full _ rfl _ _ _ rfl wr.heap.size 5 i0 (.int .u8 0) 1 Tryz.underlying23 hi hzz.1 hzz.2.1 .i64 .i64 4 4 4 rfl rfl rfl rfl (by rw [hzz.2.2]; decide) (by decide) (Nat.le_refl _) ?_
      intro w1 ho1 hg1
      have hgb : Below wr.drew.heap.size wr.drew w1 := below_of_grownBy hg1
      refine ⟨hgb, ?_⟩
      refine mix_ef rfl ?_
      have hrd : Rd w1 (some ⟨wr.heap.size, 0, none⟩) (bitsV [false, false, false, false]) := by
        intro j u hu
        exact ⟨_, rfl, ho1.cells rfl j u (by rw [show (madeCells (Value.int .u8 0).cells (4 * 1)).toList = bitsV [false, false, false, false] from zero4]; exact hu)⟩
      have hcall := HA.out k hlt _ w1 hrd
      rw [← HS.out] at hcall
      clear hi hzz ho1 hrd
      change wpList _ _ _ _ _ _
      go_wp2_with fail
      refine hcall.mono ?_
      rintro e w2 ⟨rfl, hB2⟩
      have hg2 : Below wr.heap.size wr w2 := (show Below wr.heap.size wr w1 from ⟨hgb.os, hgb.tape, hgb.output, hgb.size, hgb.block⟩).trans (hB2.mono hgb.size)
      have hk1 := blk_kept H1.out hg2
      have hk2 := blk_kept H2.out hg2
      have hB3 := hB.trans (hg2.mono hB.size)
      have K1 := Lib.hid hk1
      have K2 := Lib.hid hk2
      have hcc : ∃ v, w2.cell? ⟨w.heap.size + 1, k, none⟩ = some v := by
        rw [blk_cell hk2]; exact ⟨_, Array.getElem?_eq_getElem (by simp [tblV_length sz poly k hk]; exact hlt)⟩
      obtain ⟨vv, hcc⟩ := hcc
      have hff : w2.frozen? ⟨w.heap.size + 1, k, none⟩ = false := blk_free hk2 _
      clear hk1 hk2 hgb hg2 hg1 hB2 hcall
      go_wp2
      change wpMix _ _ _ _ _ _
      refine mix_pu rfl (fun K hK => ?_); go_simp
      refine hK _ ?_; clear hK K
      refine mix_ef rfl ?_
      go_wp2
      change wpMix _ _ _ _ _ _
      refine mix_end ?_
      go_wp2
      go_roundw
      case rel =>
        refine ⟨k + 1, by omega, by go_num, ?_, ?_, hB3.setCell (p := ⟨w.heap.size + 1, k, none⟩) (by simp) _⟩
        · exact blk_other K1.out _ _ (by simp)
        · have h := blk_set K2.out k (.int .u64 (crcRun sz poly S [false, false, false, false] : Nat))
          rw [List.setIfInBounds_toArray, HS.out] at h
          rw [← tblV_set sz poly k hlt, HS.out]
          exact h
      case measure => simp [intOf]; omega
    · obtain rfl : k = 16 := by omega
      have hwb : wr.heap[w.heap.size + 1]? = some (.cells (tblV sz poly 16).toArray 302 (0, 0)) := hb2
      have hself : wr.setRow (w.heap.size + 1) (tblV sz poly 16).toArray = wr := setRow_self _ _ _ _ _ hwb
      go_wp2_with (first | (refine wpList_load_row rfl _ _ rfl _ rfl _ _ _ _ hwb Tryz.underlying302 rfl rfl ?_) | (refine wpList_store_row rfl _ _ _ rfl _ rfl _ _ _ hwb rfl rfl rfl tbl_one ?_; rw [hself]))
      exact bodyPost_ret (v := .agg (tblV sz poly 16).toArray) (results_cell_row rfl _ _ _ _ _ _ _ rfl hwb Tryz.underlying302 rfl rfl) rfl ⟨rfl, hB⟩
end Go.Proofs.YtnfnjmllgklaaaaGreat
