/- slices.Repeat of a row of one bit, ten times. -/
import Derived.Test.YtnfnjmllgklaaaaGreatKMixNo
import Derived.Test.YtnfnjmllgklaaaaGreatKCrcAdd
import Derived.Laws.CopyOwn
set_option linter.unusedVariables false
set_option linter.unusedSimpArgs false
namespace Go.Proofs.YtnfnjmllgklaaaaGreat
open Go Go.RowKit Go.Shelf Om

set_option maxRecDepth 100000 in
set_option maxHeartbeats 1000000 in
theorem mul64_10 (w : World) : Calls Tryz.prog 237 #[.int .u64 1, .int .u64 10] w fun e w' => e = .returned (.tuple #[.int .u64 0, .int .u64 10]) ∧ w' = w := by
  have h1 : bits BinOp.and IntKind.u64 1 4294967295 = 1 := by decide
  have h2 : bits BinOp.and IntKind.u64 10 4294967295 = 10 := by decide
  have h3 : bits BinOp.and IntKind.u64 0 4294967295 = 0 := by decide
  go_enter Tryz.func237, Tryz.ntmps237
  go_wp2
  go_ret2
  exact ⟨rfl, rfl⟩
set_option maxRecDepth 100000 in
set_option maxHeartbeats 1000000 in
theorem mul_10 (w : World) : Calls Tryz.prog 199 #[.int .u64 1, .int .u64 10] w fun e w' => e = .returned (.tuple #[.int .u64 0, .int .u64 10]) ∧ w' = w := by
  go_enter Tryz.func199, Tryz.ntmps199
  go_wp2_with fail
  refine (mul64_10 _).mono ?_
  rintro e w' ⟨rfl, rfl⟩
  go_wp2
  go_ret2
  exact ⟨rfl, rfl⟩

/-- So many ones, and noughts behind. -/
def repL (n : Nat) : List Value := bitsV (ones n) ++ bitsV (List.replicate (10 - n) false)
theorem rep_splice (k : Nat) (h : k = 1 ∨ k = 2 ∨ k = 4 ∨ k = 8) : splice (repL k) k (bitsV (ones (Nat.min k (10 - k)))) = repL (k + Nat.min k (10 - k)) := by
  rcases h with rfl | rfl | rfl | rfl <;> rfl
theorem rep_src (k : Nat) (h : k ≤ 10) (j : Nat) (v : Value) (hv : (bitsV (ones (Nat.min k (10 - k))))[j]? = some v) : (repL k).toArray[j]? = some v := by
  have hj : j < Nat.min k (10 - k) := by
    have := (List.getElem?_eq_some_iff.1 hv).1
    simpa [bitsV_length, ones] using this
  have hm : Nat.min k (10 - k) ≤ k := Nat.min_le_left _ _
  unfold repL
  simp only [List.getElem?_toArray]
  rw [List.getElem?_append_left (by simp [bitsV_length, ones]; omega)]
  simp only [bitsV, ones, List.map_replicate, List.getElem?_replicate] at hv ⊢
  rw [if_pos hj] at hv
  rw [if_pos (by omega)]
  exact hv
set_option maxRecDepth 100000 in
set_option maxHeartbeats 4000000 in
theorem repeat_any (D : Option Addr) (cap : Nat) (w : World) (hr : Rd w D (bitsV [true])) :
    Calls Tryz.prog 152 #[.slice D 1 cap, .int .i64 10] w fun e w' => ∃ b, e = .returned (.slice (some ⟨b, 0, none⟩) 10 10) ∧ w.heap.size ≤ b ∧ Rd w' (some ⟨b, 0, none⟩) (bitsV (ones 10)) ∧ Below w.heap.size w w' := by
  have hmk : ∀ w, (Instr.makeSlice 23 (.int .i64 10) (.int .i64 10)).run Tryz.prog w = .ok (.slice (some ⟨w.heap.size, 0, none⟩) 10 10) (w.alloc (.cells #[.int .u8 0, .int .u8 0, .int .u8 0, .int .u8 0, .int .u8 0, .int .u8 0, .int .u8 0, .int .u8 0, .int .u8 0, .int .u8 0] 5)) := fun _ => by kernel_rfl
  obtain ⟨ad, rfl, hc⟩ := hr 0 (bv true) rfl
  have HC := Lib.hid hc
  have HLT := Lib.hid (World.block_lt_of_cell? _ _ hc)
  clear hr hc
  go_enter Tryz.func152, Tryz.ntmps152
  go_wp2_with fail
  refine Calls.mono (show Calls _ _ #[.int .u64 1, .int .u64 10] _ _ from mul_10 _) ?_
  rintro e w' ⟨rfl, rfl⟩
  have hrd := HC.out
  obtain ⟨b, hb⟩ : ∃ b, b = w'.heap.size := ⟨_, rfl⟩
  have hone : ∀ k, ∀ v ∈ bitsV (ones k), v.oneCell' = true := fun k => bitsV_one _
  have HONE := Lib.hid hone
  have hg0 : (w'.alloc (.cells #[.int .u8 0, .int .u8 0, .int .u8 0, .int .u8 0, .int .u8 0, .int .u8 0, .int .u8 0, .int .u8 0, .int .u8 0, .int .u8 0] 5)).heap[w'.heap.size]? = some (.cells (repL 0).toArray 5 (0, 0)) := heap_alloc_new w' _
  have HG0 := Lib.hid hg0
  have hsz5 : (Tryz.prog.info? 5).map (·.size) = some 1 := by kernel_rfl
  have HS5 := Lib.hid hsz5
  have hsrc : ∀ j v, (bitsV (ones 1))[j]? = some v → (w'.alloc (.cells #[.int .u8 0, .int .u8 0, .int .u8 0, .int .u8 0, .int .u8 0, .int .u8 0, .int .u8 0, .int .u8 0, .int .u8 0, .int .u8 0] 5)).cell? (ad.add j) = some v := by
    intro j v hv
    match j with
    | 0 =>
      rw [Below.cell ((Below.refl w'.heap.size w').alloc (Nat.le_refl _) _) HLT.out, HC.out]
      exact hv
    | j + 1 => simp [bitsV, ones] at hv
  have HSRC := Lib.hid hsrc
  clear hone hg0 hrd hsz5 hsrc
  go_wp2_with (with_reducible refine wpList_copy_splice rfl (.tmp 31) (.tmp 32) _ _ rfl 5 Tryz.underlying23 HS5.out (some ⟨w'.heap.size, 0, none⟩) (some ad) 10 10 1 cap rfl rfl w'.heap.size 0 (repL 0) 5 HG0.out (bitsV (ones 1)) rfl (fun _ => ⟨rfl, ad, rfl, HSRC.out⟩) (by decide) (HONE.out 1) w'.heap.size w' ((Below.refl w'.heap.size w').alloc (Nat.le_refl _) _) (Nat.le_refl _) ?_; intro w2 HW2 HB2)
  have HW2' : Hid (w2.heap[w'.heap.size]? = some (.cells (repL 1).toArray 5 (0, 0))) := HW2
  have HB2' := Lib.hid HB2
  clear HB2 HG0 HW2
  go_loopw [8] (fun n W => ∃ k : Nat, (k = 1 ∨ k = 2 ∨ k = 4 ∨ k = 8 ∨ k = 10) ∧ n = .int .i64 k ∧ W.heap[w'.heap.size]? = some (.cells (repL k).toArray 5 (0, 0)) ∧ Below w'.heap.size w' W) (fun n _ => 10 - (intOf n).toNat)
  case atStart => exact ⟨1, .inl rfl, rfl, HW2'.out, HB2'.out⟩
  case round =>
    obtain ⟨k, hk, rfl, hg, hB⟩ := hrel
    by_cases h10 : k = 10
    · subst h10
      clear hk
      have HG := Lib.hid hg
      clear hg hmk
      go_wp2
      go_ret
      refine ⟨_, rfl, Nat.le_refl _, ?_, hB⟩
      intro j u hu
      refine ⟨_, rfl, ?_⟩
      rw [add_plain, blk_cell HG.out, Nat.zero_add]
      simpa [repL, bitsV] using hu
    · have hk4 : k = 1 ∨ k = 2 ∨ k = 4 ∨ k = 8 := by omega
      have hle : k ≤ 10 := by omega
      have hsp := rep_splice k hk4
      have hsrc : ∀ j v, (bitsV (ones (Nat.min k (10 - k))))[j]? = some v → wr.drew.cell? ((⟨w'.heap.size, 0, none⟩ : Addr).add j) = some v := by
        intro j v hv
        rw [add_plain, blk_cell (show wr.drew.heap[w'.heap.size]? = _ from hg), Nat.zero_add]
        exact rep_src k hle j v hv
      have HSP := Lib.hid hsp
      have HSRC := Lib.hid hsrc
      have HG := Lib.hid hg
      have HBB := Lib.hid hB
      clear hk h10 hsp hsrc hg hmk hle hB
      rcases hk4 with rfl | rfl | rfl | rfl
      · go_wp2
        refine wp_region_mix #[[], [], [], [1, 2], [], [], [4, 5], [1, 2, 3, 4, 5, 6], [0, 1, 2, 3, 4, 5, 6, 7], [0, 1, 2, 3, 4, 5, 6, 7, 8]] [(0, 0), (1, 0), (2, 0), (3, 0), (4, 0), (5, 0), (6, 0), (7, 2), (8, 0), (9, 0)] (by kernel_rfl) (by kernel_rfl) ?_
        refine mg_in ?_
        repeat (refine mg_py rfl rfl (fun K hK => ?_); go_simp; refine hK _ ?_; clear hK K)
        refine mg_ef rfl ?_
        refine wpList_copy_splice rfl (.tmp 41) (.tmp 44) _ _ rfl 5 Tryz.underlying23 HS5.out (some ⟨w'.heap.size, 1, none⟩) (some ⟨w'.heap.size, 0, none⟩) 9 9 1 10 rfl rfl w'.heap.size 1 (repL 1) 5 HG.out (bitsV (ones 1)) rfl (fun _ => ⟨rfl, _, rfl, HSRC.out⟩) (by decide) (HONE.out 1) w'.heap.size w' HBB.out.drew (Nat.le_refl _) ?_
        intro w3 HW3 HB3
        have HW4 : Hid (w3.heap[w'.heap.size]? = some (.cells (repL 2).toArray 5 (0, 0))) := HW3
        have HB4 := Lib.hid HB3
        clear HW3 HB3
        change MixG _ _ _ _ _ _
        repeat (refine mg_py rfl rfl (fun K hK => ?_); go_simp; refine hK _ ?_; clear hK K)
        refine mg_end ?_
        go_wp2
        go_roundw
        case rel => exact ⟨2, by decide, by first | rfl | go_num, HW4.out, HB4.out⟩
        case measure => first | (simp [intOf]; done) | decide
      · go_wp2
        refine wp_region_mix #[[], [], [], [1, 2], [], [], [4, 5], [1, 2, 3, 4, 5, 6], [0, 1, 2, 3, 4, 5, 6, 7], [0, 1, 2, 3, 4, 5, 6, 7, 8]] [(0, 0), (1, 0), (2, 0), (3, 0), (4, 0), (5, 0), (6, 0), (7, 2), (8, 0), (9, 0)] (by kernel_rfl) (by kernel_rfl) ?_
        refine mg_in ?_
        repeat (refine mg_py rfl rfl (fun K hK => ?_); go_simp; refine hK _ ?_; clear hK K)
        refine mg_ef rfl ?_
        refine wpList_copy_splice rfl (.tmp 41) (.tmp 44) _ _ rfl 5 Tryz.underlying23 HS5.out (some ⟨w'.heap.size, 2, none⟩) (some ⟨w'.heap.size, 0, none⟩) 8 8 2 10 rfl rfl w'.heap.size 2 (repL 2) 5 HG.out (bitsV (ones 2)) rfl (fun _ => ⟨rfl, _, rfl, HSRC.out⟩) (by decide) (HONE.out 2) w'.heap.size w' HBB.out.drew (Nat.le_refl _) ?_
        intro w3 HW3 HB3
        have HW4 : Hid (w3.heap[w'.heap.size]? = some (.cells (repL 4).toArray 5 (0, 0))) := HW3
        have HB4 := Lib.hid HB3
        clear HW3 HB3
        change MixG _ _ _ _ _ _
        repeat (refine mg_py rfl rfl (fun K hK => ?_); go_simp; refine hK _ ?_; clear hK K)
        refine mg_end ?_
        go_wp2
        go_roundw
        case rel => exact ⟨4, by decide, by first | rfl | go_num, HW4.out, HB4.out⟩
        case measure => first | (simp [intOf]; done) | decide
      · go_wp2
        refine wp_region_mix #[[], [], [], [1, 2], [], [], [4, 5], [1, 2, 3, 4, 5, 6], [0, 1, 2, 3, 4, 5, 6, 7], [0, 1, 2, 3, 4, 5, 6, 7, 8]] [(0, 0), (1, 0), (2, 0), (3, 0), (4, 0), (5, 0), (6, 0), (7, 2), (8, 0), (9, 0)] (by kernel_rfl) (by kernel_rfl) ?_
        refine mg_in ?_
        repeat (refine mg_py rfl rfl (fun K hK => ?_); go_simp; refine hK _ ?_; clear hK K)
        refine mg_ef rfl ?_
        refine wpList_copy_splice rfl (.tmp 41) (.tmp 44) _ _ rfl 5 Tryz.underlying23 HS5.out (some ⟨w'.heap.size, 4, none⟩) (some ⟨w'.heap.size, 0, none⟩) 6 6 4 10 rfl rfl w'.heap.size 4 (repL 4) 5 HG.out (bitsV (ones 4)) rfl (fun _ => ⟨rfl, _, rfl, HSRC.out⟩) (by decide) (HONE.out 4) w'.heap.size w' HBB.out.drew (Nat.le_refl _) ?_
        intro w3 HW3 HB3
        have HW4 : Hid (w3.heap[w'.heap.size]? = some (.cells (repL 8).toArray 5 (0, 0))) := HW3
        have HB4 := Lib.hid HB3
        clear HW3 HB3
        change MixG _ _ _ _ _ _
        repeat (refine mg_py rfl rfl (fun K hK => ?_); go_simp; refine hK _ ?_; clear hK K)
        refine mg_end ?_
        go_wp2
        go_roundw
        case rel => exact ⟨8, by decide, by first | rfl | go_num, HW4.out, HB4.out⟩
        case measure => first | (simp [intOf]; done) | decide
      · go_wp2
        refine wp_region_mix #[[], [], [], [1, 2], [], [], [4, 5], [1, 2, 3, 4, 5, 6], [0, 1, 2, 3, 4, 5, 6, 7], [0, 1, 2, 3, 4, 5, 6, 7, 8]] [(0, 0), (1, 0), (2, 0), (3, 0), (4, 0), (5, 0), (6, 0), (7, 2), (8, 0), (9, 0)] (by kernel_rfl) (by kernel_rfl) ?_
        refine mg_in ?_
        repeat (refine mg_py rfl rfl (fun K hK => ?_); go_simp; refine hK _ ?_; clear hK K)
        refine mg_ef rfl ?_
        refine wpList_copy_splice rfl (.tmp 41) (.tmp 44) _ _ rfl 5 Tryz.underlying23 HS5.out (some ⟨w'.heap.size, 8, none⟩) (some ⟨w'.heap.size, 0, none⟩) 2 2 8 10 rfl rfl w'.heap.size 8 (repL 8) 5 HG.out (bitsV (ones 2)) rfl (fun _ => ⟨rfl, _, rfl, HSRC.out⟩) (by decide) (HONE.out 2) w'.heap.size w' HBB.out.drew (Nat.le_refl _) ?_
        intro w3 HW3 HB3
        have HW4 : Hid (w3.heap[w'.heap.size]? = some (.cells (repL 10).toArray 5 (0, 0))) := HW3
        have HB4 := Lib.hid HB3
        clear HW3 HB3
        change MixG _ _ _ _ _ _
        repeat (refine mg_py rfl rfl (fun K hK => ?_); go_simp; refine hK _ ?_; clear hK K)
        refine mg_end ?_
        go_wp2
        go_roundw
        case rel => exact ⟨10, by decide, by first | rfl | go_num, HW4.out, HB4.out⟩
        case measure => first | (simp [intOf]; done) | decide
end Go.Proofs.YtnfnjmllgklaaaaGreat
