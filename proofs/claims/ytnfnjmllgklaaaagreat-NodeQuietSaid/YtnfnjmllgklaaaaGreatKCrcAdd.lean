/- crc.Add. -/
import Derived.Test.YtnfnjmllgklaaaaGreatKConcat
set_option linter.unusedVariables false
set_option linter.unusedSimpArgs false
namespace Go.Proofs.YtnfnjmllgklaaaaGreat
open Go Go.RowKit Go.Shelf Om

theorem bitsV_one (l : List Bool) : ∀ u ∈ bitsV l, u.oneCell' = true := by
  intro u hu
  obtain ⟨b, _, rfl⟩ := List.mem_map.1 hu
  rfl
theorem bytesV_one (l : List UInt8) : ∀ u ∈ bytesV l, u.oneCell' = true := by
  intro u hu
  obtain ⟨b, _, rfl⟩ := List.mem_map.1 hu
  rfl
theorem bitsV_length (l : List Bool) : (bitsV l).length = l.length := by simp [bitsV]
theorem bytesV_length (l : List UInt8) : (bytesV l).length = l.length := by simp [bytesV]
/-- A new block of slices, read as one. -/
theorem rd_block {W : World} {cs : Array Value} {e : TypeId} : Rd (W.alloc (.cells cs e)) (some ⟨W.heap.size, 0, none⟩) cs.toList := by
  intro j u hu
  refine ⟨_, rfl, ?_⟩
  rw [add_plain, blk_cell (heap_alloc_new W _)]
  simpa using hu
theorem own_rd {w : World} {B : Nat} {e : TypeId} {A : Option Addr} {m n c : Nat} {xs : List Value} (h : w.ownsRow B e 1 (.slice A m c) n xs) : Rd w A xs := by
  obtain ⟨A', c', e', _, _, hr⟩ := own_form h
  cases e'
  exact hr
theorem own_cap {w : World} {B : Nat} {e : TypeId} {A : Option Addr} {m n c : Nat} {xs : List Value} (h : w.ownsRow B e 1 (.slice A m c) n xs) : n ≤ c := by
  obtain ⟨A', c', e', hc, _, _⟩ := own_form h
  cases e'
  exact hc
/-- slices.Concat of rows whose slices a new block bears. -/
theorem concat_new (rows : List (Option Addr × Nat × List Value)) (cs : Array Value) (W : World) (hcs : cs.toList = catV rows) (hrs : ∀ r ∈ rows, Rd W r.1 r.2.2 ∧ ∀ u ∈ r.2.2, u.oneCell' = true) (hl : (catOf rows).length ≤ 10000000) (n : Nat) (hn : rows.length = n) (hn1 : n ≤ 100) :
    Calls Tryz.prog 155 #[.slice (some ⟨W.heap.size, 0, none⟩) n n] (W.alloc (.cells cs 23)) (RowPost 5 W.heap.size (catOf rows) W) := by
  subst hn
  refine (concat_any rows ⟨W.heap.size, 0, none⟩ (W.alloc (.cells cs 23)) (by rw [← hcs]; exact rd_block) (fun r hr => ⟨(hrs r hr).1.kept ((Below.refl _ _).alloc (Nat.le_refl _) _), (hrs r hr).2⟩) hl hn1).mono ?_
  rintro e w' ⟨A, c, rfl, hO, hB⟩
  exact ⟨A, c, rfl, own_mono hO (by simp), ((Below.refl _ _).alloc (Nat.le_refl _) _).trans (hB.mono (by simp))⟩
theorem crcSum_lt (k : Nat) (l : List Bool) (h1 : 1 ≤ k) (h5 : k ≤ 5) : crcSum k l < 2 ^ crcSize k := by
  obtain ⟨_, _, fp, fs⟩ := crc_facts k h1 h5
  exact crcRun_lt _ _ fp l _ fs

set_option maxRecDepth 100000 in
set_option maxHeartbeats 1000000 in
theorem add_any (k : Nat) (D : Option Addr) (cap : Nat) (l : List Bool) (w : World) (h1 : 1 ≤ k) (h5 : k ≤ 5) (hl : l.length ≤ 65536) (hcap : l.length ≤ cap) (hr : Rd w D (bitsV l)) :
    Calls Tryz.prog 192 #[.int .i64 k, .slice D l.length cap] w (Row2Post 5 w.heap.size (bitsV (crcAdd k l)) w) := by
  obtain ⟨_, f32, _, _⟩ := crc_facts k h1 h5
  have hsum := sum_any k D cap l w h1 h5 hl hcap hr
  have hlt := crcSum_lt k l h1 h5
  have hadd : bitsV (crcAdd k l) = catOf [(D, cap, bitsV l), (none, 0, bitsV (bitsOf (crcSum k l) (crcSize k)))] := by simp [catOf, crcAdd, bitsV]
  have hsize := fun W => size_any k W h1 h5
  have HR := Lib.hid hr
  have HA := Lib.hid hadd
  have HZ := Lib.hid hsize
  have HL := Lib.hid hlt
  clear hr hadd hsize hlt
  generalize crcSum k l = x at *
  go_enter Tryz.func192, Tryz.ntmps192
  go_wp2_with fail
  refine hsum.mono ?_
  rintro e w1 ⟨rfl, hB1⟩
  clear hsum
  go_wp2_with fail
  refine (HZ.out w1).mono ?_
  rintro e w2 ⟨rfl, hB2⟩
  have hB2' := below_then hB1 hB2
  go_wp2_with fail
  refine (put_any x (crcSize k) w2 HL.out (by omega)).mono ?_
  rintro e w3 ⟨A, c, rfl, hO3, hB3⟩
  have hB3' := below_then hB2' hB3
  have hcl : (catOf [(D, cap, bitsV l), (A, c, bitsV (bitsOf x (crcSize k)))]).length ≤ 10000000 := by simp [catOf, bitsV_length, bitsOf_length]; omega
  have hcat := concat_new [(D, cap, bitsV l), (A, c, bitsV (bitsOf x (crcSize k)))] #[.slice D l.length cap, .slice A (bitsV (bitsOf x (crcSize k))).length c] w3 (by simp [catV, bitsV_length])
    (by intro r hr; rcases List.mem_cons.1 hr with rfl | hr
        · exact ⟨HR.out.kept hB3', bitsV_one _⟩
        · rcases List.mem_cons.1 hr with rfl | hr
          · exact ⟨own_rd hO3, bitsV_one _⟩
          · cases hr) hcl 2 rfl (by decide)
  go_wp2_with fail
  refine hcat.mono ?_
  rintro e w4 ⟨A4, c4, rfl, hO4, hB4⟩
  clear hcat
  have hend : bitsV (crcAdd k l) = catOf [(D, cap, bitsV l), (A, c, bitsV (bitsOf x (crcSize k)))] := HA.out
  have HE := Lib.hid hend
  have HO := Lib.hid hO4
  clear hO4 hend hO3 hcl
  go_wp2
  go_ret2
  refine ⟨A4, c4, by rw [HE.out]; rfl, ?_, below_then hB3' hB4⟩
  rw [HE.out]
  exact own_mono HO.out hB3'.size
end Go.Proofs.YtnfnjmllgklaaaaGreat
