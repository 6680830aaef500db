/- scan.New, ask. -/
import Derived.Test.YtnfnjmllgklaaaaGreatKMach
import Derived.Laws.EntriesVeiled
set_option linter.unusedVariables false
set_option linter.unusedSimpArgs false
namespace Go.Proofs.YtnfnjmllgklaaaaGreat
open Go Go.RowKit Go.Shelf Om

/-- The machine's block, whatever is in it. -/
def MBlk (W : World) (b : Nat) (cs : Array Value) : Prop := W.heap[b]? = some (.cells cs 169 (0, 0))
set_option maxRecDepth 100000 in
set_option maxHeartbeats 1000000 in
theorem mask_any (b n : Nat) (f : Fn) (xs ys : Array Value) (w : World) (v16 v19 : Value) (h16 : w.cell? ⟨b, 16, none⟩ = some v16) (h19 : w.cell? ⟨b, 19, none⟩ = some v19) (f16 : w.frozen? ⟨b, 16, none⟩ = false) (f19 : w.frozen? ⟨b, 19, none⟩ = false) :
    Calls Tryz.prog 125 #[.pointer (some ⟨b, 0, none⟩), .int .i64 n, .func f xs ys] w fun e w' => e = .returned (.tuple #[]) ∧ w' = (w.setCell ⟨b, 19, none⟩ (.int .i64 n)).setCell ⟨b, 16, none⟩ (.func f xs ys) := by
  go_enter Tryz.func125, Tryz.ntmps125
  go_wp2
  go_end0
  exact ⟨rfl, rfl⟩
def mc0 (b : Nat) : MC := ⟨none, 0, .func (.func 124) #[pt b] #[], .func (.func 126) #[pt b] #[], none, 0, none, 0, none, 0, none, 0⟩
set_option maxRecDepth 100000 in
set_option maxHeartbeats 1000000 in
theorem scanNew_any (xl : Bool) (w : World) :
    Calls Tryz.prog 78 #[.bool xl] w fun e w' => e = .returned (pt w.heap.size) ∧ MachineAt w' (fun k => k = w.heap.size) w.heap.size (M.new xl) ∧ Below w.heap.size w w' ∧ w'.heap.size = w.heap.size + 1 := by
  go_enter Tryz.func78, Tryz.ntmps78
  go_wp2_with fail
  refine (mask_any w.heap.size 1 (.func 126) #[.pointer (some ⟨w.heap.size, 0, none⟩)] #[] _ .nilFunc (.int .i64 0) (blk_cell (heap_alloc_new w _) 16) (blk_cell (heap_alloc_new w _) 19) (blk_free (heap_alloc_new w _) 16) (blk_free (heap_alloc_new w _) 19)).mono ?_
  rintro e w1 ⟨rfl, hw1⟩
  have hk : w1.heap[w.heap.size]? = some (.cells (mCells (M.new xl) (mc0 w.heap.size)) 169 (0, 0)) := by
    rw [hw1]
    exact blk_set (blk_set (heap_alloc_new w _) 19 _) 16 _
  have hB : Below w.heap.size w w1 := by rw [hw1]; exact (((Below.refl _ _).alloc (Nat.le_refl _) _).setCell (p := ⟨w.heap.size, 19, none⟩) (Nat.le_refl _) _).setCell (p := ⟨w.heap.size, 16, none⟩) (Nat.le_refl _) _
  have hz : w1.heap.size = w.heap.size + 1 := by rw [hw1]; simp
  have HK := Lib.hid hk
  have HB := Lib.hid hB
  have HZ := Lib.hid hz
  clear hw1 hk hB hz
  go_wp2
  go_ret
  refine ⟨rfl, ⟨mc0 w.heap.size, ?_⟩, HB.out, HZ.out⟩
  exact ⟨HK.out, rfl, fun k hk => by rw [HZ.out]; have : k = w.heap.size := hk; omega, own_nil _ _ _, own_nil _ _ _, own_nil _ _ _, fun k hk => (by cases hk), fun k hk => (by cases hk), fun k hk => (by cases hk), fun k hk => (by cases hk), fun k hk => (by cases hk), fun k hk => (by cases hk), DataIn.nil _ _ _, DataIn.nil _ _ _, rfl, rfl⟩
end Go.Proofs.YtnfnjmllgklaaaaGreat
