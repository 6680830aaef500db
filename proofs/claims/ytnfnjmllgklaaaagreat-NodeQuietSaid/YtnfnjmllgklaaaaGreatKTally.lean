/- fixed.Tally, fixed.Tells. -/
import Derived.Test.YtnfnjmllgklaaaaGreatKFixed
set_option linter.unusedVariables false
set_option linter.unusedSimpArgs false
namespace Go.Proofs.YtnfnjmllgklaaaaGreat
open Go Go.RowKit Go.Shelf Om

set_option maxRecDepth 100000 in
set_option maxHeartbeats 400000 in
theorem tally_any (n : Nat) (w : World) (hn : n ≤ 1000000) :
    Calls Tryz.prog 204 #[.int .i64 n] w (Row2Post 5 w.heap.size (bitsV (tally n)) w) := by
  have hp := fun x (h : x < 16) => put_any x 4 w h (by decide)
  have hlt : n % 8 < 8 := Nat.mod_lt _ (by decide)
  have hrem : (n : Int) % 8 = ((n % 8 : Nat) : Int) := by omega
  have ht : tally n = tally (n % 8) := by unfold tally; rw [Nat.mod_mod]
  rw [ht]
  generalize n % 8 = r at *
  have hng : ¬ (n : Int) < 0 := by omega
  rcases (by omega : r = 0 ∨ r = 1 ∨ r = 2 ∨ r = 3 ∨ r = 4 ∨ r = 5 ∨ r = 6 ∨ r = 7) with rfl | rfl | rfl | rfl | rfl | rfl | rfl | rfl
  · have h := hp 0 (by decide)
    clear hp
    have b0 : bits BinOp.xor IntKind.i64 0 0 = 0 := by decide
    have b1 : bits BinOp.and IntKind.i64 0 1 = 0 := by decide
    have b2 : bits BinOp.or IntKind.i64 0 0 = 0 := by decide
    go_enter Tryz.func204, Tryz.ntmps204
    go_wp2_with fail
    refine Calls.mono (show Calls _ _ #[.int .u64 0, .int .i64 4] _ _ from h) ?_
    rintro e w1 ⟨A, c, rfl, hO, hB⟩
    clear h
    go_wp2
    go_ret2
    exact ⟨A, c, rfl, hO, hB⟩
  · have h := hp 3 (by decide)
    clear hp
    have b0 : bits BinOp.xor IntKind.i64 1 0 = 1 := by decide
    have b1 : bits BinOp.and IntKind.i64 1 1 = 1 := by decide
    have b2 : bits BinOp.or IntKind.i64 2 1 = 3 := by decide
    go_enter Tryz.func204, Tryz.ntmps204
    go_wp2_with fail
    refine Calls.mono (show Calls _ _ #[.int .u64 3, .int .i64 4] _ _ from h) ?_
    rintro e w1 ⟨A, c, rfl, hO, hB⟩
    clear h
    go_wp2
    go_ret2
    exact ⟨A, c, rfl, hO, hB⟩
  · have h := hp 6 (by decide)
    clear hp
    have b0 : bits BinOp.xor IntKind.i64 2 1 = 3 := by decide
    have b1 : bits BinOp.xor IntKind.i64 3 1 = 2 := by decide
    have b2 : bits BinOp.xor IntKind.i64 2 0 = 2 := by decide
    have b3 : bits BinOp.and IntKind.i64 2 1 = 0 := by decide
    have b4 : bits BinOp.or IntKind.i64 6 0 = 6 := by decide
    go_enter Tryz.func204, Tryz.ntmps204
    go_wp2_with fail
    refine Calls.mono (show Calls _ _ #[.int .u64 6, .int .i64 4] _ _ from h) ?_
    rintro e w1 ⟨A, c, rfl, hO, hB⟩
    clear h
    go_wp2
    go_ret2
    exact ⟨A, c, rfl, hO, hB⟩
  · have h := hp 5 (by decide)
    clear hp
    have b0 : bits BinOp.xor IntKind.i64 3 1 = 2 := by decide
    have b1 : bits BinOp.xor IntKind.i64 2 1 = 3 := by decide
    have b2 : bits BinOp.xor IntKind.i64 3 0 = 3 := by decide
    have b3 : bits BinOp.and IntKind.i64 3 1 = 1 := by decide
    have b4 : bits BinOp.or IntKind.i64 4 1 = 5 := by decide
    go_enter Tryz.func204, Tryz.ntmps204
    go_wp2_with fail
    refine Calls.mono (show Calls _ _ #[.int .u64 5, .int .i64 4] _ _ from h) ?_
    rintro e w1 ⟨A, c, rfl, hO, hB⟩
    clear h
    go_wp2
    go_ret2
    exact ⟨A, c, rfl, hO, hB⟩
  · have h := hp 12 (by decide)
    clear hp
    have b0 : bits BinOp.xor IntKind.i64 4 2 = 6 := by decide
    have b1 : bits BinOp.xor IntKind.i64 6 3 = 5 := by decide
    have b2 : bits BinOp.xor IntKind.i64 5 1 = 4 := by decide
    have b3 : bits BinOp.and IntKind.i64 4 1 = 0 := by decide
    have b4 : bits BinOp.or IntKind.i64 12 0 = 12 := by decide
    go_enter Tryz.func204, Tryz.ntmps204
    go_wp2_with fail
    refine Calls.mono (show Calls _ _ #[.int .u64 12, .int .i64 4] _ _ from h) ?_
    rintro e w1 ⟨A, c, rfl, hO, hB⟩
    clear h
    go_wp2
    go_ret2
    exact ⟨A, c, rfl, hO, hB⟩
  · have h := hp 15 (by decide)
    clear hp
    have b0 : bits BinOp.xor IntKind.i64 5 2 = 7 := by decide
    have b1 : bits BinOp.xor IntKind.i64 7 3 = 4 := by decide
    have b2 : bits BinOp.xor IntKind.i64 4 1 = 5 := by decide
    have b3 : bits BinOp.and IntKind.i64 5 1 = 1 := by decide
    have b4 : bits BinOp.or IntKind.i64 14 1 = 15 := by decide
    go_enter Tryz.func204, Tryz.ntmps204
    go_wp2_with fail
    refine Calls.mono (show Calls _ _ #[.int .u64 15, .int .i64 4] _ _ from h) ?_
    rintro e w1 ⟨A, c, rfl, hO, hB⟩
    clear h
    go_wp2
    go_ret2
    exact ⟨A, c, rfl, hO, hB⟩
  · have h := hp 10 (by decide)
    clear hp
    have b0 : bits BinOp.xor IntKind.i64 6 3 = 5 := by decide
    have b1 : bits BinOp.xor IntKind.i64 5 2 = 7 := by decide
    have b2 : bits BinOp.xor IntKind.i64 7 1 = 6 := by decide
    have b3 : bits BinOp.and IntKind.i64 6 1 = 0 := by decide
    have b4 : bits BinOp.or IntKind.i64 10 0 = 10 := by decide
    go_enter Tryz.func204, Tryz.ntmps204
    go_wp2_with fail
    refine Calls.mono (show Calls _ _ #[.int .u64 10, .int .i64 4] _ _ from h) ?_
    rintro e w1 ⟨A, c, rfl, hO, hB⟩
    clear h
    go_wp2
    go_ret2
    exact ⟨A, c, rfl, hO, hB⟩
  · have h := hp 9 (by decide)
    clear hp
    have b0 : bits BinOp.xor IntKind.i64 7 3 = 4 := by decide
    have b1 : bits BinOp.xor IntKind.i64 4 2 = 6 := by decide
    have b2 : bits BinOp.xor IntKind.i64 6 1 = 7 := by decide
    have b3 : bits BinOp.and IntKind.i64 7 1 = 1 := by decide
    have b4 : bits BinOp.or IntKind.i64 8 1 = 9 := by decide
    go_enter Tryz.func204, Tryz.ntmps204
    go_wp2_with fail
    refine Calls.mono (show Calls _ _ #[.int .u64 9, .int .i64 4] _ _ from h) ?_
    rintro e w1 ⟨A, c, rfl, hO, hB⟩
    clear h
    go_wp2
    go_ret2
    exact ⟨A, c, rfl, hO, hB⟩

/-- What fixed.Tells hands back of four bits. -/
def TellsPost (B : Nat) (l : List Bool) (w : World) (e : Ending) (w' : World) : Prop :=
  Below B w w' ∧ ((∃ n, tells l = some n ∧ e = .returned (.tuple #[.int .i64 (n : Nat), .int .i64 0])) ∨ (tells l = none ∧ e = .returned (.tuple #[.int .i64 0, .int .i64 6])))

set_option maxRecDepth 100000 in
set_option maxHeartbeats 400000 in
theorem tells_0 (D : Option Addr) (cap : Nat) (w : World) (hr : Rd w D (bitsV [false, false, false, false])) :
    Calls Tryz.prog 274 #[.slice D 4 cap] w (TellsPost w.heap.size [false, false, false, false] w) := by
  have h := get_any D cap [false, false, false, false] w hr (by decide)
  have hz : (num [false, false, false, false]) = 0 := by decide
  rw [hz] at h
  clear hr hz
  have b0 : bits BinOp.xor IntKind.i64 0 0 = 0 := by decide
  have b1 : bits BinOp.and IntKind.i64 0 1 = 0 := by decide
  go_enter Tryz.func274, Tryz.ntmps274
  go_wp2_with fail
  refine Calls.mono (show Calls _ _ #[.slice D 4 cap] _ _ from h) ?_
  rintro e w1 ⟨rfl, hB⟩
  clear h
  go_wp2
  go_ret2
  exact ⟨hB, .inl ⟨0, by decide, rfl⟩⟩

set_option maxRecDepth 100000 in
set_option maxHeartbeats 400000 in
theorem tells_1 (D : Option Addr) (cap : Nat) (w : World) (hr : Rd w D (bitsV [false, false, false, true])) :
    Calls Tryz.prog 274 #[.slice D 4 cap] w (TellsPost w.heap.size [false, false, false, true] w) := by
  have h := get_any D cap [false, false, false, true] w hr (by decide)
  have hz : (num [false, false, false, true]) = 1 := by decide
  rw [hz] at h
  clear hr hz
  have b0 : bits BinOp.xor IntKind.i64 0 0 = 0 := by decide
  have b1 : bits BinOp.xor IntKind.i64 0 1 = 1 := by decide
  have b2 : bits BinOp.and IntKind.i64 1 1 = 1 := by decide
  go_enter Tryz.func274, Tryz.ntmps274
  go_wp2_with fail
  refine Calls.mono (show Calls _ _ #[.slice D 4 cap] _ _ from h) ?_
  rintro e w1 ⟨rfl, hB⟩
  clear h
  go_wp2
  go_ret2
  exact ⟨hB, .inr ⟨by decide, rfl⟩⟩

set_option maxRecDepth 100000 in
set_option maxHeartbeats 400000 in
theorem tells_2 (D : Option Addr) (cap : Nat) (w : World) (hr : Rd w D (bitsV [false, false, true, false])) :
    Calls Tryz.prog 274 #[.slice D 4 cap] w (TellsPost w.heap.size [false, false, true, false] w) := by
  have h := get_any D cap [false, false, true, false] w hr (by decide)
  have hz : (num [false, false, true, false]) = 2 := by decide
  rw [hz] at h
  clear hr hz
  have b0 : bits BinOp.xor IntKind.i64 1 0 = 1 := by decide
  have b1 : bits BinOp.xor IntKind.i64 1 2 = 3 := by decide
  have b2 : bits BinOp.and IntKind.i64 3 1 = 1 := by decide
  go_enter Tryz.func274, Tryz.ntmps274
  go_wp2_with fail
  refine Calls.mono (show Calls _ _ #[.slice D 4 cap] _ _ from h) ?_
  rintro e w1 ⟨rfl, hB⟩
  clear h
  go_wp2
  go_ret2
  exact ⟨hB, .inr ⟨by decide, rfl⟩⟩

set_option maxRecDepth 100000 in
set_option maxHeartbeats 400000 in
theorem tells_3 (D : Option Addr) (cap : Nat) (w : World) (hr : Rd w D (bitsV [false, false, true, true])) :
    Calls Tryz.prog 274 #[.slice D 4 cap] w (TellsPost w.heap.size [false, false, true, true] w) := by
  have h := get_any D cap [false, false, true, true] w hr (by decide)
  have hz : (num [false, false, true, true]) = 3 := by decide
  rw [hz] at h
  clear hr hz
  have b0 : bits BinOp.xor IntKind.i64 1 0 = 1 := by decide
  have b1 : bits BinOp.xor IntKind.i64 1 3 = 2 := by decide
  have b2 : bits BinOp.and IntKind.i64 2 1 = 0 := by decide
  go_enter Tryz.func274, Tryz.ntmps274
  go_wp2_with fail
  refine Calls.mono (show Calls _ _ #[.slice D 4 cap] _ _ from h) ?_
  rintro e w1 ⟨rfl, hB⟩
  clear h
  go_wp2
  go_ret2
  exact ⟨hB, .inl ⟨1, by decide, rfl⟩⟩

set_option maxRecDepth 100000 in
set_option maxHeartbeats 400000 in
theorem tells_4 (D : Option Addr) (cap : Nat) (w : World) (hr : Rd w D (bitsV [false, true, false, false])) :
    Calls Tryz.prog 274 #[.slice D 4 cap] w (TellsPost w.heap.size [false, true, false, false] w) := by
  have h := get_any D cap [false, true, false, false] w hr (by decide)
  have hz : (num [false, true, false, false]) = 4 := by decide
  rw [hz] at h
  clear hr hz
  have b0 : bits BinOp.xor IntKind.i64 2 1 = 3 := by decide
  have b1 : bits BinOp.xor IntKind.i64 3 0 = 3 := by decide
  have b2 : bits BinOp.xor IntKind.i64 3 4 = 7 := by decide
  have b3 : bits BinOp.and IntKind.i64 7 1 = 1 := by decide
  go_enter Tryz.func274, Tryz.ntmps274
  go_wp2_with fail
  refine Calls.mono (show Calls _ _ #[.slice D 4 cap] _ _ from h) ?_
  rintro e w1 ⟨rfl, hB⟩
  clear h
  go_wp2
  go_ret2
  exact ⟨hB, .inr ⟨by decide, rfl⟩⟩

set_option maxRecDepth 100000 in
set_option maxHeartbeats 400000 in
theorem tells_5 (D : Option Addr) (cap : Nat) (w : World) (hr : Rd w D (bitsV [false, true, false, true])) :
    Calls Tryz.prog 274 #[.slice D 4 cap] w (TellsPost w.heap.size [false, true, false, true] w) := by
  have h := get_any D cap [false, true, false, true] w hr (by decide)
  have hz : (num [false, true, false, true]) = 5 := by decide
  rw [hz] at h
  clear hr hz
  have b0 : bits BinOp.xor IntKind.i64 2 1 = 3 := by decide
  have b1 : bits BinOp.xor IntKind.i64 3 0 = 3 := by decide
  have b2 : bits BinOp.xor IntKind.i64 3 5 = 6 := by decide
  have b3 : bits BinOp.and IntKind.i64 6 1 = 0 := by decide
  go_enter Tryz.func274, Tryz.ntmps274
  go_wp2_with fail
  refine Calls.mono (show Calls _ _ #[.slice D 4 cap] _ _ from h) ?_
  rintro e w1 ⟨rfl, hB⟩
  clear h
  go_wp2
  go_ret2
  exact ⟨hB, .inl ⟨3, by decide, rfl⟩⟩

set_option maxRecDepth 100000 in
set_option maxHeartbeats 400000 in
theorem tells_6 (D : Option Addr) (cap : Nat) (w : World) (hr : Rd w D (bitsV [false, true, true, false])) :
    Calls Tryz.prog 274 #[.slice D 4 cap] w (TellsPost w.heap.size [false, true, true, false] w) := by
  have h := get_any D cap [false, true, true, false] w hr (by decide)
  have hz : (num [false, true, true, false]) = 6 := by decide
  rw [hz] at h
  clear hr hz
  have b0 : bits BinOp.xor IntKind.i64 3 1 = 2 := by decide
  have b1 : bits BinOp.xor IntKind.i64 2 0 = 2 := by decide
  have b2 : bits BinOp.xor IntKind.i64 2 6 = 4 := by decide
  have b3 : bits BinOp.and IntKind.i64 4 1 = 0 := by decide
  go_enter Tryz.func274, Tryz.ntmps274
  go_wp2_with fail
  refine Calls.mono (show Calls _ _ #[.slice D 4 cap] _ _ from h) ?_
  rintro e w1 ⟨rfl, hB⟩
  clear h
  go_wp2
  go_ret2
  exact ⟨hB, .inl ⟨2, by decide, rfl⟩⟩

set_option maxRecDepth 100000 in
set_option maxHeartbeats 400000 in
theorem tells_7 (D : Option Addr) (cap : Nat) (w : World) (hr : Rd w D (bitsV [false, true, true, true])) :
    Calls Tryz.prog 274 #[.slice D 4 cap] w (TellsPost w.heap.size [false, true, true, true] w) := by
  have h := get_any D cap [false, true, true, true] w hr (by decide)
  have hz : (num [false, true, true, true]) = 7 := by decide
  rw [hz] at h
  clear hr hz
  have b0 : bits BinOp.xor IntKind.i64 3 1 = 2 := by decide
  have b1 : bits BinOp.xor IntKind.i64 2 0 = 2 := by decide
  have b2 : bits BinOp.xor IntKind.i64 2 7 = 5 := by decide
  have b3 : bits BinOp.and IntKind.i64 5 1 = 1 := by decide
  go_enter Tryz.func274, Tryz.ntmps274
  go_wp2_with fail
  refine Calls.mono (show Calls _ _ #[.slice D 4 cap] _ _ from h) ?_
  rintro e w1 ⟨rfl, hB⟩
  clear h
  go_wp2
  go_ret2
  exact ⟨hB, .inr ⟨by decide, rfl⟩⟩

set_option maxRecDepth 100000 in
set_option maxHeartbeats 400000 in
theorem tells_8 (D : Option Addr) (cap : Nat) (w : World) (hr : Rd w D (bitsV [true, false, false, false])) :
    Calls Tryz.prog 274 #[.slice D 4 cap] w (TellsPost w.heap.size [true, false, false, false] w) := by
  have h := get_any D cap [true, false, false, false] w hr (by decide)
  have hz : (num [true, false, false, false]) = 8 := by decide
  rw [hz] at h
  clear hr hz
  have b0 : bits BinOp.xor IntKind.i64 4 2 = 6 := by decide
  have b1 : bits BinOp.xor IntKind.i64 6 1 = 7 := by decide
  have b2 : bits BinOp.xor IntKind.i64 7 8 = 15 := by decide
  have b3 : bits BinOp.and IntKind.i64 15 1 = 1 := by decide
  go_enter Tryz.func274, Tryz.ntmps274
  go_wp2_with fail
  refine Calls.mono (show Calls _ _ #[.slice D 4 cap] _ _ from h) ?_
  rintro e w1 ⟨rfl, hB⟩
  clear h
  go_wp2
  go_ret2
  exact ⟨hB, .inr ⟨by decide, rfl⟩⟩

set_option maxRecDepth 100000 in
set_option maxHeartbeats 400000 in
theorem tells_9 (D : Option Addr) (cap : Nat) (w : World) (hr : Rd w D (bitsV [true, false, false, true])) :
    Calls Tryz.prog 274 #[.slice D 4 cap] w (TellsPost w.heap.size [true, false, false, true] w) := by
  have h := get_any D cap [true, false, false, true] w hr (by decide)
  have hz : (num [true, false, false, true]) = 9 := by decide
  rw [hz] at h
  clear hr hz
  have b0 : bits BinOp.xor IntKind.i64 4 2 = 6 := by decide
  have b1 : bits BinOp.xor IntKind.i64 6 1 = 7 := by decide
  have b2 : bits BinOp.xor IntKind.i64 7 9 = 14 := by decide
  have b3 : bits BinOp.and IntKind.i64 14 1 = 0 := by decide
  go_enter Tryz.func274, Tryz.ntmps274
  go_wp2_with fail
  refine Calls.mono (show Calls _ _ #[.slice D 4 cap] _ _ from h) ?_
  rintro e w1 ⟨rfl, hB⟩
  clear h
  go_wp2
  go_ret2
  exact ⟨hB, .inl ⟨7, by decide, rfl⟩⟩

set_option maxRecDepth 100000 in
set_option maxHeartbeats 400000 in
theorem tells_10 (D : Option Addr) (cap : Nat) (w : World) (hr : Rd w D (bitsV [true, false, true, false])) :
    Calls Tryz.prog 274 #[.slice D 4 cap] w (TellsPost w.heap.size [true, false, true, false] w) := by
  have h := get_any D cap [true, false, true, false] w hr (by decide)
  have hz : (num [true, false, true, false]) = 10 := by decide
  rw [hz] at h
  clear hr hz
  have b0 : bits BinOp.xor IntKind.i64 5 2 = 7 := by decide
  have b1 : bits BinOp.xor IntKind.i64 7 1 = 6 := by decide
  have b2 : bits BinOp.xor IntKind.i64 6 10 = 12 := by decide
  have b3 : bits BinOp.and IntKind.i64 12 1 = 0 := by decide
  go_enter Tryz.func274, Tryz.ntmps274
  go_wp2_with fail
  refine Calls.mono (show Calls _ _ #[.slice D 4 cap] _ _ from h) ?_
  rintro e w1 ⟨rfl, hB⟩
  clear h
  go_wp2
  go_ret2
  exact ⟨hB, .inl ⟨6, by decide, rfl⟩⟩

set_option maxRecDepth 100000 in
set_option maxHeartbeats 400000 in
theorem tells_11 (D : Option Addr) (cap : Nat) (w : World) (hr : Rd w D (bitsV [true, false, true, true])) :
    Calls Tryz.prog 274 #[.slice D 4 cap] w (TellsPost w.heap.size [true, false, true, true] w) := by
  have h := get_any D cap [true, false, true, true] w hr (by decide)
  have hz : (num [true, false, true, true]) = 11 := by decide
  rw [hz] at h
  clear hr hz
  have b0 : bits BinOp.xor IntKind.i64 5 2 = 7 := by decide
  have b1 : bits BinOp.xor IntKind.i64 7 1 = 6 := by decide
  have b2 : bits BinOp.xor IntKind.i64 6 11 = 13 := by decide
  have b3 : bits BinOp.and IntKind.i64 13 1 = 1 := by decide
  go_enter Tryz.func274, Tryz.ntmps274
  go_wp2_with fail
  refine Calls.mono (show Calls _ _ #[.slice D 4 cap] _ _ from h) ?_
  rintro e w1 ⟨rfl, hB⟩
  clear h
  go_wp2
  go_ret2
  exact ⟨hB, .inr ⟨by decide, rfl⟩⟩

set_option maxRecDepth 100000 in
set_option maxHeartbeats 400000 in
theorem tells_12 (D : Option Addr) (cap : Nat) (w : World) (hr : Rd w D (bitsV [true, true, false, false])) :
    Calls Tryz.prog 274 #[.slice D 4 cap] w (TellsPost w.heap.size [true, true, false, false] w) := by
  have h := get_any D cap [true, true, false, false] w hr (by decide)
  have hz : (num [true, true, false, false]) = 12 := by decide
  rw [hz] at h
  clear hr hz
  have b0 : bits BinOp.xor IntKind.i64 6 3 = 5 := by decide
  have b1 : bits BinOp.xor IntKind.i64 5 1 = 4 := by decide
  have b2 : bits BinOp.xor IntKind.i64 4 12 = 8 := by decide
  have b3 : bits BinOp.and IntKind.i64 8 1 = 0 := by decide
  go_enter Tryz.func274, Tryz.ntmps274
  go_wp2_with fail
  refine Calls.mono (show Calls _ _ #[.slice D 4 cap] _ _ from h) ?_
  rintro e w1 ⟨rfl, hB⟩
  clear h
  go_wp2
  go_ret2
  exact ⟨hB, .inl ⟨4, by decide, rfl⟩⟩

set_option maxRecDepth 100000 in
set_option maxHeartbeats 400000 in
theorem tells_13 (D : Option Addr) (cap : Nat) (w : World) (hr : Rd w D (bitsV [true, true, false, true])) :
    Calls Tryz.prog 274 #[.slice D 4 cap] w (TellsPost w.heap.size [true, true, false, true] w) := by
  have h := get_any D cap [true, true, false, true] w hr (by decide)
  have hz : (num [true, true, false, true]) = 13 := by decide
  rw [hz] at h
  clear hr hz
  have b0 : bits BinOp.xor IntKind.i64 6 3 = 5 := by decide
  have b1 : bits BinOp.xor IntKind.i64 5 1 = 4 := by decide
  have b2 : bits BinOp.xor IntKind.i64 4 13 = 9 := by decide
  have b3 : bits BinOp.and IntKind.i64 9 1 = 1 := by decide
  go_enter Tryz.func274, Tryz.ntmps274
  go_wp2_with fail
  refine Calls.mono (show Calls _ _ #[.slice D 4 cap] _ _ from h) ?_
  rintro e w1 ⟨rfl, hB⟩
  clear h
  go_wp2
  go_ret2
  exact ⟨hB, .inr ⟨by decide, rfl⟩⟩

set_option maxRecDepth 100000 in
set_option maxHeartbeats 400000 in
theorem tells_14 (D : Option Addr) (cap : Nat) (w : World) (hr : Rd w D (bitsV [true, true, true, false])) :
    Calls Tryz.prog 274 #[.slice D 4 cap] w (TellsPost w.heap.size [true, true, true, false] w) := by
  have h := get_any D cap [true, true, true, false] w hr (by decide)
  have hz : (num [true, true, true, false]) = 14 := by decide
  rw [hz] at h
  clear hr hz
  have b0 : bits BinOp.xor IntKind.i64 7 3 = 4 := by decide
  have b1 : bits BinOp.xor IntKind.i64 4 1 = 5 := by decide
  have b2 : bits BinOp.xor IntKind.i64 5 14 = 11 := by decide
  have b3 : bits BinOp.and IntKind.i64 11 1 = 1 := by decide
  go_enter Tryz.func274, Tryz.ntmps274
  go_wp2_with fail
  refine Calls.mono (show Calls _ _ #[.slice D 4 cap] _ _ from h) ?_
  rintro e w1 ⟨rfl, hB⟩
  clear h
  go_wp2
  go_ret2
  exact ⟨hB, .inr ⟨by decide, rfl⟩⟩

set_option maxRecDepth 100000 in
set_option maxHeartbeats 400000 in
theorem tells_15 (D : Option Addr) (cap : Nat) (w : World) (hr : Rd w D (bitsV [true, true, true, true])) :
    Calls Tryz.prog 274 #[.slice D 4 cap] w (TellsPost w.heap.size [true, true, true, true] w) := by
  have h := get_any D cap [true, true, true, true] w hr (by decide)
  have hz : (num [true, true, true, true]) = 15 := by decide
  rw [hz] at h
  clear hr hz
  have b0 : bits BinOp.xor IntKind.i64 7 3 = 4 := by decide
  have b1 : bits BinOp.xor IntKind.i64 4 1 = 5 := by decide
  have b2 : bits BinOp.xor IntKind.i64 5 15 = 10 := by decide
  have b3 : bits BinOp.and IntKind.i64 10 1 = 0 := by decide
  go_enter Tryz.func274, Tryz.ntmps274
  go_wp2_with fail
  refine Calls.mono (show Calls _ _ #[.slice D 4 cap] _ _ from h) ?_
  rintro e w1 ⟨rfl, hB⟩
  clear h
  go_wp2
  go_ret2
  exact ⟨hB, .inl ⟨5, by decide, rfl⟩⟩

theorem tells_any (D : Option Addr) (cap : Nat) (l : List Bool) (w : World) (hr : Rd w D (bitsV l)) (hl : l.length = 4) :
    Calls Tryz.prog 274 #[.slice D 4 cap] w (TellsPost w.heap.size l w) := by
  match l, hl with
  | [a, b, c, d], _ =>
    cases a <;> cases b <;> cases c <;> cases d
    · exact tells_0 D cap w hr
    · exact tells_1 D cap w hr
    · exact tells_2 D cap w hr
    · exact tells_3 D cap w hr
    · exact tells_4 D cap w hr
    · exact tells_5 D cap w hr
    · exact tells_6 D cap w hr
    · exact tells_7 D cap w hr
    · exact tells_8 D cap w hr
    · exact tells_9 D cap w hr
    · exact tells_10 D cap w hr
    · exact tells_11 D cap w hr
    · exact tells_12 D cap w hr
    · exact tells_13 D cap w hr
    · exact tells_14 D cap w hr
    · exact tells_15 D cap w hr
end Go.Proofs.YtnfnjmllgklaaaaGreat
