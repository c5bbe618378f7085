/-
  The walk of the law DevNumbers: it returns true, and what was there before is as it was. No condition.
-/
import Derived.Test.YtnfefjlplipeiaaKit
namespace Go.Proofs.Ytnfefjlplipeiaa
open Go.RowKit

/-- a new file of bytes: its cells -/
def freshDev (q : Int) : Obj := .cells #[.slice none 0 0, .int .i64 q, .int .i64 0, .bool false, .pointer none, .int .i64 0, .int .i64 0, .nilFunc] 46

set_option maxHeartbeats 400000 in
theorem new_yes (q : Int) (w : World) (h0 : 0 ≤ q) (h1 : q ≤ 1048576) :
    Calls Try.prog 9 #[.int .i64 q] w fun e w' => e = .returned (.tuple #[.pointer (some ⟨w.heap.size, 0, none⟩), .int .i64 0]) ∧ w.alloc (freshDev q) = w' := by
  unfold freshDev
  go_enter Try.func9, Try.ntmps9
  go_wp2
  go_ret2
  exact ⟨rfl, rfl⟩
set_option maxHeartbeats 400000 in
theorem new_no (q : Int) (w : World) (h : q < 0 ∨ 1048576 < q) :
    Calls Try.prog 9 #[.int .i64 q] w fun e w' => e = .returned (.tuple #[.pointer none, .int .i64 1]) ∧ w = w' := by
  by_cases h0 : q < 0
  · clear h
    go_enter Try.func9, Try.ntmps9
    go_wp2
    go_ret2
    exact ⟨rfl, rfl⟩
  · have h1 : 1048576 < q := by omega
    clear h
    go_enter Try.func9, Try.ntmps9
    go_wp2
    go_ret2
    exact ⟨rfl, rfl⟩
set_option maxHeartbeats 400000 in
theorem devNumbers_calls (w : World) :
    Calls Try.prog 3 #[] w fun e w' => e = .returned (.bool true) ∧ Below w.heap.size w w' := by
  go_enter Try.func3, Try.ntmps3
  go_wp2_with fail
  refine (new_no _ _ (by omega)).mono ?_
  rintro e w' ⟨rfl, rfl⟩
  go_wp2_with fail
  refine (new_yes _ _ (by omega) (by omega)).mono ?_
  rintro e w' ⟨rfl, rfl⟩
  unfold freshDev
  go_wp2
  go_ret
  exact ⟨rfl, (Below.refl _ _).alloc (Nat.le_refl _) _⟩
end Go.Proofs.Ytnfefjlplipeiaa
