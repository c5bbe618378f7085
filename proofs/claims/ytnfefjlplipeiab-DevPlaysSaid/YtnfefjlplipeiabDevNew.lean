/-
  The walks of New. Condition: the quota, as each says.
-/
import Derived.Test.YtnfefjlplipeiabKit
namespace Go.Proofs.Ytnfefjlplipeiab
open Go.RowKit

/-- a new file of bytes: its cells -/
def freshDev (q : Int) : Obj := .cells #[.slice none 0 0, .int .i64 q, .int .i64 0, .bool false, .pointer none, .int .i64 0, .int .i64 0, .nilFunc] 62

set_option maxHeartbeats 400000 in
theorem new_yes (q : Int) (w : World) (h0 : 0 ≤ q) (h1 : q ≤ 1048576) :
    Calls Try.prog 21 #[.int .i64 q] w fun e w' => e = .returned (.tuple #[.pointer (some ⟨w.heap.size, 0, none⟩), .int .i64 0]) ∧ w.alloc (freshDev q) = w' := by
  unfold freshDev
  go_enter Try.func21, Try.ntmps21
  go_wp2
  go_ret2
  exact ⟨rfl, rfl⟩
set_option maxHeartbeats 400000 in
theorem new_no (q : Int) (w : World) (h : q < 0 ∨ 1048576 < q) :
    Calls Try.prog 21 #[.int .i64 q] w fun e w' => e = .returned (.tuple #[.pointer none, .int .i64 1]) ∧ w = w' := by
  by_cases h0 : q < 0
  · clear h
    go_enter Try.func21, Try.ntmps21
    go_wp2
    go_ret2
    exact ⟨rfl, rfl⟩
  · have h1 : 1048576 < q := by omega
    clear h
    go_enter Try.func21, Try.ntmps21
    go_wp2
    go_ret2
    exact ⟨rfl, rfl⟩
end Go.Proofs.Ytnfefjlplipeiab
