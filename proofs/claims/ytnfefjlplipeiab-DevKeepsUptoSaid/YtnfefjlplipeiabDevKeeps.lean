/-
  The walk of the law DevKeeps: it returns true, and what was there before is as it was. Condition: the script reads; no more than 2^20 steps of no more than 2^20 bytes each.
-/
import Derived.Test.YtnfefjlplipeiabDevKeepsW
namespace Go.Proofs.Ytnfefjlplipeiab
open Go.RowKit Go.BigFrame
set_option linter.unusedVariables false

set_option maxRecDepth 100000 in
set_option maxHeartbeats 1000000 in
theorem keeps_bad (A : Option Addr) (cap n : Nat) (q : Int) (w : World) (hq : q < 0 ∨ 1048576 < q) :
    Calls Try.prog 10 #[.int .i64 q, .slice A n cap] w fun e w' => e = .returned (.bool true) ∧ Below w.heap.size w w' := by
  by_cases h0 : q < 0
  · have hq' := Lib.hid hq
    clear hq
    go_enter Try.func10, Try.ntmps10
    go_wp2_with fail
    refine (devLive_calls _).mono ?_
    rintro e w1 ⟨rfl, hk1⟩
    have HK1 := Lib.hid hk1
    clear hk1
    go_wp2_with fail
    refine (new_no q w1 hq'.out).mono ?_
    rintro e w2 ⟨rfl, rfl⟩
    go_wp2
    go_ret
    exact ⟨rfl, HK1.out.below⟩
  · have h1 : (1048576 : Int) < q := by omega
    have hq' := Lib.hid hq
    clear hq
    go_enter Try.func10, Try.ntmps10
    go_wp2_with fail
    refine (devLive_calls _).mono ?_
    rintro e w1 ⟨rfl, hk1⟩
    have HK1 := Lib.hid hk1
    clear hk1
    go_wp2_with fail
    refine (new_no q w1 hq'.out).mono ?_
    rintro e w2 ⟨rfl, rfl⟩
    go_wp2
    go_ret
    exact ⟨rfl, HK1.out.below⟩
theorem keeps_calls (A : Option Addr) (cap : Nat) (q : Int) (os : List Op) (w : World) (hA : ScriptAt w A os) (hn : os.length ≤ 1048576) (hob : ∀ o ∈ os, o.b.length ≤ 1048576) :
    Calls Try.prog 10 #[.int .i64 q, .slice A os.length cap] w fun e w' => e = .returned (.bool true) ∧ Below w.heap.size w w' := by
  by_cases h : q < 0 ∨ 1048576 < q
  · exact keeps_bad A cap os.length q w h
  · obtain ⟨q', rfl⟩ := Int.eq_ofNat_of_zero_le (show 0 ≤ q by omega)
    exact keeps_loop A cap q' os w (by omega) hA hn hob
end Go.Proofs.Ytnfefjlplipeiab
