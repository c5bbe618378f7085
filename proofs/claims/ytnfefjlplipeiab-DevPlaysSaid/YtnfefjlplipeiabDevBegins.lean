/-
  The walks of the law's begins and byteOf. Condition: the slices read as lists of bytes.
-/
import Derived.Test.YtnfefjlplipeiabSame05
import Derived.Test.YtnfefjlplipeiabDevKeepMath
namespace Go.Proofs.Ytnfefjlplipeiab
open Go.RowKit Go.BigFrame
set_option linter.unusedVariables false
set_option linter.unusedSimpArgs false

set_option maxHeartbeats 400000 in
theorem byteOf_calls (m : Int) (w : World) : Calls Try.prog 33 #[.int .i64 m] w fun e w' => e = .returned (.int .u8 (((byteOf m).toNat : Nat) : Int)) ∧ w = w' := by
  rw [byteOf_int]
  go_enter Try.func33, Try.ntmps33
  go_wp2
  go_ret
  exact ⟨rfl, rfl⟩

theorem begins_iff {a b : List UInt8} (h : a.length ≤ b.length) : decide (a = b.take a.length) = decide (a <+: b) := by
  apply decide_eq_decide.2
  exact (List.prefix_iff_eq_take).symm

set_option maxHeartbeats 1000000 in
theorem begins_calls (A B : Option Addr) (c d : Nat) (a b : List UInt8) (w : World) (ha : a.length ≤ 9223372036854775807) (hb : b.length ≤ 9223372036854775807) (hd : b.length ≤ d) (hr : Reads w A a) (hr2 : Reads w B b) :
    Calls Try.prog 36 #[.slice A a.length c, .slice B b.length d] w fun e w' => e = .returned (.bool (decide (a <+: b))) ∧ Quiet w w' := by
  have HR := Lib.hid hr
  have HR2 := Lib.hid hr2
  clear hr hr2
  by_cases h : a.length ≤ b.length
  · have h1 : ((a.length : Nat) : Int) ≤ ((b.length : Nat) : Int) := by omega
    have h2 : a.length ≤ d := by omega
    have hl : (b.take a.length).length = a.length := by rw [List.length_take]; omega
    have HL := Lib.hid hl
    have HBI := Lib.hid (begins_iff h)
    clear hl h
    go_enter Try.func36, Try.ntmps36
    go_wp2_with fail
    have hs := same05_calls A B c d a (b.take a.length) w ha (by rw [HL.out]; exact ha) HR.out (HR2.out.take _)
    rw [HL.out, HBI.out] at hs
    refine hs.mono ?_
    rintro e w' ⟨rfl, hq⟩
    go_wp2
    go_ret
    exact ⟨rfl, hq⟩
  · have h1 : ¬ ((a.length : Nat) : Int) ≤ ((b.length : Nat) : Int) := by omega
    have h2 : decide (a <+: b) = false := by
      apply decide_eq_false
      intro hp
      exact h hp.length_le
    rw [h2]
    clear h h2
    go_enter Try.func36, Try.ntmps36
    go_wp2
    go_ret
    exact ⟨rfl, Quiet.refl w⟩
end Go.Proofs.Ytnfefjlplipeiab
