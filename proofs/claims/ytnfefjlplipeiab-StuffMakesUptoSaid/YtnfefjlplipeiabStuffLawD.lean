/-
  The walk of the law StuffMakes. Condition: the argument reads as a list of bytes.
-/
import Derived.Test.YtnfefjlplipeiabStuffRef
namespace Go.Proofs.Ytnfefjlplipeiab
open Go.RowKit Go.BigFrame
set_option linter.unusedVariables false
set_option linter.unusedSimpArgs false

set_option maxRecDepth 100000 in
set_option maxHeartbeats 2000000 in
theorem makes_calls (A : Option Addr) (ca : Nat) (b : List UInt8) (w : World) (hla : b.length ≤ 274877906944) (hca : b.length ≤ ca) (ha : Reads w A b) :
    Calls Try.prog 4 #[.slice A b.length ca] w fun e w' => e = .returned (.bool true) ∧ Below w.heap.size w w' := by
  have HA := Lib.hid ha
  have hsl := stuff_length b
  clear ha
  go_enter Try.func4, Try.ntmps4
  go_wp2_with (at_builtin; refine wpList_append_bytes (w0 := w) w.heap.size rfl _ _ 22 5 rfl Try.underlying22 info_u8 _ [] b rfl (OwnB.lit 5 w w.heap.size [] #[] rfl (Nat.le_refl _) (by decide)) A ca rfl ?a1 ?a2 ?a3 ?a4 ?_)
  case a1 => exact HA.out.below ((Keeps.refl _).alloc _).below
  case a2 => show 0 + _ ≤ _; omega
  case a3 => simp
  case a4 => exact (Keeps.refl _).alloc _
  intro v0 w1 (hown0 : OwnB 5 w1 w.heap.size v0 b) hb0 _ _
  obtain ⟨A0, c0, rfl, hc0, hr0, _, _⟩ := hown0.form
  have HR0 := Lib.hid hr0
  have HK0 := Lib.hid (show Keeps w w1 from hb0)
  clear hown0 hr0 hb0
  go_wp2_with fail
  refine (stuff_calls A ca b w1 (by omega) hca (HA.out.below HK0.out.below)).mono ?_
  rintro e w2 ⟨v1, rfl, hown1, hk1⟩
  obtain ⟨st, hst⟩ : ∃ st, st = stuffOf b := ⟨_, rfl⟩
  rw [← hst] at hown1 hsl
  have HST := Lib.hid hst
  clear hst
  obtain ⟨A1, c1, rfl, hc1, hr1, _, _⟩ := hown1.form
  have HR1 := Lib.hid hr1
  have HK1 := Lib.hid hk1
  clear hown1 hr1 hk1
  go_wp2_with fail
  refine (at_value (b := (st.length : Int)) (by rw [HST.out]) (len_calls A ca b w2 (by omega) hca (HA.out.below (HK0.out.trans HK1.out).below))).mono ?_
  rintro e w3 ⟨rfl, hk3⟩
  have HR1b := Lib.hid (HR1.out.below hk3.below)
  have HK3 := Lib.hid (HK1.out.trans hk3)
  clear hk3 HK1 HR1
  go_wp2_with fail
  refine (refStuff_calls A0 c0 b w3 (by omega) (HR0.out.below HK3.out.below)).mono ?_
  rintro e w4 ⟨v4, rfl, hown4, hk4⟩
  rw [← HST.out] at hown4
  obtain ⟨A4, c4, rfl, hc4, hr4, _, _⟩ := hown4.form
  have HR4 := Lib.hid hr4
  have HR1c := Lib.hid (HR1b.out.below hk4.below)
  have HK4 := Lib.hid (HK3.out.trans hk4)
  clear hown4 hr4 hk4 HK3 HR1b
  go_wp2_with fail
  refine (live_calls w4).mono ?_
  rintro e w5 ⟨rfl, hk5⟩
  have HR4b := Lib.hid (HR4.out.below hk5.below)
  have HR1d := Lib.hid (HR1c.out.below hk5.below)
  have HK5 := Lib.hid (HK4.out.trans hk5)
  clear hk5 HK4 HR4 HR1c
  go_wp2_with fail
  refine (at_bool (decide_eq_true rfl) (same_calls A1 A4 c1 c4 st st w5 (by omega) (by omega) HR1d.out HR4b.out)).mono ?_
  rintro e w6 ⟨rfl, hq6⟩
  have HK6 := Lib.hid (HK5.out.quiet hq6)
  clear hq6 HK5 HR1d HR4b
  go_wp2_with fail
  refine (at_bool (decide_eq_true rfl) (same_calls A A0 ca c0 b b w6 (by omega) (by omega) (HA.out.below (HK0.out.trans HK6.out).below) (HR0.out.below HK6.out.below))).mono ?_
  rintro e w7 ⟨rfl, hq7⟩
  have HK7 := Lib.hid (HK0.out.trans (HK6.out.quiet hq7))
  clear hq7 HK6
  go_wp2
  go_ret
  exact ⟨rfl, HK7.out.below⟩
end Go.Proofs.Ytnfefjlplipeiab
