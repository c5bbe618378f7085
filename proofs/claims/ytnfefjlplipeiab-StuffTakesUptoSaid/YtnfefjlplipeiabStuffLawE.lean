/-
  The walk of the law StuffTakes. Condition: the argument reads as a list of bytes.
-/
import Derived.Test.YtnfefjlplipeiabStuffRefU
namespace Go.Proofs.Ytnfefjlplipeiab
open Go.RowKit Go.BigFrame
set_option linter.unusedVariables false
set_option linter.unusedSimpArgs false

theorem unGo_length : ∀ (n : Nat) (s b : List UInt8) (full : Bool), s.length ≤ n → (unGo s b full).1.length ≤ b.length + s.length := by
  intro n
  induction n with
  | zero =>
    intro s b full hn
    obtain rfl := List.eq_nil_of_length_eq_zero (show s.length = 0 by omega)
    rw [unGo]
    simp
  | succ n ih =>
    intro s b full hn
    cases s with
    | nil => rw [unGo]; simp
    | cons c t =>
      rw [unGo_cons]
      split
      · simp
      · split
        · split
          · simp
          · simp only [List.length_append, List.length_take, List.length_cons]; omega
        · rename_i a1 a2
          refine Nat.le_trans (ih _ _ _ (by rw [List.length_drop]; simp only [List.length_cons] at hn; omega)) ?_
          have : (if c.toNat - 1 = 254 then ([] : List UInt8) else [0]).length ≤ 1 := by split <;> simp
          simp only [List.length_append, List.length_take, List.length_drop, List.length_cons]
          omega
theorem unstuff_len (s : List UInt8) : (unstuffOf s).1.length ≤ s.length := by
  unfold unstuffOf
  split
  · simp
  · split
    · simp
    · have := unGo_length s.length s [] false (Nat.le_refl _)
      simpa using this

set_option maxRecDepth 100000 in
set_option maxHeartbeats 2000000 in
theorem takes_calls (A : Option Addr) (ca : Nat) (b : List UInt8) (w : World) (hla : b.length ≤ 274877906944) (hca : b.length ≤ ca) (ha : Reads w A b) :
    Calls Try.prog 5 #[.slice A b.length ca] w fun e w' => e = .returned (.bool true) ∧ Below w.heap.size w w' := by
  have HA := Lib.hid ha
  have hul := unstuff_len b
  clear ha
  go_enter Try.func5, Try.ntmps5
  go_wp2_with (at_builtin; refine wpList_append_bytes (w0 := w) w.heap.size rfl _ _ 22 5 rfl Try.underlying22 info_u8 _ [] b rfl (OwnB.lit 5 w w.heap.size [] #[] rfl (Nat.le_refl _) (by decide)) A ca rfl ?a1 ?a2 ?a3 ?a4 ?_)
  case a1 => exact HA.out.below ((Keeps.refl _).alloc _).below
  case a2 => show 0 + _ ≤ _; omega
  case a3 => simp
  case a4 => exact (Keeps.refl _).alloc _
  intro v0 w1 (hown0 : OwnB 5 w1 w.heap.size v0 b) hb0 _ _
  obtain ⟨A0, c0, rfl, hc0, hr0, _, _⟩ := hown0.form
  have HR0 := Lib.hid hr0
  have HK0 := Lib.hid (show Keeps w w1 from hb0)
  clear hown0 hr0 hb0
  obtain ⟨⟨d, er⟩, hr⟩ : ∃ r, unstuffOf b = r := ⟨_, rfl⟩
  have HU := Lib.hid hr
  rw [hr] at hul
  simp only at hul
  clear hr
  go_wp2_with fail
  refine (unstuff_calls A ca b w1 (by omega) hca (HA.out.below HK0.out.below)).mono ?_
  rintro e w2 ⟨v1, rfl, hown1, hk1⟩
  rw [HU.out] at hown1
  rw [HU.out]
  obtain ⟨A1, c1, rfl, hc1, hr1, _, _⟩ := hown1.form
  have HR1 := Lib.hid hr1
  have HK1 := Lib.hid hk1
  clear hown1 hr1 hk1
  go_wp2_with fail
  refine (refUnstuff_calls A0 c0 b w2 (by omega) (HR0.out.below HK1.out.below)).mono ?_
  rintro e w3 ⟨v3, rfl, hown3, hk3⟩
  rw [HU.out] at hown3
  rw [HU.out]
  obtain ⟨A3, c3, rfl, hc3, hr3, _, _⟩ := hown3.form
  have HR3 := Lib.hid hr3
  have HR1b := Lib.hid (HR1.out.below hk3.below)
  have HK3 := Lib.hid (HK1.out.trans hk3)
  clear hown3 hr3 hk3 HK1 HR1
  go_wp2_with fail
  refine (live_calls w3).mono ?_
  rintro e w5 ⟨rfl, hk5⟩
  have HR3b := Lib.hid (HR3.out.below hk5.below)
  have HR1d := Lib.hid (HR1b.out.below hk5.below)
  have HK5 := Lib.hid (HK3.out.trans hk5)
  clear hk5 HK3 HR3 HR1b
  go_wp2_with fail
  refine (at_bool (decide_eq_true rfl) (same_calls A1 A3 c1 c3 d d w5 (by omega) (by omega) HR1d.out HR3b.out)).mono ?_
  rintro e w6 ⟨rfl, hq6⟩
  have HK6 := Lib.hid (HK5.out.quiet hq6)
  clear hq6 HK5 HR1d HR3b
  go_wp2_with fail
  refine (at_bool (decide_eq_true rfl) (same_calls A A0 ca c0 b b w6 (by omega) (by omega) (HA.out.below (HK0.out.trans HK6.out).below) (HR0.out.below HK6.out.below))).mono ?_
  rintro e w7 ⟨rfl, hq7⟩
  have HK7 := Lib.hid (HK0.out.trans (HK6.out.quiet hq7))
  clear hq7 HK6
  go_wp2
  go_ret
  exact ⟨rfl, HK7.out.below⟩
end Go.Proofs.Ytnfefjlplipeiab
