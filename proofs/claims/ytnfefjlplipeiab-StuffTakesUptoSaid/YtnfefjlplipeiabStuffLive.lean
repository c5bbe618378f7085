/-
  The walk of the law's live: it returns true, and what was there before is as it was. No condition.
-/
import Derived.Test.YtnfefjlplipeiabStuffBackW
namespace Go.Proofs.Ytnfefjlplipeiab
open Go.RowKit Go.BigFrame
set_option linter.unusedVariables false
set_option linter.unusedSimpArgs false

theorem live1 : stuffOf [17, 34, 0, 51] = [3, 17, 34, 2, 51] := by
  have h := (stuff_less [17, 34, 0, 51] (by decide) (by decide)).2
  have h2 := (stuff_last [51] (by decide)).2
  rw [h, show List.drop ((grp [17, 34, 0, 51]).length + 1) [17, 34, 0, 51] = ([51] : List UInt8) by decide, h2]
  decide
theorem live2 : unstuffOf [2, 17, 1] = ([17, 0], 0) := by
  unfold unstuffOf
  rw [if_neg (by decide), if_neg (by decide), unGo_cons, if_neg (by decide), if_neg (by decide)]
  rw [show List.drop ((2 : UInt8).toNat - 1) [17, 1] = ([1] : List UInt8) by decide, unGo_cons, if_neg (by decide), if_pos (by decide), if_neg (by decide)]
  decide
theorem live3 : unstuffOf [3, 17] = ([], 30) := by
  unfold unstuffOf
  rw [if_neg (by decide), if_neg (by decide), unGo_cons, if_pos (by decide)]
theorem live4 : (stuffOf []).length = 1 := by
  rw [(stuff_last [] (by decide)).2]
  rfl

set_option maxHeartbeats 2000000 in
theorem live_calls (w : World) : Calls Try.prog 15 #[] w fun e w' => e = .returned (.bool true) ∧ Keeps w w' := by
  go_enter Try.func15, Try.ntmps15
  go_wp2_with fail
  refine (stuff_calls _ 4 [17, 34, 0, 51] _ (by decide) (by decide) (Reads.new w [17, 34, 0, 51] 5 (0, 0) #[.int .u8 17, .int .u8 34, .int .u8 0, .int .u8 51] rfl)).mono ?_
  rintro e w1 ⟨v1, rfl, hown1, hk1⟩
  rw [live1] at hown1
  obtain ⟨A1, c1, rfl, _, hr1, _, _⟩ := hown1.form
  have HR1 := Lib.hid hr1
  have HK1 := Lib.hid (show Keeps w w1 from ((Keeps.refl w).alloc _).trans hk1)
  clear hown1 hr1 hk1
  go_wp2_with fail
  refine (unstuff_calls _ 3 [2, 17, 1] _ (by decide) (by decide) (Reads.new w1 [2, 17, 1] 5 (0, 0) #[.int .u8 2, .int .u8 17, .int .u8 1] rfl)).mono ?_
  rintro e w2 ⟨v2, rfl, hown2, hk2⟩
  rw [live2] at hown2
  rw [live2]
  obtain ⟨A2, c2, rfl, _, hr2, _, _⟩ := hown2.form
  have HR2 := Lib.hid hr2
  have hk12 : Keeps w1 w2 := ((Keeps.refl w1).alloc _).trans hk2
  have HR1b := Lib.hid (HR1.out.below hk12.below)
  have HK2 := Lib.hid (HK1.out.trans hk12)
  clear hown2 hr2 hk2 hk12 HK1 HR1
  go_wp2_with fail
  refine (unstuff_calls _ 2 [3, 17] _ (by decide) (by decide) (Reads.new w2 [3, 17] 5 (0, 0) #[.int .u8 3, .int .u8 17] rfl)).mono ?_
  rintro e w3 ⟨v3, rfl, hown3, hk3⟩
  rw [live3]
  have hk23 : Keeps w2 w3 := ((Keeps.refl w2).alloc _).trans hk3
  have HR1c := Lib.hid (HR1b.out.below hk23.below)
  have HR2b := Lib.hid (HR2.out.below hk23.below)
  have HK3 := Lib.hid (HK2.out.trans hk23)
  clear hown3 hk3 hk23 HK2 HR1b HR2
  go_wp2_with fail
  refine (at_bool (b := true) (by decide) (same_calls A1 _ c1 5 [3, 17, 34, 2, 51] [3, 17, 34, 2, 51] _ (by decide) (by decide) (HR1c.out.below ((Keeps.refl w3).alloc _).below) (Reads.new w3 [3, 17, 34, 2, 51] 5 (0, 0) #[.int .u8 3, .int .u8 17, .int .u8 34, .int .u8 2, .int .u8 51] rfl))).mono ?_
  rintro e w4 ⟨rfl, hq4⟩
  have hk34 : Keeps w3 w4 := ((Keeps.refl w3).alloc _).quiet hq4
  have HR2c := Lib.hid (HR2b.out.below hk34.below)
  have HK4 := Lib.hid (HK3.out.trans hk34)
  clear hq4 hk34 HK3 HR2b HR1c
  go_wp2_with fail
  refine (at_bool (b := true) (by decide) (same_calls A2 _ c2 2 [17, 0] [17, 0] _ (by decide) (by decide) (HR2c.out.below ((Keeps.refl w4).alloc _).below) (Reads.new w4 [17, 0] 5 (0, 0) #[.int .u8 17, .int .u8 0] rfl))).mono ?_
  rintro e w5 ⟨rfl, hq5⟩
  have HK5 := Lib.hid (HK4.out.trans (((Keeps.refl w4).alloc _).quiet hq5))
  clear hq5 HK4 HR2c
  go_wp2_with fail
  refine (at_value (b := 1) (by rw [live4]; rfl) (len_calls none 0 [] w5 (by decide) (by decide) (Reads.nil _ _))).mono ?_
  rintro e w6 ⟨rfl, hk6⟩
  have HK6 := Lib.hid (HK5.out.trans hk6)
  clear hk6 HK5
  go_wp2
  go_ret
  exact ⟨rfl, HK6.out⟩
end Go.Proofs.Ytnfefjlplipeiab
