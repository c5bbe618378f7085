/-
  The walks of the laws StuffNumbers and StuffUnlike. Condition: the arguments read as lists of bytes.
-/
import Derived.Test.YtnfefjlplipeiabStuffLive
namespace Go.Proofs.Ytnfefjlplipeiab
open Go.RowKit Go.BigFrame
set_option linter.unusedVariables false
set_option linter.unusedSimpArgs false

set_option maxHeartbeats 2000000 in
theorem unlike_calls (A B : Option Addr) (ca cb : Nat) (a b : List UInt8) (w : World) (hla : a.length ≤ 549755813888) (hlb : b.length ≤ 549755813888) (hca : a.length ≤ ca) (hcb : b.length ≤ cb) (ha : Reads w A a) (hb : Reads w B b) :
    Calls Try.prog 7 #[.slice A a.length ca, .slice B b.length cb] w fun e w' => e = .returned (.bool true) ∧ Below w.heap.size w w' := by
  have HA := Lib.hid ha
  have HB := Lib.hid hb
  have hsa := stuff_length a
  have hsb := stuff_length b
  clear ha hb
  go_enter Try.func7, Try.ntmps7
  go_wp2_with fail
  refine (stuff_calls A ca a w hla hca HA.out).mono ?_
  rintro e w1 ⟨v1, rfl, hown1, hk1⟩
  obtain ⟨A1, c1, rfl, _, hr1, _, _⟩ := hown1.form
  have HR1 := Lib.hid hr1
  have HK1 := Lib.hid hk1
  clear hown1 hr1 hk1
  go_wp2_with fail
  refine (stuff_calls B cb b w1 hlb hcb (HB.out.below HK1.out.below)).mono ?_
  rintro e w2 ⟨v2, rfl, hown2, hk2⟩
  obtain ⟨A2, c2, rfl, _, hr2, _, _⟩ := hown2.form
  have HR2 := Lib.hid hr2
  have HR1b := Lib.hid (HR1.out.below hk2.below)
  have HK2 := Lib.hid (HK1.out.trans hk2)
  clear hown2 hr2 hk2 HK1 HR1
  go_wp2_with fail
  refine (live_calls w2).mono ?_
  rintro e w3 ⟨rfl, hk3⟩
  have HR2b := Lib.hid (HR2.out.below hk3.below)
  have HR1c := Lib.hid (HR1b.out.below hk3.below)
  have HK3 := Lib.hid (HK2.out.trans hk3)
  have hinj : decide (stuffOf a = stuffOf b) = decide (a = b) := by
    by_cases h : a = b
    · rw [h]; simp
    · rw [decide_eq_false h, decide_eq_false fun e => h (stuff_inj a b e)]
  have HJ := Lib.hid hinj
  clear hk3 HK2 HR2 HR1b hinj
  obtain ⟨q, hqq⟩ : ∃ q, decide (a = b) = q := ⟨_, rfl⟩
  have HQ := Lib.hid hqq
  clear hqq
  go_wp2_with fail
  refine (at_bool (b := q) (by rw [HJ.out, HQ.out]) (same_calls A1 A2 c1 c2 (stuffOf a) (stuffOf b) w3 (by omega) (by omega) HR1c.out HR2b.out)).mono ?_
  rintro e w4 ⟨rfl, hq4⟩
  have HK4 := Lib.hid (HK3.out.quiet hq4)
  clear hq4 HK3 HR1c HR2b
  go_wp2_with fail
  refine (at_bool (b := q) HQ.out (same_calls A B ca cb a b w4 (by omega) (by omega) (HA.out.below HK4.out.below) (HB.out.below HK4.out.below))).mono ?_
  rintro e w5 ⟨rfl, hq5⟩
  have HK5 := Lib.hid (HK4.out.quiet hq5)
  have hqq : (q == q) = true := by simp
  clear hq5 HK4
  go_wp2
  go_ret
  exact ⟨rfl, HK5.out.below⟩

theorem num1 : unstuffOf [3, 17, 0] = ([], 40) := by unfold unstuffOf; rw [if_pos (by decide)]
theorem one_no (n : Nat) : (0 : UInt8) ∉ List.replicate n (1 : UInt8) := by simp
theorem grp_ones (n : Nat) (h : n ≤ 254) : grp (List.replicate n 1) = List.replicate n 1 := by
  unfold grp
  rw [List.take_of_length_le (by rw [List.length_replicate]; exact h)]
  exact nz_all _ (one_no n)
theorem grp_more (n : Nat) (h : n = 255) : grp (List.replicate n 1) = List.replicate (n - 1) 1 := by
  unfold grp
  rw [List.take_replicate, show min 254 n = n - 1 by omega]
  exact nz_all _ (one_no _)
theorem num2 (n : Nat) (hn : n = 254) : unstuffOf ([255] ++ List.replicate n 1 ++ [1]) = ([], 5) := by
  have h255 : (255 : UInt8).toNat - 1 = n := by rw [hn]; rfl
  have h1 : (1 : UInt8).toNat - 1 = 0 := rfl
  unfold unstuffOf
  rw [if_neg (by simp), if_neg (by simp), show [255] ++ List.replicate n 1 ++ [1] = (255 : UInt8) :: (List.replicate n 1 ++ [1]) from rfl, unGo_cons, h255, if_neg (by simp), if_neg (by simp)]
  have hd : (List.replicate n (1 : UInt8) ++ [1]).drop n = [1] := by rw [List.drop_append]; simp
  rw [hd, unGo_cons, h1, if_neg (by simp), if_pos (by simp), if_pos (by rw [hn]; rfl)]
theorem num3 (n : Nat) (hn : n = 254) : (stuffOf (List.replicate n 1)).length = 255 := by
  rw [(stuff_last _ (by rw [grp_ones n (by omega)]; exact Nat.le_refl _)).2, List.length_cons, List.length_replicate]
  omega
theorem num4 (n : Nat) (hn : n = 255) : (stuffOf (List.replicate n 1)).length = 257 := by
  have hg := grp_more n hn
  have hl : (grp (List.replicate n 1)).length = n - 1 := by rw [hg, List.length_replicate]
  have h := (stuff_full (List.replicate n 1) (by rw [hl, List.length_replicate]; omega) (by rw [hl]; omega)).2.2
  rw [h, List.length_cons, List.length_append, hl, show (List.replicate n (1 : UInt8)).drop 254 = [1] by rw [List.drop_replicate, show n - 254 = 1 by omega]; rfl, (stuff_last [1] (by decide)).2]
  simp only [List.length_cons, List.length_nil]
  omega

set_option maxHeartbeats 2000000 in
theorem numbers_calls (w : World) : Calls Try.prog 3 #[] w fun e w' => e = .returned (.bool true) ∧ Below w.heap.size w w' := by
  go_enter Try.func3, Try.ntmps3
  go_wp2_with fail
  refine (unstuff_calls _ 3 [3, 17, 0] _ (by decide) (by decide) (Reads.new w [3, 17, 0] 5 (0, 0) #[.int .u8 3, .int .u8 17, .int .u8 0] rfl)).mono ?_
  rintro e w1 ⟨v1, rfl, hown1, hk1⟩
  rw [num1]
  have HK1 := Lib.hid (show Keeps w w1 from ((Keeps.refl w).alloc _).trans hk1)
  clear hown1 hk1
  go_wp2_with fail
  refine (filled_calls 254 1 _ (by decide)).mono ?_
  rintro e w2 ⟨rfl, hown2, hb2⟩
  obtain ⟨xs, hxs⟩ : ∃ xs, xs = List.replicate 254 (1 : UInt8) := ⟨_, rfl⟩
  rw [← hxs] at hown2
  have hxl : 254 = xs.length := by rw [hxs, List.length_replicate]
  have HX := Lib.hid hxs
  clear hxs
  obtain ⟨X, cX, e0, _, hr2, _, _⟩ := hown2.form
  have HR2 := Lib.hid (show Reads w2 (some ⟨w1.heap.size + 1, 0, none⟩) xs by injection e0 with e1 _ _; rw [← e1] at hr2; simpa using hr2)
  have HL := Lib.hid (OwnB.below (OwnB.lit 5 w1 w1.heap.size [255] #[.int .u8 255] rfl (Nat.le_refl _) (by decide)) hb2)
  have HK2 := Lib.hid (show Keeps w1 w2 from ((Keeps.refl w1).alloc _).trans hb2)
  have HXL := Lib.hid hxl
  clear hown2 hr2 hb2 e0 hxl
  go_wp2_with (at_builtin; refine wpList_append_bytes (w0 := w1) w1.heap.size rfl _ _ 22 5 rfl Try.underlying22 info_u8 _ [255] xs rfl HL.out _ 254 (by rw [← HXL.out]; rfl) ?a1 ?a2 ?a3 ?a4 ?_)
  case a1 => exact HR2.out
  case a2 => rw [← HXL.out]; decide
  case a3 => exact HK2.out.size
  case a4 => exact HK2.out
  intro v3 w3 hown3 hb3 _ _
  have HO3 := Lib.hid hown3
  have HK3 := Lib.hid (show Keeps w1 w3 from hb3)
  clear hown3 hb3 HL HR2 HK2
  go_wp2_with (at_builtin; refine wpList_append_bytes (w0 := w1) w1.heap.size rfl _ _ 22 5 rfl Try.underlying22 info_u8 _ ([255] ++ xs) [1] rfl ?b0 _ 1 rfl ?b1 ?b2 ?b3 ?b4 ?_)
  case b0 => exact HO3.out.below ((Keeps.refl _).alloc _).below
  case b1 => exact Reads.new_at _ [1] 5 (0, 0) #[.int .u8 1] rfl _ (by simp)
  case b2 => rw [List.length_append, ← HXL.out]; decide
  case b3 => have := HK3.out.size; simp; omega
  case b4 => exact HK3.out.alloc _
  intro v4 w4 (hown4 : OwnB 5 w4 w1.heap.size v4 ([255] ++ xs ++ [1])) hb4 _ _
  obtain ⟨all, hall⟩ : ∃ all, all = [255] ++ xs ++ [1] := ⟨_, rfl⟩
  rw [← hall] at hown4
  have hal : all.length ≤ 300 := by rw [hall, List.length_append, List.length_append, ← HXL.out]; decide
  have HU := Lib.hid (show unstuffOf all = ([], 5) by rw [hall, HX.out]; exact num2 254 rfl)
  clear hall
  obtain ⟨A4, c4, rfl, hc4, hr4, _, _⟩ := hown4.form
  have HR4 := Lib.hid hr4
  have HK4 := Lib.hid (HK1.out.trans (show Keeps w1 w4 from hb4))
  clear hown4 hr4 hb4 HO3 HK3 HK1
  go_wp2_with fail
  refine (unstuff_calls A4 c4 all w4 (by omega) hc4 HR4.out).mono ?_
  rintro e w5 ⟨v5, rfl, hown5, hk5⟩
  rw [HU.out]
  have HK5 := Lib.hid (HK4.out.trans hk5)
  clear hown5 hk5 HK4 HR4 HU
  go_wp2_with fail
  refine (filled_calls 254 1 _ (by decide)).mono ?_
  rintro e w6 ⟨rfl, hown6, hb6⟩
  rw [← HX.out] at hown6
  obtain ⟨X6, c6, e0, hc6, hr6, _, _⟩ := hown6.form
  injection e0 with e1 e2 e3
  subst e1
  have HR6 := Lib.hid hr6
  have HK6 := Lib.hid (HK5.out.trans hb6)
  clear hown6 hr6 hb6 e2 e3 HK5
  go_wp2_with fail
  rw [show Value.slice (some ⟨w5.heap.size, 0, none⟩) 254 254 = Value.slice (some ⟨w5.heap.size, 0, none⟩) xs.length 254 by rw [← HXL.out]]
  refine (stuff_calls _ 254 xs w6 (by rw [← HXL.out]; decide) (by rw [← HXL.out]; decide) HR6.out).mono ?_
  rintro e w7 ⟨v7, rfl, hown7, hk7⟩
  have h7 : (stuffOf xs).length = 255 := by rw [HX.out]; exact num3 254 rfl
  obtain ⟨A7, c7, rfl, _, _, _, _⟩ := hown7.form
  rw [h7]
  have HK7 := Lib.hid (HK6.out.trans hk7)
  clear hown7 hk7 h7 HK6 HR6
  go_wp2_with fail
  refine (live_calls w7).mono ?_
  rintro e w8 ⟨rfl, hk8⟩
  have HK8 := Lib.hid (HK7.out.trans hk8)
  clear hk8 HK7
  go_wp2_with fail
  refine (filled_calls 255 1 _ (by decide)).mono ?_
  rintro e w9 ⟨rfl, hown9, hb9⟩
  obtain ⟨ys, hys⟩ : ∃ ys, ys = List.replicate 255 (1 : UInt8) := ⟨_, rfl⟩
  rw [← hys] at hown9
  have hyl : 255 = ys.length := by rw [hys, List.length_replicate]
  have h9 : (stuffOf ys).length = 257 := by rw [hys]; exact num4 255 rfl
  obtain ⟨X9, c9, e0, hc9, hr9, _, _⟩ := hown9.form
  injection e0 with e1 e2 e3
  subst e1
  have HR9 := Lib.hid hr9
  have HK9 := Lib.hid (HK8.out.trans hb9)
  have HYL := Lib.hid hyl
  have H9 := Lib.hid h9
  clear hown9 hr9 hb9 e2 e3 HK8 hys hyl h9
  go_wp2_with fail
  rw [show Value.slice (some ⟨w8.heap.size, 0, none⟩) 255 255 = Value.slice (some ⟨w8.heap.size, 0, none⟩) ys.length 255 by rw [← HYL.out]]
  refine (at_value (b := 257) (by rw [H9.out]; rfl) (len_calls _ 255 ys w9 (by rw [← HYL.out]; decide) (by rw [← HYL.out]; decide) HR9.out)).mono ?_
  rintro e w10 ⟨rfl, hk10⟩
  have HK10 := Lib.hid (HK9.out.trans hk10)
  clear hk10 HK9
  go_wp2
  go_ret
  exact ⟨rfl, HK10.out.below⟩
end Go.Proofs.Ytnfefjlplipeiab
