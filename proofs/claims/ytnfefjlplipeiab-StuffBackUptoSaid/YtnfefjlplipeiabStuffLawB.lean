/-
  The walk of the law StuffBack. Condition: the arguments read as lists of bytes.
-/
import Derived.Test.YtnfefjlplipeiabStuffLive
namespace Go.Proofs.Ytnfefjlplipeiab
open Go.RowKit Go.BigFrame
set_option linter.unusedVariables false
set_option linter.unusedSimpArgs false

set_option maxRecDepth 100000 in
set_option maxHeartbeats 2000000 in
theorem back_calls (A B : Option Addr) (ca cb : Nat) (b s : List UInt8) (w : World) (hla : b.length ≤ 274877906944) (hlb : s.length ≤ 274877906944) (hca : b.length ≤ ca) (hcb : s.length ≤ cb) (ha : Reads w A b) (hb : Reads w B s) :
    Calls Try.prog 6 #[.slice A b.length ca, .slice B s.length cb] w fun e w' => e = .returned (.bool true) ∧ Below w.heap.size w w' := by
  have HA := Lib.hid ha
  have HB := Lib.hid hb
  have hsl := stuff_length b
  clear ha hb
  go_enter Try.func6, Try.ntmps6
  go_wp2_with fail
  refine (stuff_calls A ca b w (by omega) hca HA.out).mono ?_
  rintro e w1 ⟨v1, rfl, hown1, hk1⟩
  obtain ⟨st, hst⟩ : ∃ st, st = stuffOf b := ⟨_, rfl⟩
  rw [← hst] at hown1 hsl
  have HST := Lib.hid hst
  have HNO := Lib.hid (show (0 : UInt8) ∉ st by rw [hst]; exact stuff_no b)
  clear hst
  obtain ⟨A1, c1, rfl, hc1, hr1, _, _⟩ := hown1.form
  have HR1 := Lib.hid hr1
  have HK1 := Lib.hid hk1
  clear hown1 hr1 hk1
  go_wp2
  go_loopw [6] (fun i wr => ∃ k : Nat, k ≤ st.length ∧ i = .int .i64 (k : Int) ∧ wr = w1) (fun i _ => st.length - (intOf i).toNat)
  case atStart => exact ⟨0, Nat.zero_le _, rfl, rfl⟩
  case round =>
    obtain ⟨k, hk, rfl, rfl⟩ := hrel
    by_cases hlt : k < st.length
    · obtain ⟨ad, rfl, hc⟩ := HR1.out.out k hlt
      have hz : ((((st[k]'hlt).toNat : Nat) : Int) == 0) = false := by
        rw [beq_eq_false_iff_ne]
        intro e
        apply HNO.out
        rw [show (0 : UInt8) = st[k]'hlt from (UInt8.toNat_inj.1 (by simpa using e)).symm]
        exact List.getElem_mem hlt
      go_wp2
      exact ⟨⟨k + 1, by omega, by go_num, trivial⟩, by simp [intOf]; omega⟩
    · have hle : (st.length : Int) ≤ (b.length : Int) + 1 + (b.length : Int) / 254 := by omega
      have hle2 : decide ((st.length : Int) ≤ (b.length : Int) + 1 + (b.length : Int) / 254) = true := decide_eq_true hle
      go_wp2_with fail
      refine (unstuff_calls A1 c1 st wr (by omega) hc1 HR1.out).mono ?_
      rintro e w2 ⟨v2, rfl, hown2, hk2⟩
      rw [HST.out, unstuff_stuff] at hown2
      rw [show (unstuffOf st).2 = 0 by rw [HST.out, unstuff_stuff]]
      obtain ⟨A2, c2, rfl, _, hr2, _, _⟩ := hown2.form
      have HR2 := Lib.hid hr2
      have HK2 := Lib.hid (HK1.out.trans hk2)
      clear hown2 hr2 hk2 HK1 HR1
      go_wp2_with fail
      refine (at_value (b := (st.length : Int)) (by rw [HST.out]) (len_calls A ca b w2 (by omega) hca (HA.out.below HK2.out.below))).mono ?_
      rintro e w3 ⟨rfl, hk3⟩
      have HR3 := Lib.hid (HR2.out.below hk3.below)
      have HK3 := Lib.hid (HK2.out.trans hk3)
      clear hk3 HK2 HR2
      go_wp2_with fail
      refine (unstuff_calls B cb s w3 (by omega) hcb (HB.out.below HK3.out.below)).mono ?_
      rintro e w4 ⟨v4, rfl, hown4, hk4⟩
      clear hle hle2
      by_cases hf : (unstuffOf s).2 = 0
      · obtain ⟨d, hd⟩ : ∃ d, unstuffOf s = (d, 0) := ⟨(unstuffOf s).1, by rw [← hf]⟩
        have hsd := stuff_unstuff s d hd
        have hdl := (stuff_length d).1
        rw [hsd] at hdl
        rw [hd] at hown4
        rw [hd]
        have HSD := Lib.hid hsd
        obtain ⟨A4, c4, rfl, hc4, hr4, _, _⟩ := hown4.form
        have HR4 := Lib.hid hr4
        have HR5 := Lib.hid (HR3.out.below hk4.below)
        have HK4 := Lib.hid (HK3.out.trans hk4)
        clear hown4 hr4 hk4 HK3 HR3 hd hsd hf
        go_wp2_with fail
        refine (stuff_calls A4 c4 d w4 (by omega) hc4 HR4.out).mono ?_
        rintro e w5 ⟨v5, rfl, hown5, hk5⟩
        rw [HSD.out] at hown5
        obtain ⟨A5, c5, rfl, hc5, hr5, _, _⟩ := hown5.form
        have HR6 := Lib.hid hr5
        have HR5b := Lib.hid (HR5.out.below hk5.below)
        have HK5 := Lib.hid (HK4.out.trans hk5)
        clear hown5 hr5 hk5 HK4 HR4 HR5
        go_wp2_with fail
        refine (live_calls w5).mono ?_
        rintro e w6 ⟨rfl, hk6⟩
        have HR6b := Lib.hid (HR6.out.below hk6.below)
        have HR5c := Lib.hid (HR5b.out.below hk6.below)
        have HK6 := Lib.hid (HK5.out.trans hk6)
        clear hk6 HK5 HR6 HR5b
        go_wp2_with fail
        refine (at_bool (decide_eq_true rfl) (same_calls A2 A c2 ca b b w6 (by omega) (by omega) HR5c.out (HA.out.below HK6.out.below))).mono ?_
        rintro e w7 ⟨rfl, hq7⟩
        have HR6c := Lib.hid (HR6b.out.quiet hq7)
        have HK7 := Lib.hid (HK6.out.quiet hq7)
        clear hq7 HK6 HR6b HR5c
        go_wp2_with fail
        refine (at_bool (decide_eq_true rfl) (same_calls A5 B c5 cb s s w7 (by omega) (by omega) HR6c.out (HB.out.below HK7.out.below))).mono ?_
        rintro e w8 ⟨rfl, hq8⟩
        have HK8 := Lib.hid (HK7.out.quiet hq8)
        clear hq8 HK7 HR6c
        go_wp2
        go_ret
        exact ⟨rfl, HK8.out.below⟩
      · have hd := unstuff_err s hf
        rw [hd] at hown4
        obtain ⟨er, her⟩ : ∃ er, (unstuffOf s).2 = er := ⟨_, rfl⟩
        rw [her] at hf
        rw [her]
        have her2 : (er != 0) = true := by rw [bne_iff_ne]; exact hf
        obtain ⟨A4, c4, rfl, hc4, hr4, _, _⟩ := hown4.form
        have HR5 := Lib.hid (HR3.out.below hk4.below)
        have HK4 := Lib.hid (HK3.out.trans hk4)
        clear hown4 hr4 hk4 HK3 HR3 hd her
        go_wp2_with fail
        refine (live_calls w4).mono ?_
        rintro e w6 ⟨rfl, hk6⟩
        have HR5c := Lib.hid (HR5.out.below hk6.below)
        have HK6 := Lib.hid (HK4.out.trans hk6)
        clear hk6 HK4 HR5
        go_wp2_with fail
        refine (at_bool (decide_eq_true rfl) (same_calls A2 A c2 ca b b w6 (by omega) (by omega) HR5c.out (HA.out.below HK6.out.below))).mono ?_
        rintro e w7 ⟨rfl, hq7⟩
        have HK7 := Lib.hid (HK6.out.quiet hq7)
        clear hq7 HK6 HR5c
        go_wp2
        go_ret
        exact ⟨rfl, HK7.out.below⟩
end Go.Proofs.Ytnfefjlplipeiab
