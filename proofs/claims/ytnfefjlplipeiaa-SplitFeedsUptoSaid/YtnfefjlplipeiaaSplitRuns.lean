/-
  The walk of the law SplitRuns: it returns true, and what was there before is as it was. Condition: the argument reads as a list of bytes of at most 2^38.
-/
import Derived.Test.YtnfefjlplipeiaaSplitClones
import Derived.Test.YtnfefjlplipeiaaSplitSpoils
namespace Go.Proofs.Ytnfefjlplipeiaa
open Go.RowKit Go.BigFrame
set_option linter.unusedVariables false
set_option linter.unusedSimpArgs false

theorem Lent.reads {w : World} {g : Nat} {l : List UInt8} (h : Lent w g l) : Reads w (some ⟨g, 0, none⟩) l := by
  obtain ⟨A', c', e1, _, hg', _⟩ := OwnB.form h
  injection e1 with e1 e2 e3
  subst e1
  have := hg'.take l.length
  rwa [List.take_left] at this
theorem Lent.lt {w : World} {g : Nat} {l : List UInt8} (h : Lent w g l) : g < w.heap.size := own_lt h g rfl

set_option maxHeartbeats 1000000 in
theorem splitRuns_calls (A : Option Addr) (ca : Nat) (b : List UInt8) (w : World) (hl : b.length ≤ 274877906944) (hca : b.length ≤ ca) (ha : Reads w A b) :
    Calls Try.prog 4 #[.slice A b.length ca] w fun e w' => e = .returned (.bool true) ∧ Below w.heap.size w w' := by
  have HA := Lib.hid ha
  clear ha
  go_enter Try.func4, Try.ntmps4
  go_wp2_with fail
  refine (live_calls _).mono ?_
  rintro e w1 ⟨rfl, hb1⟩
  have H1 := Lib.hid (Keeps.of hb1)
  clear hb1
  go_wp2_with fail
  refine (lent_calls A ca b w1 (by omega) (HA.out.below H1.out.below)).mono ?_
  rintro e w2 ⟨rfl, hlent, hb2⟩
  have H2 := Lib.hid (H1.out.trans hb2)
  have HL2 := Lib.hid hlent
  have hg1 : w.heap.size ≤ w1.heap.size := H1.out.size
  clear hb2 hlent H1
  generalize w1.heap.size = g at *
  go_wp2
  go_loopw [9] (fun i wr => ∃ k : Nat, k ≤ 2 ∧ i = .int .i64 (k : Int) ∧ Keeps w wr ∧ Lent wr g b) (fun i _ => 2 - (intOf i).toNat)
  case atStart => exact ⟨0, by omega, rfl, H2.out, HL2.out⟩
  case round =>
    obtain ⟨k, hk, rfl, hkeep, hlent⟩ := hrel
    have HK := Lib.hid hkeep
    have HL := Lib.hid hlent
    clear hkeep hlent H2 HL2
    by_cases hlt : k < 2
    · go_wp2_with fail
      refine (runs_calls (some ⟨g, 0, none⟩) (b.length + 2) b wr (by omega) HL.out.reads).mono ?_
      rintro e w3 ⟨o1, rfl, hrs, hb3⟩
      have hcnt : (runsOf b).length ≤ b.length := feed_count fresh b
      have HRS := Lib.hid hrs.lt
      have hra := hrs.at
      obtain ⟨X, cx, rfl, hcx, hxa⟩ := hra
      have HXA := Lib.hid hxa
      have HK3 := Lib.hid (HK.out.trans hb3)
      have HB3 := Lib.hid hb3
      clear hrs hxa hb3
      go_wp2_with fail
      refine (refRuns_calls A ca b w3 (by omega) hca (HA.out.below HK3.out.below)).mono ?_
      rintro e w4 ⟨o2, rfl, hrs2, hb4⟩
      obtain ⟨Y, cy, rfl, hcy, hya⟩ := hrs2.at
      have HYA := Lib.hid hya
      have HK4 := Lib.hid (HK3.out.trans hb4)
      have HB4 := Lib.hid hb4
      clear hrs2 hya hb4 HK3
      go_wp2_with fail
      refine (at_bool (decide_eq_true rfl) (same_calls X Y cx cy (runsOf b) (runsOf b) w4 (by omega) (by omega) (HXA.out.below HB4.out) HYA.out)).mono ?_
      rintro e w5 ⟨rfl, hq5⟩
      have hb5 := hq5.below w4.heap.size
      have HK5 := Lib.hid (HK4.out.trans hb5)
      have hown5 := (HRS.out.below HB4.out).below hb5
      have HO5 := Lib.hid hown5
      have hs4 := HB4.out.size
      have hs5 := hb5.size
      have HL5 := Lib.hid (show Lent w5 g b from ((OwnB.below HL.out HB3.out).below HB4.out).below hb5)
      clear hq5 hb5 hown5 HK4 HB4 HRS HYA HXA
      go_wp2_with fail
      refine (spoils_calls _ _ _ w5 HO5.out).mono ?_
      rintro e w6 ⟨rfl, ht6⟩
      have hgl := HL.out.lt
      have hsw : w.heap.size ≤ wr.heap.size := HK.out.size
      have HK6 := Lib.hid (show Keeps w w6 from Below.trans HK5.out (ht6.to_below w.heap.size (fun j h _ => Nat.le_trans hsw h.1) HK5.out.size))
      have hfar : ∀ j, some g = some j → ¬ (wr.heap.size ≤ j ∧ j < w3.heap.size) := fun j hj hF => by
        injection hj with hj
        omega
      have HL6 := Lib.hid (show Lent w6 g b from ht6.ownB HL5.out hfar)
      clear ht6 HK5 HL5 HO5
      go_wp2
      exact ⟨⟨k + 1, by omega, by go_num, HK6.out, HL6.out⟩, by simp [intOf]; omega⟩
    · go_wp2_with fail
      refine (still_calls A ca g b wr (by omega) (HA.out.below HK.out.below) HL.out).mono ?_
      rintro e w3 ⟨rfl, rfl⟩
      go_wp2
      go_ret
      exact ⟨rfl, HK.out.below⟩
end Go.Proofs.Ytnfefjlplipeiaa
