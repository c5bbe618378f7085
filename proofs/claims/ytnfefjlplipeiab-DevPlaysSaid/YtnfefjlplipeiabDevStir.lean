/-
  The walks of the law's stir and looks. Condition: the blocks stand for the machine.
-/
import Derived.Test.YtnfefjlplipeiabRefDevMore
import Derived.Test.YtnfefjlplipeiabDevLive
namespace Go.Proofs.Ytnfefjlplipeiab
open Go.RowKit Go.BigFrame
set_option linter.unusedVariables false
set_option linter.unusedSimpArgs false

/-- a file whose counts leave room -/
structure Dv.Roomy (d : Dv) : Prop where
  ok : d.Ok
  deeds : d.deeds ≤ 9000000000000000000
  counted : d.counted ≤ 9000000000000000000

theorem More.base {B : Nat} {w : World} {k : Nat} (h : More (fun j => B ≤ j) w k) (hB : B ≤ w.heap.size) : B ≤ k := h.elim (fun h => h) (fun h => Nat.le_trans hB h)

/-- in one step: what a method leaves, in blocks from B on or old ones of its own -/
theorem DV.on {S : Nat → Prop} {w0 w w' : World} {g : Nat} {d : Dv} (h : DV w' (More (More S w0) w) g d) (hs : w0.heap.size ≤ w.heap.size) : DV w' (More S w0) g d :=
  h.mono fun k _ h => h.elim (fun h => h) (fun h => .inr (Nat.le_trans hs h))
theorem Touch.on {S : Nat → Prop} {w0 w w' : World} (h : Touch S w0 w) (h2 : Touch (More S w0) w w') : Touch S w0 w' :=
  h.trans h2 fun k hk h => h.elim (fun h => h) (fun h => by omega)

set_option maxHeartbeats 2000000 in
theorem stir_calls (g : Nat) (S : Nat → Prop) (d : Dv) (w : World) (hd : DV w S g d) (hr : d.Roomy) :
    Calls Try.prog 39 #[.pointer (some ⟨g, 0, none⟩)] w fun e w' => e = .returned (.tuple #[]) ∧ Touch S w w' := by
  obtain ⟨d1, e1⟩ : ∃ d1, d1 = d.start.1 := ⟨_, rfl⟩
  obtain ⟨d2, e2⟩ : ∃ d2, d2 = (d1.fail 1 0).1 := ⟨_, rfl⟩
  obtain ⟨d3, e3⟩ : ∃ d3, d3 = (d2.write [77, 78]).1 := ⟨_, rfl⟩
  obtain ⟨d4, e4⟩ : ∃ d4, d4 = d3.start.1 := ⟨_, rfl⟩
  obtain ⟨d5, e5⟩ : ∃ d5, d5 = (d4.damage 0 79).1 := ⟨_, rfl⟩
  obtain ⟨d6, e6⟩ : ∃ d6, d6 = (d5.tail [80]).1 := ⟨_, rfl⟩
  obtain ⟨d7, e7⟩ : ∃ d7, d7 = (d6.read 0 3).1 := ⟨_, rfl⟩
  have o0 := hr.ok
  have o1 : d1.Ok := by rw [e1]; exact start_ok o0
  have o2 : d2.Ok := by rw [e2]; exact fail_ok o1 1 0 (by decide) (by decide)
  have o3 : d3.Ok := by rw [e3]; exact write_ok o2 _
  have o4 : d4.Ok := by rw [e4]; exact start_ok o3
  have o5 : d5.Ok := by rw [e5]; exact damage_ok o4 _ _
  have o6 : d6.Ok := by rw [e6]; exact tail_ok o5 _
  have o7 : d7.Ok := by rw [e7]; exact read_ok o6 _ _
  have n1 : d1.deeds = d.deeds ∧ d1.counted = d.counted := by rw [e1]; unfold Dv.start; split <;> exact ⟨rfl, rfl⟩
  have n2 : d2.deeds = d.deeds ∧ d2.counted = d.counted := by rw [e2, ← n1.1, ← n1.2]; unfold Dv.fail; split <;> (try split) <;> exact ⟨rfl, rfl⟩
  have n3 : d3.deeds ≤ d.deeds + 2 ∧ d3.counted = d.counted := by rw [e3, ← n2.1, ← n2.2]; have := write_counts o2 [77, 78]; exact ⟨this.2.1, this.2.2⟩
  have n4 : d4.deeds ≤ d.deeds + 2 ∧ d4.counted = d.counted := by rw [e4, ← n3.2]; unfold Dv.start; split <;> exact ⟨n3.1, rfl⟩
  have n5 : d5.deeds ≤ d.deeds + 2 ∧ d5.counted = d.counted := by rw [e5, ← n4.2]; unfold Dv.damage; split <;> exact ⟨n4.1, rfl⟩
  have n6 : d6.deeds ≤ d.deeds + 2 ∧ d6.counted = d.counted := by rw [e6, ← n5.2]; unfold Dv.tail; split <;> exact ⟨n5.1, rfl⟩
  have n7 : d7.deeds ≤ d.deeds + 2 := by rw [e7]; unfold Dv.read; split <;> exact n6.1
  have hdd := hr.deeds
  have hcc := hr.counted
  have E1 := Lib.hid e1
  have E2 := Lib.hid e2
  have E3 := Lib.hid e3
  have E4 := Lib.hid e4
  have E5 := Lib.hid e5
  have E6 := Lib.hid e6
  have E7 := Lib.hid e7
  have O2 := Lib.hid o2
  have O3 := Lib.hid o3
  have O4 := Lib.hid o4
  have O5 := Lib.hid o5
  have O6 := Lib.hid o6
  have O7 := Lib.hid o7
  have N2 := Lib.hid n2
  have N6 := Lib.hid n6
  have N7 := Lib.hid n7
  have HD := Lib.hid hd
  clear e1 e2 e3 e4 e5 e6 e7 o0 o1 o2 o3 o4 o5 o6 o7 n1 n2 n3 n4 n5 n6 n7 hd hr
  go_enter Try.func39, Try.ntmps39
  go_wp2_with fail
  refine (devStart_calls g S d w HD.out).mono ?_
  rintro e w1 ⟨rfl, hd1, ht1⟩
  rw [← E1.out] at hd1
  have HD1 := Lib.hid hd1
  have HT1 := Lib.hid ht1
  clear hd1 ht1
  go_wp2_with fail
  refine (devFail_calls g _ d1 1 0 w1 HD1.out).mono ?_
  rintro e w2 ⟨rfl, hd2, ht2⟩
  rw [← E2.out] at hd2
  have HD2 := Lib.hid (hd2.on HT1.out.size)
  have HT2 := Lib.hid (HT1.out.on ht2)
  clear hd2 ht2 HD1 HT1
  go_wp2_with fail
  have hb2 : Below w2.heap.size w2 (w2.alloc (.cells #[.int .u8 77, .int .u8 78] 5)) := (Below.refl _ w2).alloc (Nat.le_refl _) _
  refine (write_calls g _ d2 _ 2 [77, 78] _ (HD2.out.here.below hb2) O2.out (Reads.new w2 [77, 78] 5 (0, 0) #[.int .u8 77, .int .u8 78] rfl) (fun a e _ h => by cases e; have := h.2; simp only at this; omega) (by decide) (by show d2.deeds + 2 ≤ _; have := N2.out.1; omega)).mono ?_
  rintro e w3 ⟨rfl, hd3, ht3⟩
  rw [← E3.out] at hd3
  have HD3 := Lib.hid (show DV w3 (More S w) g d3 from hd3.mono fun k _ h => by
    rcases h with h | h
    · exact h.1
    · have h1 := HT2.out.size
      have h2 : w2.heap.size + 1 ≤ k := by simpa using h
      exact .inr (by omega))
  have HT3 := Lib.hid (show Touch S w w3 from HT2.out.on ((Touch.of_below hb2 fun k hk h => absurd hk (by omega)).trans ht3 fun k _ h => h.1))
  clear hd3 ht3 hb2 HD2 HT2
  go_wp2_with fail
  refine (devStart_calls g _ d3 w3 HD3.out).mono ?_
  rintro e w4 ⟨rfl, hd4, ht4⟩
  rw [← E4.out] at hd4
  have HD4 := Lib.hid (hd4.on HT3.out.size)
  have HT4 := Lib.hid (HT3.out.on ht4)
  clear hd4 ht4 HD3 HT3
  go_wp2_with fail
  refine (devDamage_calls g _ d4 0 79 w4 HD4.out O4.out).mono ?_
  rintro e w5 ⟨rfl, hd5, ht5⟩
  rw [← E5.out] at hd5
  have HD5 := Lib.hid (hd5.on HT4.out.size)
  have HT5 := Lib.hid (HT4.out.on ht5)
  clear hd5 ht5 HD4 HT4
  go_wp2_with fail
  have hb5 : Below w5.heap.size w5 (w5.alloc (.cells #[.int .u8 80] 5)) := (Below.refl _ w5).alloc (Nat.le_refl _) _
  refine (devTail_calls g _ d5 _ 1 [80] _ (HD5.out.here.below hb5) O5.out (by decide) (Reads.new w5 [80] 5 (0, 0) #[.int .u8 80] rfl)).mono ?_
  rintro e w6 ⟨rfl, hd6, ht6⟩
  rw [← E6.out] at hd6
  have HD6 := Lib.hid (show DV w6 (More S w) g d6 from hd6.mono fun k _ h => by
    rcases h with h | h
    · exact h.1
    · have h1 := HT5.out.size
      have h2 : w5.heap.size + 1 ≤ k := by simpa using h
      exact .inr (by omega))
  have HT6 := Lib.hid (show Touch S w w6 from HT5.out.on ((Touch.of_below hb5 fun k hk h => absurd hk (by omega)).trans ht6 fun k _ h => h.1))
  clear hd6 ht6 hb5 HD5 HT5
  go_wp2_with fail
  refine (devRead_calls g _ d6 0 3 w6 HD6.out O6.out (by have := N6.out.2; omega) (by decide)).mono ?_
  rintro e w7 ⟨v7, rfl, _, hd7, ht7⟩
  rw [← E7.out] at hd7
  have HD7 := Lib.hid hd7
  have HT7 := Lib.hid (HT6.out.on ht7)
  clear hd7 ht7 HD6 HT6
  go_wp2_with fail
  refine (devCut_calls g _ d7 0 w7 HD7.out O7.out (by have := N7.out; omega)).mono ?_
  rintro e w8 ⟨rfl, _, ht8⟩
  have HT8 := Lib.hid (HT7.out.on ht8)
  clear ht8 HD7 HT7
  go_wp2
  go_end0
  exact ⟨rfl, HT8.out⟩

set_option maxHeartbeats 2000000 in
theorem looks_calls (g r : Nat) (S1 S2 : Nat → Prop) (d : Dv) (w : World) (hd : DV w S1 g d) (hr : RV w S2 r d) (hok : d.Ok) :
    Calls Try.prog 41 #[.pointer (some ⟨g, 0, none⟩), .pointer (some ⟨r, 0, none⟩)] w fun e w' => e = .returned (.bool true) ∧ Keeps w w' := by
  have hsz := hok.size
  have HD := Lib.hid hd
  have HR := Lib.hid hr
  have HOK := Lib.hid hok
  clear hd hr hok
  go_enter Try.func41, Try.ntmps41
  go_wp2_with fail
  refine (refAll_calls r _ d w HR.out HOK.out).mono ?_
  rintro e w1 ⟨v1, rfl, ho1, hk1⟩
  obtain ⟨A1, c1, rfl, _⟩ := ho1.form
  have HD1 := Lib.hid (HD.out.below hk1.below)
  have HR1 := Lib.hid (HR.out.below hk1.below)
  have HK1 := Lib.hid hk1
  have HO1 := Lib.hid ho1.reads
  clear ho1 hk1 HD HR
  go_wp2_with fail
  refine (devUp_calls g _ d w1 HD1.out).mono ?_
  rintro e w2 ⟨rfl, rfl⟩
  go_wp2_with fail
  refine (refUp_calls r _ d w1 HR1.out).mono ?_
  rintro e w2 ⟨rfl, rfl⟩
  go_wp2_with fail
  refine (devLen_calls g _ d w1 HD1.out).mono ?_
  rintro e w2 ⟨rfl, rfl⟩
  go_wp2_with fail
  refine (refLen_calls r _ d w1 HR1.out).mono ?_
  rintro e w2 ⟨rfl, rfl⟩
  go_wp2_with fail
  refine (devQuota_calls g _ d w1 HD1.out).mono ?_
  rintro e w2 ⟨rfl, rfl⟩
  go_wp2_with fail
  refine (refQuota_calls r _ d w1 HR1.out).mono ?_
  rintro e w2 ⟨rfl, rfl⟩
  go_wp2_with fail
  refine (devSynced_calls g _ d w1 HD1.out).mono ?_
  rintro e w2 ⟨rfl, rfl⟩
  go_wp2_with fail
  refine (refSynced_calls r _ d w1 HR1.out).mono ?_
  rintro e w2 ⟨rfl, rfl⟩
  go_wp2_with fail
  refine (devCounted_calls g _ d w1 HD1.out).mono ?_
  rintro e w2 ⟨rfl, rfl⟩
  go_wp2_with fail
  refine (refCounted_calls r _ d w1 HR1.out).mono ?_
  rintro e w2 ⟨rfl, rfl⟩
  go_wp2_with fail
  refine (devWritten_calls g _ d w1 HD1.out).mono ?_
  rintro e w2 ⟨rfl, rfl⟩
  go_wp2_with fail
  refine (refWritten_calls r _ d w1 HR1.out).mono ?_
  rintro e w2 ⟨rfl, rfl⟩
  go_wp2_with fail
  refine (devAll_calls g _ d w1 HD1.out HOK.out).mono ?_
  rintro e w2 ⟨v2, rfl, ho2, hk2⟩
  obtain ⟨A2, c2, rfl, _⟩ := ho2.form
  have HO2 := Lib.hid ho2.reads
  have HO1b := Lib.hid (HO1.out.below hk2.below)
  have HK2 := Lib.hid (HK1.out.trans hk2)
  clear ho2 hk2 HD1 HR1 HO1 HK1
  go_wp2_with fail
  refine (at_bool (b := true) (decide_eq_true rfl) (same05_calls A2 A1 c2 c1 d.b d.b w2 (by omega) (by omega) HO2.out HO1b.out)).mono ?_
  rintro e w3 ⟨rfl, hq3⟩
  have HK3 := Lib.hid (HK2.out.quiet hq3)
  clear hq3 HK2
  go_wp2
  go_ret
  exact ⟨rfl, HK3.out⟩
end Go.Proofs.Ytnfefjlplipeiab
