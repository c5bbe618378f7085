/-
  The walk of the law DevFails: it returns true, and what was there before is as it was. Condition: the argument's slices read as lists of bytes.
-/
import Derived.Test.YtnfefjlplipeiabDevLive
import Derived.Test.YtnfefjlplipeiabDevFailMath
namespace Go.Proofs.Ytnfefjlplipeiab
open Go.RowKit Go.BigFrame
set_option linter.unusedVariables false
set_option linter.unusedSimpArgs false

set_option maxHeartbeats 1000000 in
theorem fails_long (A B : Option Addr) (ca cb n m : Nat) (a k : Int) (w : World) (h : 1000 < n ∨ 1000 < m) :
    Calls Try.prog 9 #[.agg #[.slice A n ca, .slice B m cb, .int .i64 a, .int .i64 k]] w fun e w' => e = .returned (.bool true) ∧ Below w.heap.size w w' := by
  by_cases h1 : 1000 < n
  · have h2 : (1000 : Int) < (n : Int) := by omega
    clear h
    go_enter Try.func9, Try.ntmps9
    go_wp2_with fail
    refine (devLive_calls _).mono ?_
    rintro e w1 ⟨rfl, hk1⟩
    have HK := Lib.hid (((Keeps.refl w).alloc _).trans hk1)
    clear hk1
    go_wp2
    go_ret
    exact ⟨rfl, HK.out.below⟩
  · have h2 : ¬ (1000 : Int) < (n : Int) := by omega
    have h3 : (1000 : Int) < (m : Int) := by omega
    clear h
    go_enter Try.func9, Try.ntmps9
    go_wp2_with fail
    refine (devLive_calls _).mono ?_
    rintro e w1 ⟨rfl, hk1⟩
    have HK := Lib.hid (((Keeps.refl w).alloc _).trans hk1)
    clear hk1
    go_wp2
    go_ret
    exact ⟨rfl, HK.out.below⟩

set_option maxHeartbeats 1000000 in
theorem fails_not1 (A B : Option Addr) (ca cb : Nat) (first thn : List UInt8) (a k : Int) (w : World) (h1 : first.length ≤ 1000) (h2 : thn.length ≤ 1000) (hcb : thn.length ≤ cb) (hA : Reads w A first) (hB : Reads w B thn) (h : a < 0) :
    Calls Try.prog 9 #[.agg #[.slice A first.length ca, .slice B thn.length cb, .int .i64 a, .int .i64 k]] w fun e w' => e = .returned (.bool true) ∧ Below w.heap.size w w' := by
  obtain ⟨d6, hd6⟩ : ∃ d6 : Dv, d6 = { failBase first with b := first ++ thn, deeds := first.length + thn.length } := ⟨_, rfl⟩
  have E1 := Lib.hid (fail_not first thn a k h1 h2 (by omega)).1
  have e2 := (fail_not first thn a k h1 h2 (by omega)).2
  rw [← hd6] at e2
  have E2 := Lib.hid e2
  have O3 := Lib.hid (failBase_ok first h1)
  have O4 := Lib.hid (show Dv.Ok d6 by have := write_ok O3.out thn; rw [e2] at this; exact this)
  have D6 := Lib.hid hd6
  clear hd6 e2
  have b1 : ¬ (1000 : Int) < (first.length : Int) := by omega
  have b2 : ¬ (1000 : Int) < (thn.length : Int) := by omega
  have HA := Lib.hid hA
  have HB := Lib.hid hB
  have lA : ∀ ad, A = some ad → first ≠ [] → ad.block < w.heap.size := fun ad e hn => by
    obtain ⟨ad', e1, hc⟩ := hA.out 0 (List.length_pos_iff.2 hn)
    rw [e] at e1
    cases e1
    have := World.block_lt_of_cell? w _ hc
    rwa [addr_add_block] at this
  have lB : ∀ ad, B = some ad → thn ≠ [] → ad.block < w.heap.size := fun ad e hn => by
    obtain ⟨ad', e1, hc⟩ := hB.out 0 (List.length_pos_iff.2 hn)
    rw [e] at e1
    cases e1
    have := World.block_lt_of_cell? w _ hc
    rwa [addr_add_block] at this
  have LA := Lib.hid lA
  have LB := Lib.hid lB
  have HF := Lib.hid (failBase_eq first h1)
  have HFO := Lib.hid (failBase_ok first h1)
  clear hA hB lA lB
  go_enter Try.func9, Try.ntmps9
  go_wp2_with fail
  refine (devLive_calls _).mono ?_
  rintro e w1 ⟨rfl, hk1⟩
  have HK1 := Lib.hid (((Keeps.refl w).alloc _).trans hk1)
  clear hk1
  go_wp2_with fail
  refine (devNew_calls 2000 w1 (by decide)).mono ?_
  rintro e w2 ⟨rfl, hd2, hk2⟩
  have HD2 := Lib.hid hd2
  have HK2 := Lib.hid (HK1.out.trans hk2)
  have hs1 : w.heap.size ≤ w1.heap.size := HK1.out.size
  clear hd2 hk2 HK1
  go_wp2_with fail
  refine (write_calls w1.heap.size _ (Dv.fresh 2000) A ca first w2 HD2.out (fresh_ok 2000 (by decide)) (HA.out.below HK2.out.below) (fun ad e hn h => by have := LA.out ad e hn; omega) (by omega) (by show 0 + _ ≤ _; omega)).mono ?_
  rintro e w3 ⟨rfl, hd3, ht3⟩
  rw [HF.out.1] at hd3 ⊢
  have hs2 : w1.heap.size ≤ w2.heap.size := Nat.le_of_lt HD2.out.lt
  have HD3 := Lib.hid (hd3.mono (T := fun j => w1.heap.size ≤ j) fun j _ h => h.elim (fun h => h) (fun h => Nat.le_trans hs2 h))
  have HK3 := Lib.hid (Touch.keeps HK2.out ht3 hs1)
  clear hd3 ht3 HD2 HK2
  go_wp2_with fail
  refine (devSync_calls w1.heap.size _ _ w3 HD3.out).mono ?_
  rintro e w4 ⟨rfl, hd4, ht4⟩
  rw [HF.out.2] at hd4 ⊢
  have hs3 : w1.heap.size ≤ w3.heap.size := Nat.le_of_lt HD3.out.lt
  have HD4 := Lib.hid (hd4.mono (T := fun j => w1.heap.size ≤ j) fun j _ h => h.elim (fun h => h) (fun h => Nat.le_trans hs3 h))
  have HK4 := Lib.hid (Touch.keeps HK3.out ht4 hs1)
  clear hd4 ht4 HD3 HK3
  go_wp2_with fail
  refine (devFail_calls w1.heap.size _ (failBase first) (a : Int) (k : Int) w4 HD4.out).mono ?_
  rintro e w5 ⟨rfl, hd5, ht5⟩
  rw [E1.out] at hd5 ⊢
  have hs4 : w1.heap.size ≤ w4.heap.size := Nat.le_of_lt HD4.out.lt
  have HD5 := Lib.hid (hd5.mono (T := fun j => w1.heap.size ≤ j) fun j _ h => h.elim (fun h => h) (fun h => Nat.le_trans hs4 h))
  have HK5 := Lib.hid (Touch.keeps HK4.out ht5 hs1)
  clear hd5 ht5 HD4 HK4
  go_wp2_with fail
  refine (write_calls w1.heap.size _ (failBase first) B cb thn w5 HD5.out O3.out (HB.out.below HK5.out.below) (fun ad e hn h => by have := LB.out ad e hn; omega) (by omega) (by show first.length + _ ≤ _; omega)).mono ?_
  rintro e w6 ⟨rfl, hd6, ht6⟩
  rw [E2.out] at hd6 ⊢
  have hs5 : w1.heap.size ≤ w5.heap.size := Nat.le_of_lt HD5.out.lt
  have HD6 := Lib.hid (hd6.mono (T := fun j => w1.heap.size ≤ j) fun j _ h => h.elim (fun h => h) (fun h => Nat.le_trans hs5 h))
  have HK6 := Lib.hid (Touch.keeps HK5.out ht6 hs1)
  clear hd6 ht6 HD5 HK5
  go_wp2_with fail
  refine (at_bool (b := true) (by rw [D6.out] <;> rfl) (devUp_calls w1.heap.size _ d6 w6 HD6.out)).mono ?_
  rintro e w7 ⟨rfl, rfl⟩
  go_wp2_with fail
  refine (at_value (b := ((first.length + thn.length : Nat) : Int)) (by rw [D6.out] <;> rfl) (devWritten_calls w1.heap.size _ d6 w6 HD6.out)).mono ?_
  rintro e w7 ⟨rfl, rfl⟩
  have HA6 := Lib.hid (HA.out.below HK6.out.below)
  have HB6 := Lib.hid ((HB.out.take thn.length).below HK6.out.below)
  have hpl : (thn.take thn.length).length = thn.length := by rw [List.length_take] <;> omega
  have hwc : thn.length ≤ cb := by omega
  have HPL := Lib.hid hpl
  obtain ⟨all, hall⟩ : ∃ all, all = first ++ thn.take (thn.length) := ⟨_, rfl⟩
  have hal : all.length ≤ 2000 := by rw [hall, List.length_append, List.length_take]; omega
  have HALL := Lib.hid hall
  clear hpl hall
  go_wp2_with fail
  go_region_law (first
    | (refine step_append_loose w6.heap.size (by rfl) _ _ 22 5 (by rfl) Try.underlying22 info_u8 v7 first (thn.take thn.length) (by rfl) hown7 B cb (by rw [HPL.out]; rfl) (HB6.out.below hk7.below) (by rw [HPL.out]; omega) hk7.size ?_; intro v8 w8 hown8 hgr8 hat8; rw [← HALL.out] at hown8; obtain ⟨A8, c8, rfl, hf8⟩ := hown8.form)
    | (refine step_append_loose w6.heap.size (by rfl) _ _ 22 5 (by rfl) Try.underlying22 info_u8 (.slice (some ⟨w6.heap.size, 0, none⟩) 0 0) [] first (by rfl) (OwnL.empty _ _ _ _) A ca (by rfl) (HA6.out.below ((Below.refl w6.heap.size w6).drew.alloc (Nat.le_refl _) _)) (by simp; omega) (by simp) ?_; intro v7 w7 hown7 hgr7 hat7; have hk7 : Keeps w6 w7 := Touch.nothing (F := fun _ => False) ((((Touch.refl _ w6).drew).alloc _).grown hgr7 fun i h _ => by rw [blk_empty] at h; cases h) fun _ _ h => h))
  all_goals
    have hk8 : Keeps w6 w8 := hk7.trans' hgr8 (fun k hk => (hown7.lt k hk).1)
    obtain ⟨_, hr8, _⟩ := hf8
    have HR8 := Lib.hid hr8
    have HD8 := Lib.hid (HD6.out.below hk8.below)
    have HK8 := Lib.hid (HK6.out.trans hk8)
    clear hown7 hgr7 hat7 hk7 hown8 hgr8 hat8 hk8 hr8 HD6 HK6 HA6 HB6
    go_wp2_with fail
    refine (devAll_calls w1.heap.size _ d6 w8 HD8.out O4.out).mono ?_
    rintro e w9 ⟨v9, rfl, ho9, hk9⟩
    obtain ⟨A9, c9, rfl, _, hr9, _⟩ := ho9.form
    have HR9 := Lib.hid hr9
    have HR8b := Lib.hid (HR8.out.below hk9.below)
    have HD9 := Lib.hid (HD8.out.below hk9.below)
    have HK9 := Lib.hid (HK8.out.trans hk9)
    clear ho9 hr9 hk9 HR8 HD8 HK8
    go_wp2_with fail
    refine (at_bool (b := true) (by rw [decide_eq_true_eq, D6.out, HALL.out] <;> rw [List.take_length]) (same05_calls A9 A8 c9 c8 d6.b all w9 (by have := O4.out.size; omega) (by omega) HR9.out HR8b.out)).mono ?_
    rintro e w10 ⟨rfl, hq10⟩
    have HD10 := Lib.hid (HD9.out.below (hq10.below _))
    have HK10 := Lib.hid (HK9.out.quiet hq10)
    clear hq10 HR9 HR8b HD9 HK9
    go_wp2_with fail
    refine (at_value (b := (first.length : Int)) (by rw [D6.out] <;> rfl) (devSynced_calls w1.heap.size _ d6 w10 HD10.out)).mono ?_
    rintro e w11 ⟨rfl, rfl⟩
    go_wp2
    go_ret
    exact ⟨rfl, HK10.out.below⟩

set_option maxHeartbeats 1000000 in
theorem fails_not2 (A B : Option Addr) (ca cb : Nat) (first thn : List UInt8) (a k : Int) (w : World) (h1 : first.length ≤ 1000) (h2 : thn.length ≤ 1000) (hcb : thn.length ≤ cb) (hA : Reads w A first) (hB : Reads w B thn) (h0 : 0 ≤ a) (h : k < 0) :
    Calls Try.prog 9 #[.agg #[.slice A first.length ca, .slice B thn.length cb, .int .i64 a, .int .i64 k]] w fun e w' => e = .returned (.bool true) ∧ Below w.heap.size w w' := by
  obtain ⟨d6, hd6⟩ : ∃ d6 : Dv, d6 = { failBase first with b := first ++ thn, deeds := first.length + thn.length } := ⟨_, rfl⟩
  have E1 := Lib.hid (fail_not first thn a k h1 h2 (by omega)).1
  have e2 := (fail_not first thn a k h1 h2 (by omega)).2
  rw [← hd6] at e2
  have E2 := Lib.hid e2
  have O3 := Lib.hid (failBase_ok first h1)
  have O4 := Lib.hid (show Dv.Ok d6 by have := write_ok O3.out thn; rw [e2] at this; exact this)
  have D6 := Lib.hid hd6
  clear hd6 e2
  have b1 : ¬ (1000 : Int) < (first.length : Int) := by omega
  have b2 : ¬ (1000 : Int) < (thn.length : Int) := by omega
  have HA := Lib.hid hA
  have HB := Lib.hid hB
  have lA : ∀ ad, A = some ad → first ≠ [] → ad.block < w.heap.size := fun ad e hn => by
    obtain ⟨ad', e1, hc⟩ := hA.out 0 (List.length_pos_iff.2 hn)
    rw [e] at e1
    cases e1
    have := World.block_lt_of_cell? w _ hc
    rwa [addr_add_block] at this
  have lB : ∀ ad, B = some ad → thn ≠ [] → ad.block < w.heap.size := fun ad e hn => by
    obtain ⟨ad', e1, hc⟩ := hB.out 0 (List.length_pos_iff.2 hn)
    rw [e] at e1
    cases e1
    have := World.block_lt_of_cell? w _ hc
    rwa [addr_add_block] at this
  have LA := Lib.hid lA
  have LB := Lib.hid lB
  have HF := Lib.hid (failBase_eq first h1)
  have HFO := Lib.hid (failBase_ok first h1)
  clear hA hB lA lB
  go_enter Try.func9, Try.ntmps9
  go_wp2_with fail
  refine (devLive_calls _).mono ?_
  rintro e w1 ⟨rfl, hk1⟩
  have HK1 := Lib.hid (((Keeps.refl w).alloc _).trans hk1)
  clear hk1
  go_wp2_with fail
  refine (devNew_calls 2000 w1 (by decide)).mono ?_
  rintro e w2 ⟨rfl, hd2, hk2⟩
  have HD2 := Lib.hid hd2
  have HK2 := Lib.hid (HK1.out.trans hk2)
  have hs1 : w.heap.size ≤ w1.heap.size := HK1.out.size
  clear hd2 hk2 HK1
  go_wp2_with fail
  refine (write_calls w1.heap.size _ (Dv.fresh 2000) A ca first w2 HD2.out (fresh_ok 2000 (by decide)) (HA.out.below HK2.out.below) (fun ad e hn h => by have := LA.out ad e hn; omega) (by omega) (by show 0 + _ ≤ _; omega)).mono ?_
  rintro e w3 ⟨rfl, hd3, ht3⟩
  rw [HF.out.1] at hd3 ⊢
  have hs2 : w1.heap.size ≤ w2.heap.size := Nat.le_of_lt HD2.out.lt
  have HD3 := Lib.hid (hd3.mono (T := fun j => w1.heap.size ≤ j) fun j _ h => h.elim (fun h => h) (fun h => Nat.le_trans hs2 h))
  have HK3 := Lib.hid (Touch.keeps HK2.out ht3 hs1)
  clear hd3 ht3 HD2 HK2
  go_wp2_with fail
  refine (devSync_calls w1.heap.size _ _ w3 HD3.out).mono ?_
  rintro e w4 ⟨rfl, hd4, ht4⟩
  rw [HF.out.2] at hd4 ⊢
  have hs3 : w1.heap.size ≤ w3.heap.size := Nat.le_of_lt HD3.out.lt
  have HD4 := Lib.hid (hd4.mono (T := fun j => w1.heap.size ≤ j) fun j _ h => h.elim (fun h => h) (fun h => Nat.le_trans hs3 h))
  have HK4 := Lib.hid (Touch.keeps HK3.out ht4 hs1)
  clear hd4 ht4 HD3 HK3
  go_wp2_with fail
  refine (devFail_calls w1.heap.size _ (failBase first) (a : Int) (k : Int) w4 HD4.out).mono ?_
  rintro e w5 ⟨rfl, hd5, ht5⟩
  rw [E1.out] at hd5 ⊢
  have hs4 : w1.heap.size ≤ w4.heap.size := Nat.le_of_lt HD4.out.lt
  have HD5 := Lib.hid (hd5.mono (T := fun j => w1.heap.size ≤ j) fun j _ h => h.elim (fun h => h) (fun h => Nat.le_trans hs4 h))
  have HK5 := Lib.hid (Touch.keeps HK4.out ht5 hs1)
  clear hd5 ht5 HD4 HK4
  go_wp2_with fail
  refine (write_calls w1.heap.size _ (failBase first) B cb thn w5 HD5.out O3.out (HB.out.below HK5.out.below) (fun ad e hn h => by have := LB.out ad e hn; omega) (by omega) (by show first.length + _ ≤ _; omega)).mono ?_
  rintro e w6 ⟨rfl, hd6, ht6⟩
  rw [E2.out] at hd6 ⊢
  have hs5 : w1.heap.size ≤ w5.heap.size := Nat.le_of_lt HD5.out.lt
  have HD6 := Lib.hid (hd6.mono (T := fun j => w1.heap.size ≤ j) fun j _ h => h.elim (fun h => h) (fun h => Nat.le_trans hs5 h))
  have HK6 := Lib.hid (Touch.keeps HK5.out ht6 hs1)
  clear hd6 ht6 HD5 HK5
  go_wp2_with fail
  refine (at_bool (b := true) (by rw [D6.out] <;> rfl) (devUp_calls w1.heap.size _ d6 w6 HD6.out)).mono ?_
  rintro e w7 ⟨rfl, rfl⟩
  go_wp2_with fail
  refine (at_value (b := ((first.length + thn.length : Nat) : Int)) (by rw [D6.out] <;> rfl) (devWritten_calls w1.heap.size _ d6 w6 HD6.out)).mono ?_
  rintro e w7 ⟨rfl, rfl⟩
  have HA6 := Lib.hid (HA.out.below HK6.out.below)
  have HB6 := Lib.hid ((HB.out.take thn.length).below HK6.out.below)
  have hpl : (thn.take thn.length).length = thn.length := by rw [List.length_take] <;> omega
  have hwc : thn.length ≤ cb := by omega
  have HPL := Lib.hid hpl
  obtain ⟨all, hall⟩ : ∃ all, all = first ++ thn.take (thn.length) := ⟨_, rfl⟩
  have hal : all.length ≤ 2000 := by rw [hall, List.length_append, List.length_take]; omega
  have HALL := Lib.hid hall
  clear hpl hall
  go_wp2_with fail
  go_region_law (first
    | (refine step_append_loose w6.heap.size (by rfl) _ _ 22 5 (by rfl) Try.underlying22 info_u8 v7 first (thn.take thn.length) (by rfl) hown7 B cb (by rw [HPL.out]; rfl) (HB6.out.below hk7.below) (by rw [HPL.out]; omega) hk7.size ?_; intro v8 w8 hown8 hgr8 hat8; rw [← HALL.out] at hown8; obtain ⟨A8, c8, rfl, hf8⟩ := hown8.form)
    | (refine step_append_loose w6.heap.size (by rfl) _ _ 22 5 (by rfl) Try.underlying22 info_u8 (.slice (some ⟨w6.heap.size, 0, none⟩) 0 0) [] first (by rfl) (OwnL.empty _ _ _ _) A ca (by rfl) (HA6.out.below ((Below.refl w6.heap.size w6).drew.alloc (Nat.le_refl _) _)) (by simp; omega) (by simp) ?_; intro v7 w7 hown7 hgr7 hat7; have hk7 : Keeps w6 w7 := Touch.nothing (F := fun _ => False) ((((Touch.refl _ w6).drew).alloc _).grown hgr7 fun i h _ => by rw [blk_empty] at h; cases h) fun _ _ h => h))
  all_goals
    have hk8 : Keeps w6 w8 := hk7.trans' hgr8 (fun k hk => (hown7.lt k hk).1)
    obtain ⟨_, hr8, _⟩ := hf8
    have HR8 := Lib.hid hr8
    have HD8 := Lib.hid (HD6.out.below hk8.below)
    have HK8 := Lib.hid (HK6.out.trans hk8)
    clear hown7 hgr7 hat7 hk7 hown8 hgr8 hat8 hk8 hr8 HD6 HK6 HA6 HB6
    go_wp2_with fail
    refine (devAll_calls w1.heap.size _ d6 w8 HD8.out O4.out).mono ?_
    rintro e w9 ⟨v9, rfl, ho9, hk9⟩
    obtain ⟨A9, c9, rfl, _, hr9, _⟩ := ho9.form
    have HR9 := Lib.hid hr9
    have HR8b := Lib.hid (HR8.out.below hk9.below)
    have HD9 := Lib.hid (HD8.out.below hk9.below)
    have HK9 := Lib.hid (HK8.out.trans hk9)
    clear ho9 hr9 hk9 HR8 HD8 HK8
    go_wp2_with fail
    refine (at_bool (b := true) (by rw [decide_eq_true_eq, D6.out, HALL.out] <;> rw [List.take_length]) (same05_calls A9 A8 c9 c8 d6.b all w9 (by have := O4.out.size; omega) (by omega) HR9.out HR8b.out)).mono ?_
    rintro e w10 ⟨rfl, hq10⟩
    have HD10 := Lib.hid (HD9.out.below (hq10.below _))
    have HK10 := Lib.hid (HK9.out.quiet hq10)
    clear hq10 HR9 HR8b HD9 HK9
    go_wp2_with fail
    refine (at_value (b := (first.length : Int)) (by rw [D6.out] <;> rfl) (devSynced_calls w1.heap.size _ d6 w10 HD10.out)).mono ?_
    rintro e w11 ⟨rfl, rfl⟩
    go_wp2
    go_ret
    exact ⟨rfl, HK10.out.below⟩

set_option maxHeartbeats 1000000 in
theorem fails_far (A B : Option Addr) (ca cb : Nat) (first thn : List UInt8) (a k : Nat) (w : World) (h1 : first.length ≤ 1000) (h2 : thn.length ≤ 1000) (hcb : thn.length ≤ cb) (hA : Reads w A first) (hB : Reads w B thn) (ha : a ≤ 9223372036854775807) (hk : k ≤ 9223372036854775807) (h : thn.length ≤ a) :
    Calls Try.prog 9 #[.agg #[.slice A first.length ca, .slice B thn.length cb, .int .i64 a, .int .i64 k]] w fun e w' => e = .returned (.bool true) ∧ Below w.heap.size w w' := by
  obtain ⟨d6, hd6⟩ : ∃ d6 : Dv, d6 = { failBase first with b := first ++ thn, bound := some (a - thn.length, k), deeds := first.length + thn.length } := ⟨_, rfl⟩
  have E1 := Lib.hid (fail_far first thn a k h1 h2 h).1
  have e2 := (fail_far first thn a k h1 h2 h).2
  rw [← hd6] at e2
  have E2 := Lib.hid e2
  have O3 := Lib.hid (show Dv.Ok { failBase first with bound := some (a, k) } by have := fail_ok (failBase_ok first h1) a k (by omega) (by omega); rw [E1.out] at this; exact this)
  have O4 := Lib.hid (show Dv.Ok d6 by have := write_ok O3.out thn; rw [e2] at this; exact this)
  have D6 := Lib.hid hd6
  clear hd6 e2
  have x1 : ¬ (a : Int) < 0 := by omega
  have x2 : ¬ (k : Int) < 0 := by omega
  have x3 : ¬ (a : Int) < (thn.length : Int) := by omega
  have b1 : ¬ (1000 : Int) < (first.length : Int) := by omega
  have b2 : ¬ (1000 : Int) < (thn.length : Int) := by omega
  have HA := Lib.hid hA
  have HB := Lib.hid hB
  have lA : ∀ ad, A = some ad → first ≠ [] → ad.block < w.heap.size := fun ad e hn => by
    obtain ⟨ad', e1, hc⟩ := hA.out 0 (List.length_pos_iff.2 hn)
    rw [e] at e1
    cases e1
    have := World.block_lt_of_cell? w _ hc
    rwa [addr_add_block] at this
  have lB : ∀ ad, B = some ad → thn ≠ [] → ad.block < w.heap.size := fun ad e hn => by
    obtain ⟨ad', e1, hc⟩ := hB.out 0 (List.length_pos_iff.2 hn)
    rw [e] at e1
    cases e1
    have := World.block_lt_of_cell? w _ hc
    rwa [addr_add_block] at this
  have LA := Lib.hid lA
  have LB := Lib.hid lB
  have HF := Lib.hid (failBase_eq first h1)
  have HFO := Lib.hid (failBase_ok first h1)
  clear hA hB lA lB
  go_enter Try.func9, Try.ntmps9
  go_wp2_with fail
  refine (devLive_calls _).mono ?_
  rintro e w1 ⟨rfl, hk1⟩
  have HK1 := Lib.hid (((Keeps.refl w).alloc _).trans hk1)
  clear hk1
  go_wp2_with fail
  refine (devNew_calls 2000 w1 (by decide)).mono ?_
  rintro e w2 ⟨rfl, hd2, hk2⟩
  have HD2 := Lib.hid hd2
  have HK2 := Lib.hid (HK1.out.trans hk2)
  have hs1 : w.heap.size ≤ w1.heap.size := HK1.out.size
  clear hd2 hk2 HK1
  go_wp2_with fail
  refine (write_calls w1.heap.size _ (Dv.fresh 2000) A ca first w2 HD2.out (fresh_ok 2000 (by decide)) (HA.out.below HK2.out.below) (fun ad e hn h => by have := LA.out ad e hn; omega) (by omega) (by show 0 + _ ≤ _; omega)).mono ?_
  rintro e w3 ⟨rfl, hd3, ht3⟩
  rw [HF.out.1] at hd3 ⊢
  have hs2 : w1.heap.size ≤ w2.heap.size := Nat.le_of_lt HD2.out.lt
  have HD3 := Lib.hid (hd3.mono (T := fun j => w1.heap.size ≤ j) fun j _ h => h.elim (fun h => h) (fun h => Nat.le_trans hs2 h))
  have HK3 := Lib.hid (Touch.keeps HK2.out ht3 hs1)
  clear hd3 ht3 HD2 HK2
  go_wp2_with fail
  refine (devSync_calls w1.heap.size _ _ w3 HD3.out).mono ?_
  rintro e w4 ⟨rfl, hd4, ht4⟩
  rw [HF.out.2] at hd4 ⊢
  have hs3 : w1.heap.size ≤ w3.heap.size := Nat.le_of_lt HD3.out.lt
  have HD4 := Lib.hid (hd4.mono (T := fun j => w1.heap.size ≤ j) fun j _ h => h.elim (fun h => h) (fun h => Nat.le_trans hs3 h))
  have HK4 := Lib.hid (Touch.keeps HK3.out ht4 hs1)
  clear hd4 ht4 HD3 HK3
  go_wp2_with fail
  refine (devFail_calls w1.heap.size _ (failBase first) (a : Int) (k : Int) w4 HD4.out).mono ?_
  rintro e w5 ⟨rfl, hd5, ht5⟩
  rw [E1.out] at hd5 ⊢
  have hs4 : w1.heap.size ≤ w4.heap.size := Nat.le_of_lt HD4.out.lt
  have HD5 := Lib.hid (hd5.mono (T := fun j => w1.heap.size ≤ j) fun j _ h => h.elim (fun h => h) (fun h => Nat.le_trans hs4 h))
  have HK5 := Lib.hid (Touch.keeps HK4.out ht5 hs1)
  clear hd5 ht5 HD4 HK4
  go_wp2_with fail
  refine (write_calls w1.heap.size _ ({ failBase first with bound := some (a, k) } : Dv) B cb thn w5 HD5.out O3.out (HB.out.below HK5.out.below) (fun ad e hn h => by have := LB.out ad e hn; omega) (by omega) (by show first.length + _ ≤ _; omega)).mono ?_
  rintro e w6 ⟨rfl, hd6, ht6⟩
  rw [E2.out] at hd6 ⊢
  have hs5 : w1.heap.size ≤ w5.heap.size := Nat.le_of_lt HD5.out.lt
  have HD6 := Lib.hid (hd6.mono (T := fun j => w1.heap.size ≤ j) fun j _ h => h.elim (fun h => h) (fun h => Nat.le_trans hs5 h))
  have HK6 := Lib.hid (Touch.keeps HK5.out ht6 hs1)
  clear hd6 ht6 HD5 HK5
  go_wp2_with fail
  refine (at_bool (b := true) (by rw [D6.out] <;> rfl) (devUp_calls w1.heap.size _ d6 w6 HD6.out)).mono ?_
  rintro e w7 ⟨rfl, rfl⟩
  go_wp2_with fail
  refine (at_value (b := ((first.length + thn.length : Nat) : Int)) (by rw [D6.out] <;> rfl) (devWritten_calls w1.heap.size _ d6 w6 HD6.out)).mono ?_
  rintro e w7 ⟨rfl, rfl⟩
  have HA6 := Lib.hid (HA.out.below HK6.out.below)
  have HB6 := Lib.hid ((HB.out.take thn.length).below HK6.out.below)
  have hpl : (thn.take thn.length).length = thn.length := by rw [List.length_take] <;> omega
  have hwc : thn.length ≤ cb := by omega
  have HPL := Lib.hid hpl
  obtain ⟨all, hall⟩ : ∃ all, all = first ++ thn.take (thn.length) := ⟨_, rfl⟩
  have hal : all.length ≤ 2000 := by rw [hall, List.length_append, List.length_take]; omega
  have HALL := Lib.hid hall
  clear hpl hall
  go_wp2_with fail
  go_region_law (first
    | (refine step_append_loose w6.heap.size (by rfl) _ _ 22 5 (by rfl) Try.underlying22 info_u8 v7 first (thn.take thn.length) (by rfl) hown7 B cb (by rw [HPL.out]; rfl) (HB6.out.below hk7.below) (by rw [HPL.out]; omega) hk7.size ?_; intro v8 w8 hown8 hgr8 hat8; rw [← HALL.out] at hown8; obtain ⟨A8, c8, rfl, hf8⟩ := hown8.form)
    | (refine step_append_loose w6.heap.size (by rfl) _ _ 22 5 (by rfl) Try.underlying22 info_u8 (.slice (some ⟨w6.heap.size, 0, none⟩) 0 0) [] first (by rfl) (OwnL.empty _ _ _ _) A ca (by rfl) (HA6.out.below ((Below.refl w6.heap.size w6).drew.alloc (Nat.le_refl _) _)) (by simp; omega) (by simp) ?_; intro v7 w7 hown7 hgr7 hat7; have hk7 : Keeps w6 w7 := Touch.nothing (F := fun _ => False) ((((Touch.refl _ w6).drew).alloc _).grown hgr7 fun i h _ => by rw [blk_empty] at h; cases h) fun _ _ h => h))
  all_goals
    have hk8 : Keeps w6 w8 := hk7.trans' hgr8 (fun k hk => (hown7.lt k hk).1)
    obtain ⟨_, hr8, _⟩ := hf8
    have HR8 := Lib.hid hr8
    have HD8 := Lib.hid (HD6.out.below hk8.below)
    have HK8 := Lib.hid (HK6.out.trans hk8)
    clear hown7 hgr7 hat7 hk7 hown8 hgr8 hat8 hk8 hr8 HD6 HK6 HA6 HB6
    go_wp2_with fail
    refine (devAll_calls w1.heap.size _ d6 w8 HD8.out O4.out).mono ?_
    rintro e w9 ⟨v9, rfl, ho9, hk9⟩
    obtain ⟨A9, c9, rfl, _, hr9, _⟩ := ho9.form
    have HR9 := Lib.hid hr9
    have HR8b := Lib.hid (HR8.out.below hk9.below)
    have HD9 := Lib.hid (HD8.out.below hk9.below)
    have HK9 := Lib.hid (HK8.out.trans hk9)
    clear ho9 hr9 hk9 HR8 HD8 HK8
    go_wp2_with fail
    refine (at_bool (b := true) (by rw [decide_eq_true_eq, D6.out, HALL.out] <;> rw [List.take_length]) (same05_calls A9 A8 c9 c8 d6.b all w9 (by have := O4.out.size; omega) (by omega) HR9.out HR8b.out)).mono ?_
    rintro e w10 ⟨rfl, hq10⟩
    have HD10 := Lib.hid (HD9.out.below (hq10.below _))
    have HK10 := Lib.hid (HK9.out.quiet hq10)
    clear hq10 HR9 HR8b HD9 HK9
    go_wp2_with fail
    refine (at_value (b := (first.length : Int)) (by rw [D6.out] <;> rfl) (devSynced_calls w1.heap.size _ d6 w10 HD10.out)).mono ?_
    rintro e w11 ⟨rfl, rfl⟩
    go_wp2
    go_ret
    exact ⟨rfl, HK10.out.below⟩

set_option maxHeartbeats 1000000 in
theorem fails_near1 (A B : Option Addr) (ca cb : Nat) (first thn : List UInt8) (a k : Nat) (w : World) (h1 : first.length ≤ 1000) (h2 : thn.length ≤ 1000) (hcb : thn.length ≤ cb) (hA : Reads w A first) (hB : Reads w B thn) (ha : a ≤ 9223372036854775807) (hk : k ≤ 9223372036854775807) (h : a < thn.length) (h3 : a ≤ k) :
    Calls Try.prog 9 #[.agg #[.slice A first.length ca, .slice B thn.length cb, .int .i64 a, .int .i64 k]] w fun e w' => e = .returned (.bool true) ∧ Below w.heap.size w w' := by
  obtain ⟨d6, hd6⟩ : ∃ d6 : Dv, d6 = { failBase first with b := first ++ thn.take (min a k), down := true, deeds := first.length + a } := ⟨_, rfl⟩
  have E1 := Lib.hid (fail_near first thn a k h1 h2 h).1
  have e2 := (fail_near first thn a k h1 h2 h).2
  rw [← hd6] at e2
  have E2 := Lib.hid e2
  have O3 := Lib.hid (show Dv.Ok { failBase first with bound := some (a, k) } by have := fail_ok (failBase_ok first h1) a k (by omega) (by omega); rw [E1.out] at this; exact this)
  have O4 := Lib.hid (show Dv.Ok d6 by have := write_ok O3.out thn; rw [e2] at this; exact this)
  have D6 := Lib.hid hd6
  clear hd6 e2
  have x1 : ¬ (a : Int) < 0 := by omega
  have x2 : ¬ (k : Int) < 0 := by omega
  have x3 : (a : Int) < (thn.length : Int) := by omega
  have x4 : ¬ (k : Int) < (a : Int) := by omega
  have b1 : ¬ (1000 : Int) < (first.length : Int) := by omega
  have b2 : ¬ (1000 : Int) < (thn.length : Int) := by omega
  have HA := Lib.hid hA
  have HB := Lib.hid hB
  have lA : ∀ ad, A = some ad → first ≠ [] → ad.block < w.heap.size := fun ad e hn => by
    obtain ⟨ad', e1, hc⟩ := hA.out 0 (List.length_pos_iff.2 hn)
    rw [e] at e1
    cases e1
    have := World.block_lt_of_cell? w _ hc
    rwa [addr_add_block] at this
  have lB : ∀ ad, B = some ad → thn ≠ [] → ad.block < w.heap.size := fun ad e hn => by
    obtain ⟨ad', e1, hc⟩ := hB.out 0 (List.length_pos_iff.2 hn)
    rw [e] at e1
    cases e1
    have := World.block_lt_of_cell? w _ hc
    rwa [addr_add_block] at this
  have LA := Lib.hid lA
  have LB := Lib.hid lB
  have HF := Lib.hid (failBase_eq first h1)
  have HFO := Lib.hid (failBase_ok first h1)
  clear hA hB lA lB
  go_enter Try.func9, Try.ntmps9
  go_wp2_with fail
  refine (devLive_calls _).mono ?_
  rintro e w1 ⟨rfl, hk1⟩
  have HK1 := Lib.hid (((Keeps.refl w).alloc _).trans hk1)
  clear hk1
  go_wp2_with fail
  refine (devNew_calls 2000 w1 (by decide)).mono ?_
  rintro e w2 ⟨rfl, hd2, hk2⟩
  have HD2 := Lib.hid hd2
  have HK2 := Lib.hid (HK1.out.trans hk2)
  have hs1 : w.heap.size ≤ w1.heap.size := HK1.out.size
  clear hd2 hk2 HK1
  go_wp2_with fail
  refine (write_calls w1.heap.size _ (Dv.fresh 2000) A ca first w2 HD2.out (fresh_ok 2000 (by decide)) (HA.out.below HK2.out.below) (fun ad e hn h => by have := LA.out ad e hn; omega) (by omega) (by show 0 + _ ≤ _; omega)).mono ?_
  rintro e w3 ⟨rfl, hd3, ht3⟩
  rw [HF.out.1] at hd3 ⊢
  have hs2 : w1.heap.size ≤ w2.heap.size := Nat.le_of_lt HD2.out.lt
  have HD3 := Lib.hid (hd3.mono (T := fun j => w1.heap.size ≤ j) fun j _ h => h.elim (fun h => h) (fun h => Nat.le_trans hs2 h))
  have HK3 := Lib.hid (Touch.keeps HK2.out ht3 hs1)
  clear hd3 ht3 HD2 HK2
  go_wp2_with fail
  refine (devSync_calls w1.heap.size _ _ w3 HD3.out).mono ?_
  rintro e w4 ⟨rfl, hd4, ht4⟩
  rw [HF.out.2] at hd4 ⊢
  have hs3 : w1.heap.size ≤ w3.heap.size := Nat.le_of_lt HD3.out.lt
  have HD4 := Lib.hid (hd4.mono (T := fun j => w1.heap.size ≤ j) fun j _ h => h.elim (fun h => h) (fun h => Nat.le_trans hs3 h))
  have HK4 := Lib.hid (Touch.keeps HK3.out ht4 hs1)
  clear hd4 ht4 HD3 HK3
  go_wp2_with fail
  refine (devFail_calls w1.heap.size _ (failBase first) (a : Int) (k : Int) w4 HD4.out).mono ?_
  rintro e w5 ⟨rfl, hd5, ht5⟩
  rw [E1.out] at hd5 ⊢
  have hs4 : w1.heap.size ≤ w4.heap.size := Nat.le_of_lt HD4.out.lt
  have HD5 := Lib.hid (hd5.mono (T := fun j => w1.heap.size ≤ j) fun j _ h => h.elim (fun h => h) (fun h => Nat.le_trans hs4 h))
  have HK5 := Lib.hid (Touch.keeps HK4.out ht5 hs1)
  clear hd5 ht5 HD4 HK4
  go_wp2_with fail
  refine (write_calls w1.heap.size _ ({ failBase first with bound := some (a, k) } : Dv) B cb thn w5 HD5.out O3.out (HB.out.below HK5.out.below) (fun ad e hn h => by have := LB.out ad e hn; omega) (by omega) (by show first.length + _ ≤ _; omega)).mono ?_
  rintro e w6 ⟨rfl, hd6, ht6⟩
  rw [E2.out] at hd6 ⊢
  have hs5 : w1.heap.size ≤ w5.heap.size := Nat.le_of_lt HD5.out.lt
  have HD6 := Lib.hid (hd6.mono (T := fun j => w1.heap.size ≤ j) fun j _ h => h.elim (fun h => h) (fun h => Nat.le_trans hs5 h))
  have HK6 := Lib.hid (Touch.keeps HK5.out ht6 hs1)
  clear hd6 ht6 HD5 HK5
  go_wp2_with fail
  refine (at_bool (b := false) (by rw [D6.out] <;> rfl) (devUp_calls w1.heap.size _ d6 w6 HD6.out)).mono ?_
  rintro e w7 ⟨rfl, rfl⟩
  go_wp2_with fail
  refine (at_value (b := ((first.length + a : Nat) : Int)) (by rw [D6.out] <;> rfl) (devWritten_calls w1.heap.size _ d6 w6 HD6.out)).mono ?_
  rintro e w7 ⟨rfl, rfl⟩
  have HA6 := Lib.hid (HA.out.below HK6.out.below)
  have HB6 := Lib.hid ((HB.out.take a).below HK6.out.below)
  have hpl : (thn.take a).length = a := by rw [List.length_take] <;> omega
  have hwc : a ≤ cb := by omega
  have HPL := Lib.hid hpl
  obtain ⟨all, hall⟩ : ∃ all, all = first ++ thn.take (a) := ⟨_, rfl⟩
  have hal : all.length ≤ 2000 := by rw [hall, List.length_append, List.length_take]; omega
  have HALL := Lib.hid hall
  clear hpl hall
  go_wp2_with fail
  go_region_law (first
    | (refine step_append_loose w6.heap.size (by rfl) _ _ 22 5 (by rfl) Try.underlying22 info_u8 v7 first (thn.take a) (by rfl) hown7 B cb (by rw [HPL.out]; rfl) (HB6.out.below hk7.below) (by rw [HPL.out]; omega) hk7.size ?_; intro v8 w8 hown8 hgr8 hat8; rw [← HALL.out] at hown8; obtain ⟨A8, c8, rfl, hf8⟩ := hown8.form)
    | (refine step_append_loose w6.heap.size (by rfl) _ _ 22 5 (by rfl) Try.underlying22 info_u8 (.slice (some ⟨w6.heap.size, 0, none⟩) 0 0) [] first (by rfl) (OwnL.empty _ _ _ _) A ca (by rfl) (HA6.out.below ((Below.refl w6.heap.size w6).drew.alloc (Nat.le_refl _) _)) (by simp; omega) (by simp) ?_; intro v7 w7 hown7 hgr7 hat7; have hk7 : Keeps w6 w7 := Touch.nothing (F := fun _ => False) ((((Touch.refl _ w6).drew).alloc _).grown hgr7 fun i h _ => by rw [blk_empty] at h; cases h) fun _ _ h => h))
  all_goals
    have hk8 : Keeps w6 w8 := hk7.trans' hgr8 (fun k hk => (hown7.lt k hk).1)
    obtain ⟨_, hr8, _⟩ := hf8
    have HR8 := Lib.hid hr8
    have HD8 := Lib.hid (HD6.out.below hk8.below)
    have HK8 := Lib.hid (HK6.out.trans hk8)
    clear hown7 hgr7 hat7 hk7 hown8 hgr8 hat8 hk8 hr8 HD6 HK6 HA6 HB6
    go_wp2_with fail
    refine (devAll_calls w1.heap.size _ d6 w8 HD8.out O4.out).mono ?_
    rintro e w9 ⟨v9, rfl, ho9, hk9⟩
    obtain ⟨A9, c9, rfl, _, hr9, _⟩ := ho9.form
    have HR9 := Lib.hid hr9
    have HR8b := Lib.hid (HR8.out.below hk9.below)
    have HD9 := Lib.hid (HD8.out.below hk9.below)
    have HK9 := Lib.hid (HK8.out.trans hk9)
    clear ho9 hr9 hk9 HR8 HD8 HK8
    go_wp2_with fail
    refine (at_bool (b := true) (by rw [decide_eq_true_eq, D6.out, HALL.out] <;> rw [show min a k = a by omega]) (same05_calls A9 A8 c9 c8 d6.b all w9 (by have := O4.out.size; omega) (by omega) HR9.out HR8b.out)).mono ?_
    rintro e w10 ⟨rfl, hq10⟩
    have HD10 := Lib.hid (HD9.out.below (hq10.below _))
    have HK10 := Lib.hid (HK9.out.quiet hq10)
    clear hq10 HR9 HR8b HD9 HK9
    go_wp2_with fail
    refine (at_value (b := (first.length : Int)) (by rw [D6.out] <;> rfl) (devSynced_calls w1.heap.size _ d6 w10 HD10.out)).mono ?_
    rintro e w11 ⟨rfl, rfl⟩
    go_wp2
    go_ret
    exact ⟨rfl, HK10.out.below⟩

set_option maxHeartbeats 1000000 in
theorem fails_near2 (A B : Option Addr) (ca cb : Nat) (first thn : List UInt8) (a k : Nat) (w : World) (h1 : first.length ≤ 1000) (h2 : thn.length ≤ 1000) (hcb : thn.length ≤ cb) (hA : Reads w A first) (hB : Reads w B thn) (ha : a ≤ 9223372036854775807) (hk : k ≤ 9223372036854775807) (h : a < thn.length) (h3 : k < a) :
    Calls Try.prog 9 #[.agg #[.slice A first.length ca, .slice B thn.length cb, .int .i64 a, .int .i64 k]] w fun e w' => e = .returned (.bool true) ∧ Below w.heap.size w w' := by
  obtain ⟨d6, hd6⟩ : ∃ d6 : Dv, d6 = { failBase first with b := first ++ thn.take (min a k), down := true, deeds := first.length + a } := ⟨_, rfl⟩
  have E1 := Lib.hid (fail_near first thn a k h1 h2 h).1
  have e2 := (fail_near first thn a k h1 h2 h).2
  rw [← hd6] at e2
  have E2 := Lib.hid e2
  have O3 := Lib.hid (show Dv.Ok { failBase first with bound := some (a, k) } by have := fail_ok (failBase_ok first h1) a k (by omega) (by omega); rw [E1.out] at this; exact this)
  have O4 := Lib.hid (show Dv.Ok d6 by have := write_ok O3.out thn; rw [e2] at this; exact this)
  have D6 := Lib.hid hd6
  clear hd6 e2
  have x1 : ¬ (a : Int) < 0 := by omega
  have x2 : ¬ (k : Int) < 0 := by omega
  have x3 : (a : Int) < (thn.length : Int) := by omega
  have x4 : (k : Int) < (a : Int) := by omega
  have b1 : ¬ (1000 : Int) < (first.length : Int) := by omega
  have b2 : ¬ (1000 : Int) < (thn.length : Int) := by omega
  have HA := Lib.hid hA
  have HB := Lib.hid hB
  have lA : ∀ ad, A = some ad → first ≠ [] → ad.block < w.heap.size := fun ad e hn => by
    obtain ⟨ad', e1, hc⟩ := hA.out 0 (List.length_pos_iff.2 hn)
    rw [e] at e1
    cases e1
    have := World.block_lt_of_cell? w _ hc
    rwa [addr_add_block] at this
  have lB : ∀ ad, B = some ad → thn ≠ [] → ad.block < w.heap.size := fun ad e hn => by
    obtain ⟨ad', e1, hc⟩ := hB.out 0 (List.length_pos_iff.2 hn)
    rw [e] at e1
    cases e1
    have := World.block_lt_of_cell? w _ hc
    rwa [addr_add_block] at this
  have LA := Lib.hid lA
  have LB := Lib.hid lB
  have HF := Lib.hid (failBase_eq first h1)
  have HFO := Lib.hid (failBase_ok first h1)
  clear hA hB lA lB
  go_enter Try.func9, Try.ntmps9
  go_wp2_with fail
  refine (devLive_calls _).mono ?_
  rintro e w1 ⟨rfl, hk1⟩
  have HK1 := Lib.hid (((Keeps.refl w).alloc _).trans hk1)
  clear hk1
  go_wp2_with fail
  refine (devNew_calls 2000 w1 (by decide)).mono ?_
  rintro e w2 ⟨rfl, hd2, hk2⟩
  have HD2 := Lib.hid hd2
  have HK2 := Lib.hid (HK1.out.trans hk2)
  have hs1 : w.heap.size ≤ w1.heap.size := HK1.out.size
  clear hd2 hk2 HK1
  go_wp2_with fail
  refine (write_calls w1.heap.size _ (Dv.fresh 2000) A ca first w2 HD2.out (fresh_ok 2000 (by decide)) (HA.out.below HK2.out.below) (fun ad e hn h => by have := LA.out ad e hn; omega) (by omega) (by show 0 + _ ≤ _; omega)).mono ?_
  rintro e w3 ⟨rfl, hd3, ht3⟩
  rw [HF.out.1] at hd3 ⊢
  have hs2 : w1.heap.size ≤ w2.heap.size := Nat.le_of_lt HD2.out.lt
  have HD3 := Lib.hid (hd3.mono (T := fun j => w1.heap.size ≤ j) fun j _ h => h.elim (fun h => h) (fun h => Nat.le_trans hs2 h))
  have HK3 := Lib.hid (Touch.keeps HK2.out ht3 hs1)
  clear hd3 ht3 HD2 HK2
  go_wp2_with fail
  refine (devSync_calls w1.heap.size _ _ w3 HD3.out).mono ?_
  rintro e w4 ⟨rfl, hd4, ht4⟩
  rw [HF.out.2] at hd4 ⊢
  have hs3 : w1.heap.size ≤ w3.heap.size := Nat.le_of_lt HD3.out.lt
  have HD4 := Lib.hid (hd4.mono (T := fun j => w1.heap.size ≤ j) fun j _ h => h.elim (fun h => h) (fun h => Nat.le_trans hs3 h))
  have HK4 := Lib.hid (Touch.keeps HK3.out ht4 hs1)
  clear hd4 ht4 HD3 HK3
  go_wp2_with fail
  refine (devFail_calls w1.heap.size _ (failBase first) (a : Int) (k : Int) w4 HD4.out).mono ?_
  rintro e w5 ⟨rfl, hd5, ht5⟩
  rw [E1.out] at hd5 ⊢
  have hs4 : w1.heap.size ≤ w4.heap.size := Nat.le_of_lt HD4.out.lt
  have HD5 := Lib.hid (hd5.mono (T := fun j => w1.heap.size ≤ j) fun j _ h => h.elim (fun h => h) (fun h => Nat.le_trans hs4 h))
  have HK5 := Lib.hid (Touch.keeps HK4.out ht5 hs1)
  clear hd5 ht5 HD4 HK4
  go_wp2_with fail
  refine (write_calls w1.heap.size _ ({ failBase first with bound := some (a, k) } : Dv) B cb thn w5 HD5.out O3.out (HB.out.below HK5.out.below) (fun ad e hn h => by have := LB.out ad e hn; omega) (by omega) (by show first.length + _ ≤ _; omega)).mono ?_
  rintro e w6 ⟨rfl, hd6, ht6⟩
  rw [E2.out] at hd6 ⊢
  have hs5 : w1.heap.size ≤ w5.heap.size := Nat.le_of_lt HD5.out.lt
  have HD6 := Lib.hid (hd6.mono (T := fun j => w1.heap.size ≤ j) fun j _ h => h.elim (fun h => h) (fun h => Nat.le_trans hs5 h))
  have HK6 := Lib.hid (Touch.keeps HK5.out ht6 hs1)
  clear hd6 ht6 HD5 HK5
  go_wp2_with fail
  refine (at_bool (b := false) (by rw [D6.out] <;> rfl) (devUp_calls w1.heap.size _ d6 w6 HD6.out)).mono ?_
  rintro e w7 ⟨rfl, rfl⟩
  go_wp2_with fail
  refine (at_value (b := ((first.length + a : Nat) : Int)) (by rw [D6.out] <;> rfl) (devWritten_calls w1.heap.size _ d6 w6 HD6.out)).mono ?_
  rintro e w7 ⟨rfl, rfl⟩
  have HA6 := Lib.hid (HA.out.below HK6.out.below)
  have HB6 := Lib.hid ((HB.out.take k).below HK6.out.below)
  have hpl : (thn.take k).length = k := by rw [List.length_take] <;> omega
  have hwc : k ≤ cb := by omega
  have HPL := Lib.hid hpl
  obtain ⟨all, hall⟩ : ∃ all, all = first ++ thn.take (k) := ⟨_, rfl⟩
  have hal : all.length ≤ 2000 := by rw [hall, List.length_append, List.length_take]; omega
  have HALL := Lib.hid hall
  clear hpl hall
  go_wp2_with fail
  go_region_law (first
    | (refine step_append_loose w6.heap.size (by rfl) _ _ 22 5 (by rfl) Try.underlying22 info_u8 v7 first (thn.take k) (by rfl) hown7 B cb (by rw [HPL.out]; rfl) (HB6.out.below hk7.below) (by rw [HPL.out]; omega) hk7.size ?_; intro v8 w8 hown8 hgr8 hat8; rw [← HALL.out] at hown8; obtain ⟨A8, c8, rfl, hf8⟩ := hown8.form)
    | (refine step_append_loose w6.heap.size (by rfl) _ _ 22 5 (by rfl) Try.underlying22 info_u8 (.slice (some ⟨w6.heap.size, 0, none⟩) 0 0) [] first (by rfl) (OwnL.empty _ _ _ _) A ca (by rfl) (HA6.out.below ((Below.refl w6.heap.size w6).drew.alloc (Nat.le_refl _) _)) (by simp; omega) (by simp) ?_; intro v7 w7 hown7 hgr7 hat7; have hk7 : Keeps w6 w7 := Touch.nothing (F := fun _ => False) ((((Touch.refl _ w6).drew).alloc _).grown hgr7 fun i h _ => by rw [blk_empty] at h; cases h) fun _ _ h => h))
  all_goals
    have hk8 : Keeps w6 w8 := hk7.trans' hgr8 (fun k hk => (hown7.lt k hk).1)
    obtain ⟨_, hr8, _⟩ := hf8
    have HR8 := Lib.hid hr8
    have HD8 := Lib.hid (HD6.out.below hk8.below)
    have HK8 := Lib.hid (HK6.out.trans hk8)
    clear hown7 hgr7 hat7 hk7 hown8 hgr8 hat8 hk8 hr8 HD6 HK6 HA6 HB6
    go_wp2_with fail
    refine (devAll_calls w1.heap.size _ d6 w8 HD8.out O4.out).mono ?_
    rintro e w9 ⟨v9, rfl, ho9, hk9⟩
    obtain ⟨A9, c9, rfl, _, hr9, _⟩ := ho9.form
    have HR9 := Lib.hid hr9
    have HR8b := Lib.hid (HR8.out.below hk9.below)
    have HD9 := Lib.hid (HD8.out.below hk9.below)
    have HK9 := Lib.hid (HK8.out.trans hk9)
    clear ho9 hr9 hk9 HR8 HD8 HK8
    go_wp2_with fail
    refine (at_bool (b := true) (by rw [decide_eq_true_eq, D6.out, HALL.out] <;> rw [show min a k = k by omega]) (same05_calls A9 A8 c9 c8 d6.b all w9 (by have := O4.out.size; omega) (by omega) HR9.out HR8b.out)).mono ?_
    rintro e w10 ⟨rfl, hq10⟩
    have HD10 := Lib.hid (HD9.out.below (hq10.below _))
    have HK10 := Lib.hid (HK9.out.quiet hq10)
    clear hq10 HR9 HR8b HD9 HK9
    go_wp2_with fail
    refine (at_value (b := (first.length : Int)) (by rw [D6.out] <;> rfl) (devSynced_calls w1.heap.size _ d6 w10 HD10.out)).mono ?_
    rintro e w11 ⟨rfl, rfl⟩
    go_wp2
    go_ret
    exact ⟨rfl, HK10.out.below⟩

theorem fails_calls (A B : Option Addr) (ca cb : Nat) (first thn : List UInt8) (a k : Int) (w : World) (hcb : thn.length ≤ cb) (hA : Reads w A first) (hB : Reads w B thn) (ha : a ≤ 9223372036854775807) (hk : k ≤ 9223372036854775807) :
    Calls Try.prog 9 #[.agg #[.slice A first.length ca, .slice B thn.length cb, .int .i64 a, .int .i64 k]] w fun e w' => e = .returned (.bool true) ∧ Below w.heap.size w w' := by
  by_cases h : 1000 < first.length ∨ 1000 < thn.length
  · exact fails_long A B ca cb _ _ a k w h
  · by_cases h1 : a < 0
    · exact fails_not1 A B ca cb first thn a k w (by omega) (by omega) hcb hA hB h1
    · by_cases h2 : k < 0
      · exact fails_not2 A B ca cb first thn a k w (by omega) (by omega) hcb hA hB (by omega) h2
      · obtain ⟨a', rfl⟩ := Int.eq_ofNat_of_zero_le (show 0 ≤ a by omega)
        obtain ⟨k', rfl⟩ := Int.eq_ofNat_of_zero_le (show 0 ≤ k by omega)
        by_cases h3 : thn.length ≤ a'
        · exact fails_far A B ca cb first thn a' k' w (by omega) (by omega) hcb hA hB (by omega) (by omega) h3
        · by_cases h4 : a' ≤ k'
          · exact fails_near1 A B ca cb first thn a' k' w (by omega) (by omega) hcb hA hB (by omega) (by omega) (by omega) h4
          · exact fails_near2 A B ca cb first thn a' k' w (by omega) (by omega) hcb hA hB (by omega) (by omega) (by omega) (by omega)
end Go.Proofs.Ytnfefjlplipeiab
