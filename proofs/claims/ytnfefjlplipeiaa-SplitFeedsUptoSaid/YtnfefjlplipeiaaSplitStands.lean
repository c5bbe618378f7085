/-
  The walk of the law SplitStands: it returns true, and what was there before is as it was. Condition: the argument reads as lists of bytes, together of at most 2^38.
-/
import Derived.Test.YtnfefjlplipeiaaSplitClones
import Derived.Test.YtnfefjlplipeiaaSplitStandMath
import Derived.Test.YtnfefjlplipeiaaPiecesAt
namespace Go.Proofs.Ytnfefjlplipeiaa
open Go.RowKit Go.BigFrame
set_option linter.unusedVariables false
set_option linter.unusedSimpArgs false

def StandsRel (w : World) (g : Nat) (ps : List (List UInt8)) (v last i : Value) (wr : World) : Prop :=
  ∃ (k : Nat) (hv : Value), k ≤ ps.length ∧ i = .int .i64 (k : Int) ∧ OwnB 5 wr w.heap.size v (ps.take k).flatten ∧ SpAt wr g (ps.take k).flatten.length (fresh.feed (ps.take k).flatten).1.md hv ∧
    (∀ j, hv.ownBlock = some j → w.heap.size ≤ j) ∧ (∀ j, v.ownBlock = some j → ¬ Near g hv j) ∧ last = .int .i64 (lastAt (runsOf (ps.take k).flatten) (runsOf (ps.take k).flatten).length) ∧ Touch (fun j => w.heap.size ≤ j) w wr

set_option maxRecDepth 100000 in
set_option maxHeartbeats 2000000 in
theorem stands_calls (A : Option Addr) (ca : Nat) (ps : List (List UInt8)) (w : World) (hl : ps.flatten.length ≤ 274877906944) (hpl : ps.length ≤ 274877906944) (ha : PiecesAt w A ps) :
    Calls Try.prog 6 #[.slice A ps.length ca] w fun e w' => e = .returned (.bool true) ∧ Below w.heap.size w w' := by
  have HA := Lib.hid ha
  clear ha
  go_enter Try.func6, Try.ntmps6
  go_wp2_with fail
  refine (live_calls _).mono ?_
  rintro e w1 ⟨rfl, hb1⟩
  have H1 := Lib.hid (Keeps.of hb1)
  clear hb1
  go_wp2_with fail
  refine (splitNew_calls _).mono ?_
  rintro e w2 ⟨rfl, hw2⟩
  have hsp : SpAt w2 w1.heap.size 0 none (.slice none 0 0) := by
    subst hw2
    exact ⟨rfl, 0, obj_new w1 _⟩
  have ht2 : Touch (fun j => w.heap.size ≤ j) w w2 := by subst hw2; exact (Touch.of_below H1.out.below (fun _ _ h => h)).alloc _
  have HSP := Lib.hid hsp
  have HT2 := Lib.hid ht2
  have hg1 : w.heap.size ≤ w1.heap.size := H1.out.size
  clear hsp ht2 hw2 H1
  generalize w1.heap.size = g at *
  go_wp2
  go_loopw [5, 6, 21] (fun v last i wr => StandsRel w g ps v last i wr) (fun _ _ i _ => ps.length - (intOf i).toNat)
  case atStart =>
    exact ⟨0, .slice none 0 0, Nat.zero_le _, rfl, OwnB.nil _ _ _, HSP.out, fun j h => (nil_block j h).elim, fun j h => (nil_block j h).elim, rfl, HT2.out⟩
  case round =>
    obtain ⟨k, hv, hk, rfl, hown, hsp, hhv, hsep, rfl, ht⟩ := hrel
    have HO := Lib.hid hown
    have HS := Lib.hid hsp
    have HH := Lib.hid hhv
    have HE := Lib.hid hsep
    have HT := Lib.hid ht
    clear hown hsp hhv hsep ht HSP HT2
    by_cases hlt : k < ps.length
    · have hpa : PiecesAt wr A ps := HA.out.keep HT.out (fun j h1 h2 => by omega)
      obtain ⟨ad, rfl, bA, bc, x1, x2, x3⟩ := hpa k hlt
      obtain ⟨ad', e0, bA', bc', y1, y2, y3⟩ := HA.out k hlt
      cases e0
      have heq : bA' = bA ∧ bc' = bc := by
        have := HT.out.cell y1 (fun h => by have := World.block_lt_of_cell? w _ y1; omega)
        rw [x1] at this
        injection this with this
        injection this with h1 h2 h3
        exact ⟨h1.symm, h3.symm⟩
      obtain ⟨rfl, rfl⟩ := heq
      have hfl := flatten_take ps k hlt
      have hf1 := flatten_le ps k
      have hf2 := flatten_le ps (k + 1)
      rw [hfl, List.length_append] at hf2
      have HFL := Lib.hid hfl
      have Y3 := Lib.hid y3
      clear x3 y1 y2 y3 hfl hpa
      generalize hall : (ps.take k).flatten = all at *
      clear hall
      generalize hpc : ps[k]'hlt = pc at *
      clear hpc
      go_wp2_with fail
      refine (feed_arg w wr w.heap.size g ⟨all.length, (fresh.feed all).1.md⟩ hv bA' bc' pc Y3.out (Nat.le_refl _) hg1 HH.out HT.out HS.out (by simp only; omega)).mono ?_
      rintro e w3 ⟨o1, hv1, rfl, hsp3, hh3, ht3, hr3⟩
      rw [(feed_md all pc).1] at hsp3
      rw [(feed_md all pc).2] at hr3
      have hown3 : OwnB 5 w3 w.heap.size u5 all := ht3.ownB HO.out (fun j hj => HE.out j hj)
      have hsep3 : ∀ j, u5.ownBlock = some j → ¬ Near g hv1 j := by
        intro j hj hn
        rcases hn with h | h
        · exact HE.out j hj (.inl h)
        · rcases hh3 j h with h | h
          · exact HE.out j hj (.inr h)
          · have := own_lt HO.out j hj; omega
      have hsepr : ∀ j, ((hv.ownBlock = some j ∨ wr.heap.size ≤ j) ∧ j < w3.heap.size ∧ j ≠ g ∧ hv1.ownBlock ≠ some j) → u5.ownBlock ≠ some j := by
        intro j hj hu
        rcases hj.1 with h | h
        · exact HE.out j hu (.inr h)
        · have := own_lt HO.out j hu; omega
      have hh3' : ∀ j, hv1.ownBlock = some j → w.heap.size ≤ j := fun j hj => by
        rcases hh3 j hj with h | h
        · exact HH.out j h
        · exact Nat.le_trans HT.out.size h
      have ht3' : Touch (fun j => w.heap.size ≤ j) w w3 := HT.out.trans ht3 fun i hi hn => by
        rcases hn with rfl | hn
        · exact hg1
        · exact HH.out i hn
      have hb3 : Reads w3 bA' pc := ht3'.reads Y3.out (fun a e hn hF => by
        obtain ⟨ad, e1, hc⟩ := Y3.out.out 0 (List.length_pos_iff.2 hn)
        rw [e] at e1
        cases e1
        have := World.block_lt_of_cell? w _ hc
        rw [addr_add_block] at this
        omega)
      have hsz3 := ht3.size
      have HO3 := Lib.hid hown3
      have HE3 := Lib.hid hsep3
      have HER := Lib.hid hsepr
      have HH3 := Lib.hid hh3'
      have HT3 := Lib.hid ht3'
      have HS3 := Lib.hid hsp3
      have HR3 := Lib.hid hr3
      have HB3 := Lib.hid hb3
      clear hown3 hsep3 hsepr hh3' ht3' hsp3 hr3 hb3 hh3 ht3 HO HS HH HE HT
      go_wp2_with (at_builtin; refine wpList_append_bytes (w0 := w) w.heap.size rfl _ _ 28 5 rfl Try.underlying28 info_u8 _ all pc rfl HO3.out bA' bc' rfl ?a1 ?a2 ?a3 ?a4 ?_)
      case a1 => exact HB3.out
      case a2 => omega
      case a3 => exact HT3.out.size
      case a4 => exact HT3.out.to_below w.heap.size (fun _ h _ => h) (Nat.le_refl _)
      intro v2 w4 hown4 hb4 hg4 hat4
      have T4 : Touch (fun j => u5.ownBlock = some j) w3 w4 := Touch.of_grown hg4 fun j h => h
      have hsp4 := HS3.out.keep T4 (fun h => HE3.out g h (.inl rfl)) (fun j hj h => HE3.out j h (.inr hj))
      have hr4 := HR3.out.keep T4 (fun j hj h => HER.out j hj h)
      have hsep4 : ∀ j, v2.ownBlock = some j → ¬ Near g hv1 j := by
        intro j hj hn
        rcases hat4 with h | h
        · rw [h] at hj; exact HE3.out j hj hn
        · rw [h] at hj
          injection hj with hj
          have := HS3.out.lt
          rcases hn with h | h
          · omega
          · have := this.2 j h; omega
      have T4' : Touch (fun j => w.heap.size ≤ j) w w4 := HT3.out.grown hg4 (fun j hj _ => (HO3.out.lt j hj).1)
      have hlast : lastAt (runsOf all) (runsOf all).length = lastAt (runsOf (all ++ pc)) (runsOf all).length := by rw [runs_append]; exact (lastAt_append _ _ _ (Nat.le_refl _)).symm
      have hn : (runsOf all).length ≤ (runsOf (all ++ pc)).length := by rw [runs_append]; simp
      obtain ⟨all2, hall2⟩ : ∃ all2, all2 = all ++ pc := ⟨_, rfl⟩
      have HLEN := Lib.hid (show all2.length = all.length + pc.length by rw [hall2]; simp)
      have hlen2 : all2.length ≤ 274877906944 := by rw [hall2]; simp; omega
      rw [← hall2] at hown4 hsp4 hr4 hn hlast HFL
      rw [← HLEN.out] at hsp4
      rw [hlast]
      obtain ⟨rx, hrx⟩ : ∃ rx, rx = (runsOf all2).drop (runsOf all).length := ⟨_, rfl⟩
      rw [← hrx] at hr4
      generalize (runsOf all).length = n at *
      obtain ⟨V, cv, rfl, hcv, hrv, hcm, _⟩ := hown4.form
      obtain ⟨X, cx, rfl, hcx, hrxa⟩ := hr4.at
      have hrl : rx.length + n = (runsOf all2).length := by rw [hrx]; simp; omega
      have hrl2 : (runsOf all2).length ≤ all2.length := feed_count fresh all2
      have hheld := held_le all2
      have hg := lastAt_ge all2 n hn
      have HO4 := Lib.hid hown4
      have HS4 := Lib.hid hsp4
      have HE4 := Lib.hid hsep4
      have HT4 := Lib.hid T4'
      have HRV := Lib.hid hrv
      have HRXA := Lib.hid hrxa
      have HRX := Lib.hid hrx
      have HRL := Lib.hid hrl
      clear hown4 hsp4 hsep4 T4 T4' hrv hrxa hrx hrl hr4 hg4 hb4 hat4 hlast hall2 HO3 HE3 HER HT3 HS3 HR3 HB3 Y3
      go_wp2_with fail
      refine (at_value (b := heldOf all2) (by rw [heldOf_feed]) (held_any HS4.out)).mono ?_
      rintro e w5 ⟨rfl, rfl⟩
      go_wp2_with fail
      refine (at_value (b := heldOf all2) (by rw [heldOf_feed]) (held_any HS4.out)).mono ?_
      rintro e w5 ⟨rfl, rfl⟩
      go_wp2
      go_loopw [6, 41] (fun last j wq => ∃ m : Nat, m ≤ rx.length ∧ j = .int .i64 m ∧ last = .int .i64 (lastAt (runsOf all2) (n + m)) ∧ Keeps w4 wq) (fun _ j _ => rx.length - (intOf j).toNat)
      case atStart => exact ⟨0, Nat.zero_le _, rfl, rfl, Keeps.refl _⟩
      case round =>
        obtain ⟨m, hm, rfl, rfl, hkeep⟩ := hrel
        have HK := Lib.hid hkeep
        clear hkeep
        by_cases hmlt : m < rx.length
        · obtain ⟨g1, f1, rfl, z1, A1, m1, z2, z3⟩ := (HRXA.out.below HK.out.below) m hmlt
          have hrs : n + m < (runsOf all2).length := by have := HRL.out; omega
          have hre : rx[m]'hmlt = (runsOf all2)[n + m]'hrs := by
            have e := HRX.out
            subst e
            rw [List.getElem_drop]
          have hst : Stands all2 (rx[m]'hmlt) := by rw [hre]; exact runs_stand _ _ (List.getElem_mem _)
          have hl1 := lastAt_lt all2 (n + m) hrs
          have hl2 := lastAt_succ (runsOf all2) (n + m) hrs
          have hl3 := lastAt_ge all2 (n + m) (by omega)
          rw [← hre] at hl1 hl2
          generalize rx[m]'hmlt = r at *
          have hs1 := World.block_lt_of_cell? _ _ z1
          simp only at hs1
          obtain ⟨f, b⟩ := r
          simp only at z1 z2 z3 hst hl1 hl2
          have hlt1 := hst.lt
          have hsz := hst.size
          have hfirst := hst.first (by simp only at hlt1; omega)
          have hsecond := hst.second hlt1
          have hwithin := hst.within
          simp only at hlt1 hsz hfirst hsecond hwithin
          obtain ⟨gv, cv', e0, _, _, _⟩ := HO4.out.block (by omega)
          injection e0 with e1 e2 e3
          subst e1
          subst e3
          have hrv : Reads wr (some ⟨gv, 0, none⟩) all2 := HRV.out.below HK.out.below
          have hk1 : wr.cell? ⟨gv, f, none⟩ = some (.int .u8 0) := by
            obtain ⟨ad', e, hc⟩ := hrv.out f (by omega)
            cases e
            rw [addr_add_mk, hfirst] at hc
            simpa using hc
          have hk2 : wr.cell? ⟨gv, f + b.length + 1, none⟩ = some (.int .u8 0) := by
            obtain ⟨ad', e, hc⟩ := hrv.out (f + b.length + 1) hlt1
            cases e
            rw [addr_add_mk, hsecond] at hc
            simpa using hc
          have hsv := World.block_lt_of_cell? _ _ hk1
          simp only at hsv
          have hmid : Reads wr (some ⟨gv, f + 1, none⟩) b := by
            have := (hrv.drop (ad' := ⟨gv, f + 1, none⟩) (f + 1) (fun i => by rw [addr_add_mk, addr_add_mk]; congr 1; omega)).take b.length
            rwa [hwithin] at this
          have k1 := fun o q => (Reads.below hmid ((Keeps.refl wr).alloc o |>.quiet ⟨q, rfl⟩).below).conv (P := Try.prog) 28 9 5 Try.underlying28 Try.underlying5 Try.underlying9 (cv - (f + 1))
          have k2 := fun o q => (Reads.below z3 ((Keeps.refl wr).alloc o |>.quiet ⟨q, rfl⟩).below).conv (P := Try.prog) 28 9 5 Try.underlying28 Try.underlying5 Try.underlying9 m1
          have q1 : ¬ cv = f + 1 := by omega
          have q2 : f + b.length + 1 - (f + 1) = b.length := by omega
          have q3 := str_yes (rfl : b = b)
          have Z3 := Lib.hid z3
          have HST := Lib.hid hst
          have HNX := Lib.hid hl2
          clear z3 hst hl2 hfirst hsecond hwithin hrv hmid hre hg
          generalize lastAt (runsOf all2) (n + m) = la at *
          have d1 : decide ((b.length : Int) < 1) = false := by rw [decide_eq_false_iff_not]; omega
          have d2 : decide (2200 < (b.length : Int)) = false := by rw [decide_eq_false_iff_not]; omega
          have d3 : decide ((f : Int) ≤ la) = false := by rw [decide_eq_false_iff_not]; omega
          have d4 : decide ((all2.length : Int) ≤ (f : Int) + (b.length : Int) + 1) = false := by rw [decide_eq_false_iff_not]; omega
          have i1 : (0 : Int) ≤ (f : Int) := Int.natCast_nonneg _
          have i2 : (f : Int) < (all2.length : Int) := by omega
          have i3 : (0 : Int) ≤ (f : Int) + (b.length : Int) + 1 := by omega
          have i4 : (f : Int) + (b.length : Int) + 1 < (all2.length : Int) := by omega
          go_wp2
          go_quiet (fail)
          go_wp2
          have hbox : ((wr.alloc (.cells #[.int .i64 (f : Int), .slice A1 b.length m1] 42)).drewN nq).heap[wr.heap.size]? = some (.cells #[.int .i64 (f : Int), .slice A1 b.length m1] 42 (0, 0)) := obj_new wr _
          have hkq : Keeps wr ((wr.alloc (.cells #[.int .i64 (f : Int), .slice A1 b.length m1] 42)).drewN nq) := ((Keeps.refl wr).alloc _).quiet ⟨nq, rfl⟩
          obtain ⟨e1, e2, _, _⟩ := cells2 hbox
          generalize (wr.alloc (.cells #[.int .i64 (f : Int), .slice A1 b.length m1] 42)).drewN nq = wq at *
          have HKQ := Lib.hid hkq
          clear hbox hkq k1 k2 d1 d2 d3 d4 i1 i2 i3 i4 q1 q2 q3 hk1 hk2
          go_loopw [109] (fun i wz => ∃ q : Nat, q ≤ b.length ∧ i = .int .i64 (q : Int) ∧ wz = wq) (fun i _ => b.length - (intOf i).toNat)
          case atStart => exact ⟨0, Nat.zero_le _, rfl, rfl⟩
          case round =>
            obtain ⟨q, hq, rfl, rfl⟩ := hrel
            by_cases hqlt : q < b.length
            · obtain ⟨ad2, rfl, hc⟩ := (Z3.out.below HKQ.out.below).out q hqlt
              have hz := HST.out.nz q hqlt
              have hzb : (((((b[q]'hqlt).toNat : Nat) : Int)) == 0) = false := by
                rw [beq_eq_false_iff_ne]; intro e; apply hz; exact UInt8.toNat_inj.1 (by simpa using e)
              clear hz
              go_wp2
              go_round
              case rel => exact ⟨q + 1, by omega, by go_num, trivial⟩
              case measure => simp [intOf]; omega
            · go_wp2
              exact ⟨⟨m + 1, by omega, by go_num, by rw [← Nat.add_assoc, HNX.out], HK.out.trans HKQ.out⟩, by simp [intOf]; omega⟩
        · go_wp2
          refine ⟨⟨k + 1, hv1, by omega, by go_num, ?_, ?_, HH3.out, HE4.out, ?_, HT4.out.below HK.out.below⟩, by simp [intOf]; omega⟩
          · rw [HFL.out]; exact HO4.out.below HK.out.below
          · rw [HFL.out]; exact HS4.out.below HK.out.below
          · rw [HFL.out, show n + m = (runsOf all2).length by have := HRL.out; omega]
    · have hke : k = ps.length := by omega
      have HP := Lib.hid (HT.out.to_below w.heap.size (fun _ h _ => h) (Nat.le_refl _))
      clear HO HS HH HE HT
      go_wp2
      go_ret
      exact ⟨rfl, HP.out⟩
end Go.Proofs.Ytnfefjlplipeiaa
