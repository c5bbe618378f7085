/-
  The walk of the law SplitFeeds: it returns true, and what was there before is as it was. Condition: the argument reads as lists of bytes, together of at most 2^38.
-/
import Derived.Test.YtnfefjlplipeiaaSplitStands
import Derived.Test.YtnfefjlplipeiaaSplitRuns
namespace Go.Proofs.Ytnfefjlplipeiaa
open Go.RowKit Go.BigFrame
set_option linter.unusedVariables false
set_option linter.unusedSimpArgs false

def FeedsRel (w : World) (g : Nat) (ps : List (List UInt8)) (v seen i : Value) (wr : World) : Prop :=
  ∃ (k : Nat) (hv : Value), k ≤ ps.length ∧ i = .int .i64 (k : Int) ∧ OwnB 5 wr w.heap.size v (ps.take k).flatten ∧ SpAt wr g (ps.take k).flatten.length (fresh.feed (ps.take k).flatten).1.md hv ∧
    (∀ j, hv.ownBlock = some j → w.heap.size ≤ j) ∧ (∀ j, v.ownBlock = some j → ¬ Near g hv j) ∧ seen = .int .i64 ((runsOf (ps.take k).flatten).length : Int) ∧ Touch (fun j => w.heap.size ≤ j) w wr

set_option maxRecDepth 100000 in
set_option maxHeartbeats 2000000 in
theorem feeds_calls (A : Option Addr) (ca : Nat) (ps : List (List UInt8)) (w : World) (hl : ps.flatten.length ≤ 274877906944) (hpl : ps.length ≤ 274877906944) (ha : PiecesAt w A ps) :
    Calls Try.prog 5 #[.slice A ps.length ca] w fun e w' => e = .returned (.bool true) ∧ Below w.heap.size w w' := by
  have HA := Lib.hid ha
  clear ha
  go_enter Try.func5, Try.ntmps5
  go_wp2_with fail
  refine (live_calls _).mono ?_
  rintro e w1 ⟨rfl, hb1⟩
  have H1 := Lib.hid (Keeps.of hb1)
  clear hb1
  go_wp2_with fail
  refine (splitNew_calls _).mono ?_
  rintro e w2 ⟨rfl, hw2⟩
  have hsp : SpAt w2 w1.heap.size 0 none (.slice none 0 0) := by
    subst hw2
    exact ⟨rfl, 0, obj_new w1 _⟩
  have ht2 : Touch (fun j => w.heap.size ≤ j) w w2 := by subst hw2; exact (Touch.of_below H1.out.below (fun _ _ h => h)).alloc _
  have HSP := Lib.hid hsp
  have HT2 := Lib.hid ht2
  have hg1 : w.heap.size ≤ w1.heap.size := H1.out.size
  clear hsp ht2 hw2 H1
  generalize w1.heap.size = g at *
  go_wp2
  go_loopw [5, 6, 19] (fun v seen i wr => FeedsRel w g ps v seen i wr) (fun _ _ i _ => ps.length - (intOf i).toNat)
  case atStart =>
    exact ⟨0, .slice none 0 0, Nat.zero_le _, rfl, OwnB.nil _ _ _, HSP.out, fun j h => (nil_block j h).elim, fun j h => (nil_block j h).elim, rfl, HT2.out⟩
  case round =>
    obtain ⟨k, hv, hk, rfl, hown, hsp, hhv, hsep, rfl, ht⟩ := hrel
    have HO := Lib.hid hown
    have HS := Lib.hid hsp
    have HH := Lib.hid hhv
    have HE := Lib.hid hsep
    have HT := Lib.hid ht
    clear hown hsp hhv hsep ht HSP HT2
    by_cases hlt : k < ps.length
    · have hpa : PiecesAt wr A ps := HA.out.keep HT.out (fun j h1 h2 => by omega)
      obtain ⟨ad, rfl, bA, bc, x1, x2, x3⟩ := hpa k hlt
      obtain ⟨ad', e0, bA', bc', y1, y2, y3⟩ := HA.out k hlt
      cases e0
      have heq : bA' = bA ∧ bc' = bc := by
        have := HT.out.cell y1 (fun h => by have := World.block_lt_of_cell? w _ y1; omega)
        rw [x1] at this
        injection this with this
        injection this with h1 h2 h3
        exact ⟨h1.symm, h3.symm⟩
      obtain ⟨rfl, rfl⟩ := heq
      have hfl := flatten_take ps k hlt
      have hf1 := flatten_le ps k
      have hf2 := flatten_le ps (k + 1)
      rw [hfl, List.length_append] at hf2
      have HFL := Lib.hid hfl
      have Y3 := Lib.hid y3
      clear x3 y1 y2 y3 hfl hpa
      generalize hall : (ps.take k).flatten = all at *
      clear hall
      generalize hpc : ps[k]'hlt = pc at *
      clear hpc
      have hlow : ∀ a, bA' = some a → pc ≠ [] → a.block < w.heap.size := by
        intro a e h
        obtain ⟨ad, e1, hc⟩ := Y3.out.out 0 (List.length_pos_iff.2 h)
        rw [e] at e1
        cases e1
        have := World.block_lt_of_cell? w _ hc
        rwa [addr_add_block] at this
      have hrd : ∀ wx, Touch (fun j => w.heap.size ≤ j) w wx → Reads wx bA' pc := fun wx hx => hx.reads Y3.out (fun a e hn hF => by have := hlow a e hn; omega)
      have HRD := Lib.hid hrd
      clear hlow hrd
      go_wp2_with fail
      refine (lent_calls bA' bc' pc wr (by omega) (HRD.out wr HT.out)).mono ?_
      rintro e w3 ⟨rfl, hlent, hb3⟩
      have hs3 := hb3.size
      have hglt := hlent.lt
      have HL3 := Lib.hid hlent
      have HT3 := Lib.hid (HT.out.below hb3)
      have HO3 := Lib.hid (OwnB.below HO.out hb3)
      have HS3 := Lib.hid (HS.out.below hb3)
      have hslt := HS.out.lt
      have hvlt : ∀ j, u5.ownBlock = some j → j < wr.heap.size := fun j hj => own_lt HO.out j hj
      have HSL := Lib.hid hslt
      have HVL := Lib.hid hvlt
      have hsw : w.heap.size ≤ wr.heap.size := HT.out.size
      clear hb3 hlent hslt hvlt HT HO HS
      go_wp2_with fail
      refine (feed_calls w3 g ⟨all.length, (fresh.feed all).1.md⟩ hv (some ⟨wr.heap.size, 0, none⟩) (pc.length + 2) pc HS3.out HL3.out.reads (fun a e hn hF => ?_) (by simp only; omega)).mono ?_
      · cases e
        rcases hF with h | h
        · have := HSL.out.1; simp only at h; omega
        · have := HSL.out.2 _ h; simp only at this; omega
      rintro e w4 ⟨o1, hv1, F, rfl, hsp4, hr4, hF4, hh4, ht4⟩
      rw [(feed_md all pc).1] at hsp4
      rw [(feed_md all pc).2] at hr4
      have hnear : ¬ Near g hv wr.heap.size := by
        intro h
        rcases h with h | h
        · have := HSL.out.1; omega
        · have := HSL.out.2 _ h; omega
      have hl4 : Lent w4 wr.heap.size pc := ht4.ownB HL3.out (fun j hj hn => by
        have hj' : wr.heap.size = j := by injection hj
        subst hj'
        exact hnear hn)
      have hown4 : OwnB 5 w4 w.heap.size u5 all := ht4.ownB HO3.out (fun j hj => HE.out j hj)
      have hF4' : ∀ j, F j → w.heap.size ≤ j ∧ j ≠ g ∧ hv1.ownBlock ≠ some j ∧ u5.ownBlock ≠ some j ∧ j ≠ wr.heap.size ∧ j < w4.heap.size := by
        intro j hj
        obtain ⟨h1, h2, h3, h4⟩ := hF4 j hj
        refine ⟨?_, h3, h4, fun hu => ?_, fun hu => ?_, h2⟩
        · rcases h1 with h | h
          · exact HH.out j h
          · omega
        · rcases h1 with h | h
          · exact HE.out j hu (.inr h)
          · have := HVL.out j hu; omega
        · rcases h1 with h | h
          · have := HSL.out.2 j h; omega
          · omega
      have hsep4 : ∀ j, (u5.ownBlock = some j ∨ j = wr.heap.size) → ¬ Near g hv1 j := by
        intro j hj hn
        have hlt : j < w3.heap.size ∧ (u5.ownBlock = some j ∨ j = wr.heap.size) := ⟨by
          rcases hj with h | h
          · have := HVL.out j h; omega
          · omega, hj⟩
        rcases hn with h | h
        · rcases hj with h' | h'
          · exact HE.out j h' (.inl h)
          · have := HSL.out.1; omega
        · rcases hh4 j h with h | h
          · rcases hj with h' | h'
            · exact HE.out j h' (.inr h)
            · have := HSL.out.2 j h; omega
          · omega
      have hh4' : ∀ j, hv1.ownBlock = some j → w.heap.size ≤ j := fun j hj => by
        rcases hh4 j hj with h | h
        · exact HH.out j h
        · omega
      have ht4' : Touch (fun j => w.heap.size ≤ j) w w4 := HT3.out.trans ht4 fun i hi hn => by
        rcases hn with rfl | hn
        · exact hg1
        · exact HH.out i hn
      have hs4 := ht4.size
      have HL4 := Lib.hid hl4
      have HO4 := Lib.hid hown4
      have HF4 := Lib.hid hF4'
      have HE4 := Lib.hid hsep4
      have HH4 := Lib.hid hh4'
      have HT4 := Lib.hid ht4'
      have HS4 := Lib.hid hsp4
      have HR4 := Lib.hid hr4
      clear hl4 hown4 hF4' hsep4 hh4' ht4' hsp4 hr4 hF4 hh4 ht4 hnear HL3 HT3 HO3 HS3 HH HE
      have hsh : ∃ C : Array Value, w4.heap[wr.heap.size]? = some (.cells C 5 (0, 0)) ∧ C.size = pc.length + 2 := by
        rcases HL4.out.2 with ⟨h, _⟩ | ⟨gb, cb, cur, h, _, hgb, _, _, hbs, _⟩
        · cases h
        · injection h with h1 h2 h3
          injection h1 with h1
          injection h1 with h1
          subst h1
          exact ⟨cur, hgb, by omega⟩
      have HSH := Lib.hid hsh
      clear hsh
      generalize wr.heap.size = gl at *
      go_wp2
      go_loopw [30] (fun i wz => ∃ q : Nat, q ≤ pc.length ∧ i = .int .i64 (q : Int) ∧ Touch (At gl) w4 wz ∧ Shaped w4 wz) (fun i _ => pc.length - (intOf i).toNat)
      case atStart => exact ⟨0, Nat.zero_le _, rfl, Touch.refl _ _, Shaped.refl _⟩
      case round =>
        obtain ⟨q, hq, rfl, ht2, hs2⟩ := hrel
        have HT5 := Lib.hid ht2
        have HS5 := Lib.hid hs2
        clear ht2 hs2
        by_cases hqlt : q < pc.length
        · obtain ⟨C, hC, hCs⟩ := HSH.out
          obtain ⟨C2, hC2, hC2s⟩ := HS5.out _ C _ hC
          obtain ⟨x, z1⟩ : ∃ x, wr.cell? ⟨gl, q, none⟩ = some x := ⟨_, by rw [obj_cell hC2 q]; exact Array.getElem?_eq_getElem (show q < C2.size by omega)⟩
          have z2 := obj_frozen hC2 q
          clear hC hCs hC2 hC2s
          go_wp2
          exact ⟨⟨q + 1, by omega, by go_num, HT5.out.set _ _, HS5.out.set _ _ _⟩, by simp [intOf]; omega⟩
        · have hown5 := HT5.out.ownB HO4.out (fun j hj e => by cases e; have := HVL.out _ hj; omega)
          have hsp5 := HS4.out.keep HT5.out (fun e => by have := HSL.out.1; have e' : g = gl := e; omega) (fun j hj e => by cases e; exact HE4.out _ (.inr rfl) (.inr hj))
          have hr5 := HR4.out.keep HT5.out (fun j hj e => (HF4.out j hj).2.2.2.2.1 e)
          have ht5 : Touch (fun j => w.heap.size ≤ j) w wr := HT4.out.trans HT5.out (fun i _ e => by cases e; exact hsw)
          have HO5 := Lib.hid hown5
          have HS6 := Lib.hid hsp5
          have HR5 := Lib.hid hr5
          have HT6 := Lib.hid ht5
          have hs5 := HT5.out.size
          have HE5 := Lib.hid (fun j (hj : u5.ownBlock = some j) => HE4.out j (.inl hj))
          clear hown5 hsp5 hr5 ht5 HT5 HS5 HSH HL4 HO4 HE4 HT4 HS4 HR4
          go_wp2_with (at_builtin; refine wpList_append_bytes (w0 := w) w.heap.size rfl _ _ 28 5 rfl Try.underlying28 info_u8 _ all pc rfl HO5.out bA' bc' rfl ?a1 ?a2 ?a3 ?a4 ?_)
          case a1 => exact HRD.out _ HT6.out
          case a2 => omega
          case a3 => exact HT6.out.size
          case a4 => exact HT6.out.to_below w.heap.size (fun _ h _ => h) (Nat.le_refl _)
          intro v2 w6 hown6 hb6 hg6 hat6
          have T6 : Touch (fun j => u5.ownBlock = some j) wr w6 := Touch.of_grown hg6 fun j h => h
          have hsp6 := HS6.out.keep T6 (fun h => HE5.out g h (.inl rfl)) (fun j hj h => HE5.out j h (.inr hj))
          have hr6 := HR5.out.keep T6 (fun j hj h => (HF4.out j hj).2.2.2.1 h)
          have hsep6 : ∀ j, v2.ownBlock = some j → ¬ Near g hv1 j := by
            intro j hj hn
            rcases hat6 with h | h
            · rw [h] at hj; exact HE5.out j hj hn
            · rw [h] at hj
              injection hj with hj
              have := HS6.out.lt
              rcases hn with h | h
              · omega
              · have := this.2 j h; omega
          have hF6 : ∀ j, F j → v2.ownBlock ≠ some j := by
            intro j hj hv2
            rcases hat6 with h | h
            · rw [h] at hv2; exact (HF4.out j hj).2.2.2.1 hv2
            · rw [h] at hv2
              injection hv2 with hv2
              have := (HF4.out j hj).2.2.2.2.2
              omega
          have T6' : Touch (fun j => w.heap.size ≤ j) w w6 := HT6.out.grown hg6 (fun j hj _ => (HO5.out.lt j hj).1)
          have hn : (runsOf all).length ≤ (runsOf (all ++ pc)).length := by rw [runs_append]; simp
          obtain ⟨all2, hall2⟩ : ∃ all2, all2 = all ++ pc := ⟨_, rfl⟩
          have HLEN := Lib.hid (show all.length + pc.length = all2.length by rw [hall2]; simp)
          have hlen2 : all2.length ≤ 274877906944 := by rw [hall2]; simp; omega
          rw [← hall2] at hown6 hsp6 hr6 hn HFL
          rw [HLEN.out] at hsp6
          obtain ⟨rx, hrx⟩ : ∃ rx, rx = (runsOf all2).drop (runsOf all).length := ⟨_, rfl⟩
          rw [← hrx] at hr6
          generalize (runsOf all).length = n at *
          obtain ⟨V, cv, rfl, hcv, hrv, hcm, _⟩ := hown6.form
          have hr6' := hr6.at
          obtain ⟨X, cx, rfl, hcx, hrxa⟩ := hr6'
          have hle : (runsOf all2).length - n = rx.length := by rw [hrx]; simp
          have hrl2 : (runsOf all2).length ≤ all2.length := feed_count fresh all2
          have hrl3 : rx.length ≤ all2.length := by omega
          have HO6 := Lib.hid hown6
          have HSP6 := Lib.hid hsp6
          have HE6 := Lib.hid hsep6
          have HF6 := Lib.hid hF6
          have HT7 := Lib.hid T6'
          have HRV := Lib.hid hrv
          have HRXA := Lib.hid hrxa
          have HRR := Lib.hid hr6
          have HRX := Lib.hid hrx
          have HLE := Lib.hid hle
          clear hown6 hsp6 hsep6 hF6 T6 T6' hrv hrxa hr6 hrx hle hg6 hb6 hat6 hall2 HO5 HE5 HS6 HR5 HT6
          go_wp2_with fail
          refine (refRuns_calls V cv all2 w6 (by omega) hcv HRV.out).mono ?_
          rintro e w7 ⟨o5, rfl, hrs7, hb7⟩
          obtain ⟨Z1, z1, rfl, hz1, hza⟩ := hrs7.at
          have HK7 := Lib.hid (show Keeps w6 w7 from hb7)
          obtain ⟨Z2, hif⟩ : ∃ Z2, (if z1 = n then Z1 else Option.map (fun x => x.add (n * 2)) Z1) = Z2 := ⟨_, rfl⟩
          have HZ2 := Lib.hid (hza.from hz1 HRX.out hif)
          clear hrs7 hza hb7
          go_wp2_with fail
          rw [HLE.out]
          refine (at_bool (decide_eq_true rfl) (same_calls X Z2 cx (z1 - n) rx rx w7 (by omega) (by omega) (HRXA.out.below HK7.out.below) HZ2.out)).mono ?_
          rintro e w8 ⟨rfl, hq8⟩
          have HK8 := Lib.hid (HK7.out.quiet hq8)
          clear hq8 HK7 HZ2 HLE hif HRXA
          go_wp2_with fail
          refine (at_value (b := heldOf all2) (by rw [heldOf_feed]) (held_any (HSP6.out.below HK8.out.below))).mono ?_
          rintro e w9 ⟨rfl, rfl⟩
          go_wp2_with fail
          refine (refHeld_calls V cv all2 w8 (by omega) (HRV.out.below HK8.out.below)).mono ?_
          rintro e w9 ⟨rfl, rfl⟩
          go_wp2_with fail
          refine (at_any (HSP6.out.below HK8.out.below)).mono ?_
          rintro e w9 ⟨rfl, rfl⟩
          go_wp2_with fail
          refine (spoils_calls F _ rx w8 (HRR.out.below HK8.out.below)).mono ?_
          rintro e w9 ⟨rfl, ht9⟩
          have ho9 := ht9.ownB (OwnB.below HO6.out HK8.out.below) (fun j hj hF => HF6.out j hF hj)
          have hs9 := (HSP6.out.below HK8.out.below).keep ht9 (fun hF => (HF4.out g hF).2.1 rfl) (fun j hj hF => (HF4.out j hF).2.2.1 hj)
          have ht9' : Touch (fun j => w.heap.size ≤ j) w w9 := (HT7.out.below HK8.out.below).trans ht9 (fun j _ hF => (HF4.out j hF).1)
          have HO9 := Lib.hid ho9
          have HS9 := Lib.hid hs9
          have HT9 := Lib.hid ht9'
          clear ho9 hs9 ht9 ht9' HO6 HSP6 HK8 HRR HRV HT7
          go_wp2
          refine ⟨⟨k + 1, hv1, by omega, by go_num, ?_, ?_, HH4.out, HE6.out, ?_, HT9.out⟩, by simp [intOf]; omega⟩
          · rw [HFL.out]; exact HO9.out
          · rw [HFL.out]; exact HS9.out
          · rw [HFL.out]
    · have HP := Lib.hid (HT.out.to_below w.heap.size (fun _ h _ => h) (Nat.le_refl _))
      clear HO HS HH HE HT
      go_wp2
      go_ret
      exact ⟨rfl, HP.out⟩
end Go.Proofs.Ytnfefjlplipeiaa
