/-
  The walk of the law SplitClones: it returns true, and what was there before is as it was. Condition: the arguments read as lists of bytes, together of at most 2^38.
-/
import Derived.Test.YtnfefjlplipeiaaSplitJoins
import Derived.Test.YtnfefjlplipeiaaSplitClone
namespace Go.Proofs.Ytnfefjlplipeiaa
open Go.RowKit Go.BigFrame
set_option linter.unusedVariables false
set_option linter.unusedSimpArgs false

theorem SpAt.below {w w' : World} {g pos : Nat} {md : Option Run} {hv : Value} (h : SpAt w g pos md hv) (hb : Below w.heap.size w w') : SpAt w' g pos md hv :=
  h.keep (F := fun _ => False) (Touch.of_below hb fun k hk hb => absurd hk (by omega)) (fun h => h) (fun _ _ h => h)
theorem OwnRuns.below {w w' : World} {F : Nat → Prop} {v : Value} {rs : List Run} (h : OwnRuns w F v rs) (hb : Below w.heap.size w w') : OwnRuns w' F v rs :=
  h.keep (G := fun _ => False) (Touch.of_below hb fun k hk hb => absurd hk (by omega)) (fun _ _ h => h)
theorem heldOf_feed (l : List UInt8) : heldOf l = heldLen (fresh.feed l).1.md := by
  unfold heldOf heldLen
  cases (fresh.feed l).1.md <;> rfl
theorem feed_md (a b : List UInt8) : ((⟨a.length, (fresh.feed a).1.md⟩ : Sp).feed b).1.md = (fresh.feed (a ++ b)).1.md ∧ ((⟨a.length, (fresh.feed a).1.md⟩ : Sp).feed b).2 = (runsOf (a ++ b)).drop (runsOf a).length := by
  have e : (⟨a.length, (fresh.feed a).1.md⟩ : Sp) = (fresh.feed a).1 := by have := feed_eta fresh a; simpa [fresh] using this
  rw [e]
  exact ⟨by rw [feed_append], feed_runs a b⟩

/-- runs from the n-th on -/
theorem RunsAt.from {w : World} {Z Z2 : Option Addr} {rs rx : List Run} {z n : Nat} (h : RunsAt w Z rs) (hz : rs.length ≤ z) (hx : rx = rs.drop n) (hif : (if z = n then Z else Option.map (fun x => x.add (n * 2)) Z) = Z2) : RunsAt w Z2 rx := by
  subst hx
  intro i hi
  have hi' : n + i < rs.length := by simp at hi; omega
  obtain ⟨g, o, rfl, h1, bA, bc, h2, h3⟩ := h (n + i) hi'
  rw [if_neg (by omega)] at hif
  simp only [Option.map_some, addr_add_mk] at hif
  rw [List.getElem_drop]
  refine ⟨g, o + n * 2, hif.symm, ?_, bA, bc, ?_, h3⟩
  · rw [show o + n * 2 + i * 2 = o + (n + i) * 2 by omega]; exact h1
  · rw [show o + n * 2 + i * 2 + 1 = o + (n + i) * 2 + 1 by omega]; exact h2

/-- bytes that lie elsewhere are fed -/
theorem feed_arg (w0 w : World) (B g : Nat) (s : Sp) (hv : Value) (A : Option Addr) (cap : Nat) (l : List UInt8) (hA : Reads w0 A l) (hB : w0.heap.size ≤ B) (hBg : B ≤ g) (hh : ∀ k, hv.ownBlock = some k → B ≤ k) (ht : Touch (fun j => B ≤ j) w0 w) (hs : SpAt w g s.pos s.md hv) (hl : s.pos + l.length ≤ 1099511627776) :
    Calls Try.prog 19 #[.pointer (some ⟨g, 0, none⟩), .slice A l.length cap] w fun e w' =>
      ∃ out hv', e = .returned out ∧ SpAt w' g (s.pos + l.length) (s.feed l).1.md hv' ∧ (∀ k, hv'.ownBlock = some k → hv.ownBlock = some k ∨ w.heap.size ≤ k) ∧ Touch (Near g hv) w w' ∧
        OwnRuns w' (fun j => (hv.ownBlock = some j ∨ w.heap.size ≤ j) ∧ j < w'.heap.size ∧ j ≠ g ∧ hv'.ownBlock ≠ some j) out (s.feed l).2 := by
  have hlow : ∀ a, A = some a → l ≠ [] → a.block < w0.heap.size := by
    intro a e h
    obtain ⟨ad, e1, hc⟩ := hA.out 0 (List.length_pos_iff.2 h)
    rw [e] at e1
    cases e1
    have := World.block_lt_of_cell? w0 _ hc
    rwa [addr_add_block] at this
  refine (feed_calls w g s hv A cap l hs (ht.reads hA fun a e h hF => ?_) (fun a e h hn => ?_) hl).mono ?_
  · have := hlow a e h; omega
  · have := hlow a e h
    rcases hn with hn | hn
    · omega
    · have := hh _ hn; omega
  · rintro e w' ⟨out, hv', F, rfl, h1, h2, h3, h4, h5⟩
    exact ⟨out, hv', rfl, h1, h4, h5, h2.mono fun k hk => h3 k hk⟩

set_option maxHeartbeats 2000000 in
theorem clones_calls (A B C : Option Addr) (ca cb cc : Nat) (a b c : List UInt8) (w : World) (hl : a.length + b.length + c.length ≤ 274877906944) (hca : a.length ≤ ca) (ha : Reads w A a) (hb : Reads w B b) (hc : Reads w C c) :
    Calls Try.prog 8 #[.slice A a.length ca, .slice B b.length cb, .slice C c.length cc] w fun e w' => e = .returned (.bool true) ∧ Below w.heap.size w w' := by
  have HA := Lib.hid ha
  have HB := Lib.hid hb
  have HC := Lib.hid hc
  clear ha hb hc
  go_enter Try.func8, Try.ntmps8
  go_wp2_with fail
  refine (live_calls _).mono ?_
  rintro e w1 ⟨rfl, hb1⟩
  have H1 := Lib.hid (Keeps.of hb1)
  clear hb1
  go_wp2_with fail
  refine (splitNew_calls _).mono ?_
  rintro e w2 ⟨rfl, hw2⟩
  have hsp : SpAt w2 w1.heap.size 0 none (.slice none 0 0) := by
    subst hw2
    exact ⟨rfl, 0, obj_new w1 _⟩
  have ht2 : Touch (fun j => w.heap.size ≤ j) w w2 := by subst hw2; exact (Touch.of_below H1.out.below (fun _ _ h => h)).alloc _
  have HSP := Lib.hid hsp
  have HT2 := Lib.hid ht2
  have hg1 : w.heap.size ≤ w1.heap.size := H1.out.size
  clear hsp ht2 hw2 H1
  go_wp2_with fail
  refine (feed_arg w w2 w.heap.size w1.heap.size fresh (.slice none 0 0) A ca a HA.out (Nat.le_refl _) hg1 (fun k h => (nil_block k h).elim) HT2.out HSP.out (by simp [fresh]; omega)).mono ?_
  rintro e w3 ⟨o1, hv1, rfl, hsp3, hh3, ht3, hr3⟩
  have hsp3' : SpAt w3 w1.heap.size a.length (fresh.feed a).1.md hv1 := by simpa [fresh] using hsp3
  have hh3' : ∀ k, hv1.ownBlock = some k → w.heap.size ≤ k := fun k hk => by
    rcases hh3 k hk with h | h
    · exact (nil_block k h).elim
    · exact Nat.le_trans HT2.out.size h
  have ht3' : Touch (fun j => w.heap.size ≤ j) w w3 := HT2.out.trans ht3 fun i hi hn => by
    rcases hn with rfl | hn
    · exact hg1
    · exact (nil_block i hn).elim
  have HSP3 := Lib.hid hsp3'
  have HH3 := Lib.hid hh3'
  have HT3 := Lib.hid ht3'
  clear hsp3 hsp3' hh3 hh3' ht3 ht3' hr3 HSP HT2
  go_wp2_with fail
  refine (clone_calls w1.heap.size a.length _ hv1 w3 HSP3.out).mono ?_
  rintro e w4 ⟨g2, hv2, rfl, hsp4, hg2, hh4, hb4⟩
  have hlt3 := HSP3.out.lt
  have hlt4 := hsp4.lt
  have HLT3 := Lib.hid hlt3
  have HLT4 := Lib.hid hlt4
  have HSP4 := Lib.hid hsp4
  have HH4 := Lib.hid hh4
  have HSP3b := Lib.hid (HSP3.out.below hb4)
  have HT4 := Lib.hid (HT3.out.below hb4)
  have hs34 : w3.heap.size ≤ w4.heap.size := hb4.size
  have hs3 : w.heap.size ≤ w3.heap.size := HT3.out.size
  clear hlt3 hlt4 hsp4 hh4 hb4 HSP3 HT3
  go_wp2_with fail
  refine (feed_arg w w4 w.heap.size w1.heap.size ⟨a.length, (fresh.feed a).1.md⟩ hv1 B cb b HB.out (Nat.le_refl _) hg1 HH3.out HT4.out HSP3b.out (by simp only; omega)).mono ?_
  rintro e w5 ⟨o2, hv3, rfl, hsp5, hh5, ht5, hr5⟩
  rw [(feed_md a b).1] at hsp5
  rw [(feed_md a b).2] at hr5
  have hfar : ∀ k, (k = g2 ∨ hv2.ownBlock = some k) → ¬ Near w1.heap.size hv1 k := by
    intro k hk hn
    have h1 : w3.heap.size ≤ k := by
      rcases hk with rfl | hk
      · exact hg2
      · exact HH4.out k hk
    have h2 : k < w3.heap.size := by
      rcases hn with rfl | hn
      · exact HLT3.out.1
      · exact HLT3.out.2 k hn
    omega
  have hsp4b : SpAt w5 g2 a.length (fresh.feed a).1.md hv2 := HSP4.out.keep ht5 (hfar g2 (.inl rfl)) (fun k hk => hfar k (.inr hk))
  have ht5' : Touch (fun j => w.heap.size ≤ j) w w5 := HT4.out.trans ht5 fun i hi hn => by
    rcases hn with rfl | hn
    · exact hg1
    · exact HH3.out i hn
  have hs5 := ht5.size
  have HSP5 := Lib.hid hsp5
  have HH5 := Lib.hid hh5
  have HR5 := Lib.hid hr5
  have HSP4b := Lib.hid hsp4b
  have HT5 := Lib.hid ht5'
  clear hsp5 hh5 hr5 hsp4b ht5 ht5' hfar HSP3b HSP4 HT4
  go_wp2_with fail
  refine (feed_arg w w5 w.heap.size g2 ⟨a.length, (fresh.feed a).1.md⟩ hv2 C cc c HC.out (Nat.le_refl _) (Nat.le_trans hs3 hg2) (fun k hk => Nat.le_trans hs3 (HH4.out k hk)) HT5.out HSP4b.out (by simp only; omega)).mono ?_
  rintro e w6 ⟨o3, hv4, rfl, hsp6, hh6, ht6, hr6⟩
  rw [(feed_md a c).1] at hsp6
  rw [(feed_md a c).2] at hr6
  have hfar : ∀ k, (hv1.ownBlock = some k ∨ w4.heap.size ≤ k) → ¬ Near g2 hv2 k := by
    intro k hk hn
    have h1 : w3.heap.size ≤ k ∧ k < w4.heap.size := by
      rcases hn with rfl | hn
      · exact ⟨hg2, HLT4.out.1⟩
      · exact ⟨HH4.out k hn, HLT4.out.2 k hn⟩
    rcases hk with h | h
    · have := HLT3.out.2 k h; omega
    · omega
  have hfar1 : ¬ Near g2 hv2 w1.heap.size := by
    intro hn
    have h1 : w3.heap.size ≤ w1.heap.size := by
      rcases hn with h | hn
      · omega
      · exact HH4.out _ hn
    have := HLT3.out.1
    omega
  have hsp5b := HSP5.out.keep ht6 hfar1 (fun k hk => hfar k (HH5.out k hk))
  have hr5b := HR5.out.keep ht6 (fun k hk => hfar k hk.1)
  have ht6' : Touch (fun j => w.heap.size ≤ j) w w6 := HT5.out.trans ht6 fun i hi hn => by
    rcases hn with rfl | hn
    · exact Nat.le_trans hs3 hg2
    · exact Nat.le_trans hs3 (HH4.out i hn)
  obtain ⟨rx, hrx⟩ : ∃ rx, rx = (runsOf (a ++ b)).drop (runsOf a).length := ⟨_, rfl⟩
  obtain ⟨ry, hry⟩ : ∃ ry, ry = (runsOf (a ++ c)).drop (runsOf a).length := ⟨_, rfl⟩
  rw [← hrx] at hr5b
  rw [← hry] at hr6
  have HRX := Lib.hid hrx
  have HRY := Lib.hid hry
  clear hrx hry
  obtain ⟨X, cx, rfl, hcx, hxa⟩ := hr5b.at
  obtain ⟨Y, cy, rfl, hcy, hya⟩ := hr6.at
  have HSX := Lib.hid hsp5b
  have HSY := Lib.hid hsp6
  have HX := Lib.hid hxa
  have HY := Lib.hid hya
  have HK := Lib.hid (show Keeps w w6 from ht6'.to_below w.heap.size (fun _ h _ => h) (Nat.le_refl _))
  clear hsp5b hsp6 hxa hya hr5b hr6 ht6 ht6' hh6 hfar hfar1 HSP5 HH5 HR5 HSP4b HT5 HLT3 HLT4 HH3 HH4
  go_wp2_with fail
  refine (refRuns_calls A ca a w6 (by omega) hca (HA.out.below HK.out.below)).mono ?_
  rintro e w7 ⟨o4, rfl, hrs7, hb7⟩
  obtain ⟨Z, cz, rfl, _, _⟩ := hrs7.at
  have HK7 := Lib.hid (HK.out.trans hb7)
  have HSX7 := Lib.hid (HSX.out.below hb7)
  have HSY7 := Lib.hid (HSY.out.below hb7)
  have HX7 := Lib.hid (HX.out.below hb7)
  have HY7 := Lib.hid (HY.out.below hb7)
  clear hrs7 hb7 HK HSX HSY HX HY
  go_wp2_with (at_builtin; refine wpList_append_bytes (w0 := w7) w7.heap.size rfl _ _ 28 5 rfl Try.underlying28 info_u8 _ [] a rfl (OwnB.nil 5 _ _) A ca rfl ?a1 ?a2 ?a3 ?a4 ?_)
  case a1 => exact HA.out.below HK7.out.below
  case a2 => show 0 + _ ≤ _; omega
  case a3 => exact Nat.le_refl _
  case a4 => exact Keeps.refl _
  intro v1 w8 (hown : OwnB 5 w8 w7.heap.size v1 a) hb8 hg8 _
  have HK8 := Lib.hid (show Keeps w7 w8 from hb8)
  have HO := Lib.hid hown
  clear hb8 hown hg8
  go_wp2_with (at_builtin; refine wpList_append_bytes (w0 := w7) w7.heap.size rfl _ _ 28 5 rfl Try.underlying28 info_u8 _ a b rfl HO.out B cb rfl ?b1 ?b2 ?b3 ?b4 ?_)
  case b1 => exact HB.out.below (HK7.out.trans HK8.out).below
  case b2 => omega
  case b3 => exact HK8.out.size
  case b4 => exact HK8.out
  intro v2 w9 hown hb9 hg9 _
  obtain ⟨one, hone⟩ : ∃ one, one = a ++ b := ⟨_, rfl⟩
  rw [← hone] at hown
  have HLX := Lib.hid (show a.length + b.length = one.length by rw [hone]; simp)
  have hl1 : one.length ≤ 274877906944 := by rw [hone]; simp; omega
  have hn1 : (runsOf a).length ≤ (runsOf one).length := by rw [hone, runs_append]; simp
  rw [← hone] at HSX7 HRX
  clear hone HO HK8 hg9
  obtain ⟨O1, c1, rfl, hc1, hr1, _, _⟩ := hown.form
  have HK9 := Lib.hid (HK7.out.trans hb9)
  have HR1 := Lib.hid hr1
  have HSX9 := Lib.hid (HSX7.out.below hb9)
  have HSY9 := Lib.hid (HSY7.out.below hb9)
  have HX9 := Lib.hid (HX7.out.below hb9)
  have HY9 := Lib.hid (HY7.out.below hb9)
  clear hown hr1 hb9 HK7 HSX7 HSY7 HX7 HY7
  go_wp2_with (at_builtin; refine wpList_append_bytes (w0 := w9) w9.heap.size rfl _ _ 28 5 rfl Try.underlying28 info_u8 _ [] a rfl (OwnB.nil 5 _ _) A ca rfl ?d1 ?d2 ?d3 ?d4 ?_)
  case d1 => exact HA.out.below HK9.out.below
  case d2 => show 0 + _ ≤ _; omega
  case d3 => exact Nat.le_refl _
  case d4 => exact Keeps.refl _
  intro v1 w10 (hown : OwnB 5 w10 w9.heap.size v1 a) hb10 hg10 _
  have HK10 := Lib.hid (show Keeps w9 w10 from hb10)
  have HO := Lib.hid hown
  clear hb10 hown hg10
  go_wp2_with (at_builtin; refine wpList_append_bytes (w0 := w9) w9.heap.size rfl _ _ 28 5 rfl Try.underlying28 info_u8 _ a c rfl HO.out C cc rfl ?e1 ?e2 ?e3 ?e4 ?_)
  case e1 => exact HC.out.below (HK9.out.trans HK10.out).below
  case e2 => omega
  case e3 => exact HK10.out.size
  case e4 => exact HK10.out
  intro v2 w11 hown hb11 hg11 _
  obtain ⟨two, htwo⟩ : ∃ two, two = a ++ c := ⟨_, rfl⟩
  rw [← htwo] at hown
  have HLY := Lib.hid (show a.length + c.length = two.length by rw [htwo]; simp)
  have hl2 : two.length ≤ 274877906944 := by rw [htwo]; simp; omega
  have hn2 : (runsOf a).length ≤ (runsOf two).length := by rw [htwo, runs_append]; simp
  rw [← htwo] at HSY9 HRY
  clear htwo HO HK10 hg11
  obtain ⟨O2, c2, rfl, hc2, hr2, _, _⟩ := hown.form
  have HK11 := Lib.hid (HK9.out.trans hb11)
  have HR1b := Lib.hid (HR1.out.below hb11)
  have HR2 := Lib.hid hr2
  have HSX11 := Lib.hid (HSX9.out.below hb11)
  have HSY11 := Lib.hid (HSY9.out.below hb11)
  have HX11 := Lib.hid (HX9.out.below hb11)
  have HY11 := Lib.hid (HY9.out.below hb11)
  clear hown hr2 hb11 HK9 HSX9 HSY9 HX9 HY9 HR1 HA HB HC
  have hca := feed_count fresh a
  generalize hnn : (runsOf a).length = n at *
  clear hnn
  go_wp2_with fail
  refine (refRuns_calls O1 c1 one w11 (by omega) hc1 HR1b.out).mono ?_
  rintro e w12 ⟨o5, rfl, hrs12, hb12⟩
  obtain ⟨Z1, z1, rfl, hz1, hza⟩ := hrs12.at
  have HK12 := Lib.hid (HK11.out.trans hb12)
  have HR1c := Lib.hid (HR1b.out.below hb12)
  have HR2b := Lib.hid (HR2.out.below hb12)
  have HSX12 := Lib.hid (HSX11.out.below hb12)
  have HSY12 := Lib.hid (HSY11.out.below hb12)
  have HX12 := Lib.hid (HX11.out.below hb12)
  have HY12 := Lib.hid (HY11.out.below hb12)
  clear hrs12 hb12 HK11 HR1b HR2 HSX11 HSY11 HX11 HY11
  obtain ⟨Z2, hif⟩ : ∃ Z2, (if z1 = n then Z1 else Option.map (fun x => x.add (n * 2)) Z1) = Z2 := ⟨_, rfl⟩
  have HZ1 := Lib.hid (hza.from hz1 HRX.out hif)
  have hle : (runsOf one).length - n = rx.length := by rw [HRX.out]; simp
  have hrl : (runsOf one).length ≤ one.length := feed_count fresh one
  have hrl2 : (runsOf two).length ≤ two.length := feed_count fresh two
  have hrx : rx.length ≤ one.length := by omega
  have HLE := Lib.hid hle
  clear hza hle
  go_wp2_with fail
  rw [HLE.out]
  refine (at_bool (decide_eq_true rfl) (same_calls X Z2 cx (z1 - n) rx rx w12 (by omega) (by omega) HX12.out HZ1.out)).mono ?_
  rintro e w13 ⟨rfl, hq13⟩
  have hb13 := hq13.below w12.heap.size
  have HK13 := Lib.hid (HK12.out.trans hb13)
  have HR1d := Lib.hid (HR1c.out.below hb13)
  have HR2c := Lib.hid (HR2b.out.below hb13)
  have HSX13 := Lib.hid (HSX12.out.below hb13)
  have HSY13 := Lib.hid (HSY12.out.below hb13)
  have HY13 := Lib.hid (HY12.out.below hb13)
  clear hq13 hb13 HK12 HR1c HR2b HSX12 HSY12 HX12 HY12 HZ1 HLE hif
  go_wp2_with fail
  refine (refRuns_calls O2 c2 two w13 (by omega) hc2 HR2c.out).mono ?_
  rintro e w14 ⟨o6, rfl, hrs14, hb14⟩
  obtain ⟨Z3, z3, rfl, hz3, hza⟩ := hrs14.at
  have HK14 := Lib.hid (HK13.out.trans hb14)
  have HR1e := Lib.hid (HR1d.out.below hb14)
  have HR2d := Lib.hid (HR2c.out.below hb14)
  have HSX14 := Lib.hid (HSX13.out.below hb14)
  have HSY14 := Lib.hid (HSY13.out.below hb14)
  have HY14 := Lib.hid (HY13.out.below hb14)
  clear hrs14 hb14 HK13 HR1d HR2c HSX13 HSY13 HY13
  obtain ⟨Z4, hif⟩ : ∃ Z4, (if z3 = n then Z3 else Option.map (fun x => x.add (n * 2)) Z3) = Z4 := ⟨_, rfl⟩
  have HZ3 := Lib.hid (hza.from hz3 HRY.out hif)
  have hle : (runsOf two).length - n = ry.length := by rw [HRY.out]; simp
  have hry : ry.length ≤ two.length := by omega
  have HLE := Lib.hid hle
  clear hza hle
  go_wp2_with fail
  rw [HLE.out]
  refine (at_bool (decide_eq_true rfl) (same_calls Y Z4 cy (z3 - n) ry ry w14 (by omega) (by omega) HY14.out HZ3.out)).mono ?_
  rintro e w15 ⟨rfl, hq15⟩
  have hb15 := hq15.below w14.heap.size
  have HK15 := Lib.hid (HK14.out.trans hb15)
  have HR1f := Lib.hid (HR1e.out.below hb15)
  have HR2e := Lib.hid (HR2d.out.below hb15)
  have HSX15 := Lib.hid (HSX14.out.below hb15)
  have HSY15 := Lib.hid (HSY14.out.below hb15)
  clear hq15 hb15 HK14 HR1e HR2d HSX14 HSY14 HY14 HZ3 HLE hif
  go_wp2_with fail
  refine (at_value (b := heldOf one) (by rw [heldOf_feed]) (held_any HSX15.out)).mono ?_
  rintro e w16 ⟨rfl, rfl⟩
  go_wp2_with fail
  refine (refHeld_calls O1 c1 one w15 (by omega) HR1f.out).mono ?_
  rintro e w16 ⟨rfl, rfl⟩
  go_wp2_with fail
  refine (at_value (b := heldOf two) (by rw [heldOf_feed]) (held_any HSY15.out)).mono ?_
  rintro e w16 ⟨rfl, rfl⟩
  go_wp2_with fail
  refine (refHeld_calls O2 c2 two w15 (by omega) HR2e.out).mono ?_
  rintro e w16 ⟨rfl, rfl⟩
  go_wp2_with fail
  refine (at_value (b := one.length) (by rw [HLX.out]) (at_any HSX15.out)).mono ?_
  rintro e w16 ⟨rfl, rfl⟩
  go_wp2_with fail
  refine (at_value (b := two.length) (by rw [HLY.out]) (at_any HSY15.out)).mono ?_
  rintro e w16 ⟨rfl, rfl⟩
  go_wp2
  go_ret
  exact ⟨rfl, HK15.out.below⟩
end Go.Proofs.Ytnfefjlplipeiaa
