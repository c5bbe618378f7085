/-
  The walk of the law SplitJoins: it returns true, and what was there before is as it was. Condition: the arguments read as lists of bytes, together of at most 2^38.
-/
import Derived.Test.YtnfefjlplipeiaaSplitLive
import Derived.Test.YtnfefjlplipeiaaSplitMore
namespace Go.Proofs.Ytnfefjlplipeiaa
open Go.RowKit Go.BigFrame
set_option linter.unusedVariables false
set_option linter.unusedSimpArgs false

theorem RunsAt.below {w w' : World} {A : Option Addr} {rs : List Run} (h : RunsAt w A rs) (hb : Below w.heap.size w w') : RunsAt w' A rs := by
  intro i hi
  obtain ⟨g, o, e, h1, bA, bc, h2, h3⟩ := h i hi
  exact ⟨g, o, e, by rw [hb.cell (World.block_lt_of_cell? w _ h1)]; exact h1, bA, bc, by rw [hb.cell (World.block_lt_of_cell? w _ h2)]; exact h2, h3.below hb⟩

set_option maxHeartbeats 2000000 in
theorem joins_calls (A B : Option Addr) (ca cb : Nat) (a b : List UInt8) (w : World) (hl : a.length + b.length ≤ 274877906944) (ha : Reads w A a) (hb : Reads w B b) :
    Calls Try.prog 7 #[.slice A a.length ca, .slice B b.length cb] w fun e w' => e = .returned (.bool true) ∧ Below w.heap.size w w' := by
  have HA := Lib.hid ha
  have HB := Lib.hid hb
  clear ha hb
  go_enter Try.func7, Try.ntmps7
  go_wp2_with fail
  refine (live_calls _).mono ?_
  rintro e w1 ⟨rfl, hb1⟩
  have H1 := Lib.hid (Keeps.of hb1)
  clear hb1
  go_wp2_with (at_builtin; refine wpList_append_bytes (w0 := w) w.heap.size rfl _ _ 28 5 rfl Try.underlying28 info_u8 _ [] a rfl (OwnB.nil 5 _ _) A ca rfl ?a1 ?a2 ?a3 ?a4 ?_)
  case a1 => exact HA.out.below H1.out.below
  case a2 => simp; omega
  case a3 => exact H1.out.size
  case a4 => exact H1.out
  intro v1 w2 (hown : OwnB 5 w2 w.heap.size v1 a) hb2 hg2 _
  have H2 := Lib.hid (Keeps.of hb2)
  have HO := Lib.hid hown
  clear hb2 hown hg2 H1
  go_wp2_with (at_builtin; refine wpList_append_bytes (w0 := w) w.heap.size rfl _ _ 28 5 rfl Try.underlying28 info_u8 _ a [0] rfl ?b0 _ 1 rfl ?b1 ?b2 ?b3 ?b4 ?_)
  case b0 => exact HO.out.below ((Below.refl _ _).alloc (Nat.le_refl _) _)
  case b1 => exact Reads.new_at _ [0] 5 (0, 0) #[.int .u8 0] rfl _ (by simp)
  case b2 => simp; omega
  case b3 => have := H2.out.size; simp; omega
  case b4 => exact H2.out.alloc _
  intro v2 w3 hown hb3 hg3 _
  obtain ⟨one, hone⟩ : ∃ one, one = a ++ [0] := ⟨_, rfl⟩
  rw [← hone] at hown
  have HONE := Lib.hid hone
  have hl1 : one.length ≤ 549755813889 := by rw [hone]; simp; omega
  clear hone
  obtain ⟨O1, c1, rfl, _, hr1, hc1, _⟩ := hown.form
  have H3 := Lib.hid (Keeps.of hb3)
  have HR1 := Lib.hid hr1
  clear hb3 hr1 hown hg3 H2 HO
  go_wp2_with (at_builtin; refine wpList_append_bytes (w0 := w3) w3.heap.size rfl _ _ 28 5 rfl Try.underlying28 info_u8 _ [0] b rfl ?d0 B cb rfl ?d1 ?d2 ?d3 ?d4 ?_)
  case d0 => exact OwnB.lit 5 w3 w3.heap.size [0] #[.int .u8 0] rfl (Nat.le_refl _) (by decide)
  case d1 => exact HB.out.below (H3.out.alloc _).below
  case d2 => simp; omega
  case d3 => simp
  case d4 => exact (Keeps.refl _).alloc _
  intro v3 w4 (hown : OwnB 5 w4 w3.heap.size v3 ([0] ++ b)) hb4 hg4 _
  obtain ⟨two, htwo⟩ : ∃ two, two = [0] ++ b := ⟨_, rfl⟩
  rw [← htwo] at hown
  have HTWO := Lib.hid htwo
  have hl2 : two.length ≤ 549755813889 := by rw [htwo]; simp; omega
  clear htwo
  obtain ⟨O2, c2, rfl, _, hr2, hc2, _⟩ := hown.form
  have H4 := Lib.hid (H3.out.trans hb4)
  have HR2 := Lib.hid hr2
  have HR1b := Lib.hid (HR1.out.below hb4)
  clear hb4 hr2 hown hg4 H3 HR1
  go_wp2_with (at_builtin; refine wpList_append_bytes (w0 := w4) w4.heap.size rfl _ _ 28 5 rfl Try.underlying28 info_u8 _ [] one rfl ?e0 O1 c1 rfl ?e1 ?e2 ?e3 ?e4 ?_)
  case e0 => exact OwnB.nil 5 _ _
  case e1 => exact HR1b.out
  case e2 => show 0 + _ ≤ _; omega
  case e3 => exact Nat.le_refl _
  case e4 => exact Keeps.refl _
  intro v4 w5 (hown : OwnB 5 w5 w4.heap.size v4 one) hb5 hg5 _
  have HB5 := Lib.hid (Keeps.of hb5)
  have HO := Lib.hid hown
  clear hb5 hown hg5
  go_wp2_with (at_builtin; refine wpList_append_bytes (w0 := w4) w4.heap.size rfl _ _ 28 5 rfl Try.underlying28 info_u8 _ one b rfl ?f0 B cb rfl ?f1 ?f2 ?f3 ?f4 ?_)
  case f0 => exact HO.out
  case f1 => exact HB.out.below (H4.out.trans HB5.out).below
  case f2 => omega
  case f3 => exact HB5.out.size
  case f4 => exact HB5.out
  intro v5 w6 hown hb6 hg6 _
  obtain ⟨all, hall⟩ : ∃ all, all = one ++ b := ⟨_, rfl⟩
  rw [← hall] at hown
  have HALL := Lib.hid (show all = (a ++ [0]) ++ b by rw [hall, HONE.out])
  have hl3 : all.length ≤ 1099511627776 := by rw [hall]; simp; omega
  clear hall
  obtain ⟨O3, c3, rfl, _, hr3, hc3, _⟩ := hown.form
  have H6 := Lib.hid (H4.out.trans hb6)
  have HR1c := Lib.hid (HR1b.out.below hb6)
  have HR2b := Lib.hid (HR2.out.below hb6)
  have HR3 := Lib.hid hr3
  clear hb6 hr3 hown hg6 H4 HB5 HR1b HR2 HO
  go_wp2_with fail
  refine (runs_calls O3 c3 all w6 (by omega) HR3.out).mono ?_
  rintro e w7 ⟨o1, rfl, hrs1, hb7⟩
  obtain ⟨P1, q1, rfl, hq1, hra1⟩ := hrs1.at
  have H7 := Lib.hid (H6.out.trans hb7)
  have HR1d := Lib.hid (HR1c.out.below hb7)
  have HR2c := Lib.hid (HR2b.out.below hb7)
  have HP1 := Lib.hid hra1
  clear hrs1 hra1 hb7 H6 HR1c HR2b HR3
  go_wp2_with fail
  refine (runs_calls O1 c1 one w7 (by omega) HR1d.out).mono ?_
  rintro e w8 ⟨o2, rfl, hrs2, hb8⟩
  obtain ⟨P2, q2, rfl, hq2, hra2⟩ := hrs2.at
  have H8 := Lib.hid (H7.out.trans hb8)
  have HR2d := Lib.hid (HR2c.out.below hb8)
  have HP2 := Lib.hid hra2
  have HP1b := Lib.hid (HP1.out.below hb8)
  clear hrs2 hra2 hb8 H7 HR2c HR1d HP1
  go_wp2_with fail
  refine (runs_calls O2 c2 two w8 (by omega) HR2d.out).mono ?_
  rintro e w9 ⟨o3, rfl, hrs3, hb9⟩
  obtain ⟨P3, q3, rfl, hq3, hra3⟩ := hrs3.at
  have H9 := Lib.hid (H8.out.trans hb9)
  have HP3 := Lib.hid hra3
  have HP2b := Lib.hid (HP2.out.below hb9)
  have HP1c := Lib.hid (HP1b.out.below hb9)
  clear hrs3 hra3 hb9 H8 HR2d HP2 HP1b
  have hlen := joins_length a b
  rw [← HALL.out, ← HONE.out, ← HTWO.out] at hlen
  have hn1 : (runsOf all).length ≤ all.length := feed_count fresh all
  have hn2 : (runsOf one).length ≤ one.length := feed_count fresh one
  have hn3 : (runsOf two).length ≤ two.length := feed_count fresh two
  have hneq : (((runsOf all).length : Int) != ((runsOf one).length : Int) + ((runsOf two).length : Int)) = false := by rw [hlen]; simp
  have HX := Lib.hid hlen
  clear hlen
  have hbo : ∀ i (hi : i < (runsOf one).length), ((runsOf one)[i]'hi).1 ≤ one.length := fun i hi => by have := runs_at_lt one i hi; omega
  have hbt : ∀ i (hi : i < (runsOf two).length), ((runsOf two)[i]'hi).1 ≤ two.length := fun i hi => by have := runs_at_lt two i hi; omega
  have hjl : ∀ i (h : i < (runsOf all).length) (h1 : i < (runsOf one).length), (runsOf all)[i]'h = (runsOf one)[i]'h1 := by
    rw [HALL.out, HONE.out]; exact joins_left a b
  have hjr : ∀ i (h : i < (runsOf all).length) (h1 : (runsOf one).length ≤ i) (h2 : i - (runsOf one).length < (runsOf two).length), (runsOf all)[i]'h = shr a.length ((runsOf two)[i - (runsOf one).length]'h2) := by
    rw [HALL.out, HONE.out, HTWO.out]; exact joins_right a b
  have HBO := Lib.hid hbo
  have HBT := Lib.hid hbt
  have HJL := Lib.hid hjl
  have HJR := Lib.hid hjr
  clear hbo hbt hjl hjr HALL HONE HTWO
  generalize runsOf all = ra at *
  generalize runsOf one = ro at *
  generalize runsOf two = rt at *
  go_wp2
  go_loopw [41] (fun i wr => ∃ k : Nat, k ≤ ra.length ∧ i = .int .i64 k ∧ Keeps w9 wr) (fun i _ => ra.length - (intOf i).toNat)
  case atStart => exact ⟨0, Nat.zero_le _, rfl, Keeps.refl _⟩
  case round =>
    obtain ⟨k, hk, rfl, hkeep⟩ := hrel
    have HK := Lib.hid hkeep
    clear hkeep
    by_cases hlt : k < ra.length
    · obtain ⟨g1, f1, rfl, x1, A1, m1, x2, x3⟩ := (HP1c.out.below HK.out.below) k hlt
      by_cases hlo : k < ro.length
      · obtain ⟨g2, f2, rfl, y1, A2, m2, y2, y3⟩ := (HP2b.out.below HK.out.below) k hlo
        have he := HJL.out k hlt hlo
        rw [he] at x1 x2 x3
        have hb1 := HBO.out k hlo
        have hs1 := World.block_lt_of_cell? wr _ x1
        have hs2 := World.block_lt_of_cell? wr _ y1
        simp only at hs1 hs2
        have k1 := fun o1 o2 => (Reads.below x3 ((Keeps.refl wr).alloc o1 |>.alloc o2).below).conv (P := Try.prog) 28 9 5 Try.underlying28 Try.underlying5 Try.underlying9 m1
        have k2 := fun o1 o2 => (Reads.below y3 ((Keeps.refl wr).alloc o1 |>.alloc o2).below).conv (P := Try.prog) 28 9 5 Try.underlying28 Try.underlying5 Try.underlying9 m2
        clear he x3 y3
        go_wp2
        exact ⟨⟨k + 1, by omega, by go_num, (HK.out.alloc _).alloc _⟩, by simp [intOf]; omega⟩
      · have hlt2 : k - ro.length < rt.length := by have := HX.out; omega
        obtain ⟨g2, f2, rfl, y1, A2, m2, y2, y3⟩ := (HP3.out.below HK.out.below) (k - ro.length) hlt2
        have he := HJR.out k hlt (by omega) hlt2
        unfold shr at he
        rw [he] at x1 x2 x3
        have hb1 := HBT.out _ hlt2
        have hs1 := World.block_lt_of_cell? wr _ x1
        have hs2 := World.block_lt_of_cell? wr _ y1
        simp only at hs1 hs2 x1 x2 x3
        have k1 := fun o1 o2 => (Reads.below x3 ((Keeps.refl wr).alloc o1 |>.alloc o2).below).conv (P := Try.prog) 28 9 5 Try.underlying28 Try.underlying5 Try.underlying9 m1
        have k2 := fun o1 o2 => (Reads.below y3 ((Keeps.refl wr).alloc o1 |>.alloc o2).below).conv (P := Try.prog) 28 9 5 Try.underlying28 Try.underlying5 Try.underlying9 m2
        clear he x3 y3
        go_wp2
        trace_state
        exact ⟨⟨k + 1, by omega, by go_num, (HK.out.alloc _).alloc _⟩, by simp [intOf]; omega⟩
    · go_wp2
      go_ret
      exact ⟨rfl, (H9.out.trans HK.out).below⟩
end Go.Proofs.Ytnfefjlplipeiaa
