/-
  The walk of the law's live: it returns true, and what was there before is as it was. No condition.
-/
import Derived.Test.YtnfefjlplipeiaaSplitHelp
namespace Go.Proofs.Ytnfefjlplipeiaa
open Go.RowKit Go.BigFrame
set_option linter.unusedVariables false
set_option linter.unusedSimpArgs false

theorem OwnRuns.lt {w : World} {F : Nat → Prop} {v : Value} {rs : List Run} (h : OwnRuns w F v rs) : OwnRuns w (fun j => F j ∧ j < w.heap.size) v rs := by
  obtain ⟨cells, h1, h2, h3⟩ := h
  refine ⟨cells, h1, fun k hk => ⟨h2 k hk, own_lt h1 k hk⟩, fun i hi => ?_⟩
  obtain ⟨bv, a, b, c, d⟩ := h3 i hi
  exact ⟨bv, a, b, c, fun k hk => ⟨d k hk, own_lt c k hk⟩⟩

def live8 : List UInt8 := [5, 0, 6, 0, 0, 7, 0, 8]
theorem runs_live8 : runsOf live8 = [(1, [6]), (4, [7])] := by decide
theorem feed_live1 : (fresh.feed [0, 5]) = (⟨2, some (0, [5])⟩, []) := rfl
theorem feed_live2 : ((⟨2, some (0, [5])⟩ : Sp).feed [6]) = (⟨3, some (0, [5, 6])⟩, []) := rfl
theorem feed_live3 : ((⟨3, some (0, [5, 6])⟩ : Sp).feed [0]) = (⟨4, some (3, [])⟩, [(0, [5, 6])]) := rfl

/-- a run that stands in a row, in the walk's words -/
theorem RunsAt.two {w : World} {A : Option Addr} {a b : Run} (h : RunsAt w A [a, b]) : ∃ g o, A = some ⟨g, o, none⟩ ∧ w.cell? ⟨g, o, none⟩ = some (.int .i64 (a.1 : Int)) ∧ w.cell? ⟨g, o + 2, none⟩ = some (.int .i64 (b.1 : Int)) ∧
    ∃ A1 c1 A2 c2, w.cell? ⟨g, o + 1, none⟩ = some (.slice A1 a.2.length c1) ∧ Reads w A1 a.2 ∧ w.cell? ⟨g, o + 3, none⟩ = some (.slice A2 b.2.length c2) ∧ Reads w A2 b.2 := by
  obtain ⟨g, o, rfl, h1, A1, c1, h2, h3⟩ := h 0 (by simp)
  obtain ⟨g', o', e, h4, A2, c2, h5, h6⟩ := h 1 (by simp)
  cases e
  exact ⟨g, o, rfl, by simpa using h1, by simpa using h4, A1, c1, A2, c2, by simpa using h2, h3, by simpa using h5, h6⟩
theorem RunsAt.one {w : World} {A : Option Addr} {a : Run} (h : RunsAt w A [a]) : ∃ g o, A = some ⟨g, o, none⟩ ∧ w.cell? ⟨g, o, none⟩ = some (.int .i64 (a.1 : Int)) ∧
    ∃ A1 c1, w.cell? ⟨g, o + 1, none⟩ = some (.slice A1 a.2.length c1) ∧ Reads w A1 a.2 := by
  obtain ⟨g, o, rfl, h1, A1, c1, h2, h3⟩ := h 0 (by simp)
  exact ⟨g, o, rfl, by simpa using h1, A1, c1, by simpa using h2, h3⟩

/-- a new list of bytes is fed: what lies from B on, and the splitter, may turn -/
theorem feed_new (w0 w : World) (B g : Nat) (s : Sp) (hv : Value) (l : List UInt8) (C : Array Value) (hC : C.toList = u8s l) (hB : B ≤ w0.heap.size) (hBg : B ≤ g) (hh : ∀ k, hv.ownBlock = some k → B ≤ k) (ht : Touch (fun j => B ≤ j) w0 w) (hs : SpAt w g s.pos s.md hv) (hl : s.pos + l.length ≤ 1099511627776) :
    Calls Try.prog 19 #[.pointer (some ⟨g, 0, none⟩), .slice (some ⟨w.heap.size, 0, none⟩) l.length l.length] (w.alloc (.cells C 5)) fun e w' =>
      ∃ out hv', e = .returned out ∧ SpAt w' g (s.pos + l.length) (s.feed l).1.md hv' ∧ (∀ k, hv'.ownBlock = some k → B ≤ k) ∧ Touch (fun j => B ≤ j) w0 w' ∧ OwnRuns w' (fun j => B ≤ j ∧ j ≠ g ∧ hv'.ownBlock ≠ some j) out (s.feed l).2 := by
  have hsz := ht.size
  refine (feed_calls _ g s hv _ l.length l (hs.keep ((Touch.refl (fun _ => False) w).alloc _) (fun h => h) (fun _ _ h => h)) (Reads.new w l 5 (0, 0) C hC) (fun a e h hn => ?_) hl).mono ?_
  · cases e
    rcases hn with hn | hn
    · have := hs.lt.1; simp only at hn; omega
    · have := hs.lt.2 _ hn; simp only at this; omega
  · rintro e w' ⟨out, hv', F, rfl, h1, h2, h3, h4, h5⟩
    refine ⟨out, hv', rfl, h1, fun k hk => ?_, ?_, h2.mono fun k hk => ?_⟩
    · rcases h4 k hk with h | h
      · exact hh k h
      · simp at h; omega
    · exact (ht.alloc _).trans h5 (fun i _ hn => by
        rcases hn with rfl | hn
        · exact hBg
        · exact hh i hn)
    · obtain ⟨a, b, c, d⟩ := h3 k hk
      refine ⟨?_, c, d⟩
      rcases a with h | h
      · exact hh k h
      · simp at h; omega

set_option maxHeartbeats 2000000 in
theorem live_calls (w : World) :
    Calls Try.prog 11 #[] w fun e w' => e = .returned (.bool true) ∧ Below w.heap.size w w' := by
  go_enter Try.func11, Try.ntmps11
  go_wp2_with fail
  have h8 := Reads.new w live8 5 (0, 0) #[.int .u8 5, .int .u8 0, .int .u8 6, .int .u8 0, .int .u8 0, .int .u8 7, .int .u8 0, .int .u8 8] rfl
  refine (runs_calls _ 8 live8 _ (by decide) h8).mono ?_
  rintro e w1 ⟨out, rfl, hrs, hb1⟩
  rw [runs_live8] at hrs
  have hb1' : Below w.heap.size w w1 := ((Below.refl w.heap.size w).alloc (Nat.le_refl _) _).trans (hb1.mono (by simp))
  have HR1 := Lib.hid hrs.lt
  have HB1 := Lib.hid hb1'
  have hz1 := hb1'.size
  clear h8 hrs hb1 hb1'
  go_wp2_with fail
  refine (splitNew_calls _).mono ?_
  rintro e w2 ⟨rfl, hw2⟩
  have hsp : SpAt w2 w1.heap.size 0 none (.slice none 0 0) := by
    subst hw2
    exact ⟨rfl, 0, obj_new w1 _⟩
  have ht2 : Touch (fun j => w1.heap.size ≤ j) w1 w2 := by subst hw2; exact (Touch.refl _ w1).alloc _
  have HSP := Lib.hid hsp
  have HT2 := Lib.hid ht2
  clear hsp ht2 hw2
  go_wp2_with fail
  refine (feed_new w1 w2 w1.heap.size w1.heap.size fresh (.slice none 0 0) [0, 5] #[.int .u8 0, .int .u8 5] rfl (Nat.le_refl _) (Nat.le_refl _) (fun k h => (nil_block k h).elim) HT2.out HSP.out (by decide)).mono ?_
  rintro e w3 ⟨o1, hv1, rfl, hsp3, hh3, ht3, hr3⟩
  rw [feed_live1] at hsp3 hr3
  obtain ⟨A3, n3, c3, rfl, hn3⟩ := hsp3.held
  obtain ⟨P3, q3, rfl, _⟩ := hr3.at
  have HSP3 := Lib.hid hsp3
  have HH3 := Lib.hid hh3
  have HT3 := Lib.hid ht3
  clear hsp3 hh3 ht3 hr3 HSP HT2 hn3
  go_wp2_with fail
  refine (at_value (b := 1) rfl (held_any HSP3.out)).mono ?_
  rintro e w4 ⟨rfl, rfl⟩
  go_wp2_with fail
  refine (feed_new w1 w3 w1.heap.size w1.heap.size ⟨2, some (0, [5])⟩ _ [6] #[.int .u8 6] rfl (Nat.le_refl _) (Nat.le_refl _) HH3.out HT3.out HSP3.out (by decide)).mono ?_
  rintro e w4 ⟨o2, hv2, rfl, hsp4, hh4, ht4, hr4⟩
  rw [feed_live2] at hsp4 hr4
  obtain ⟨P4, q4, rfl, _⟩ := hr4.at
  have HSP4 := Lib.hid hsp4
  have HH4 := Lib.hid hh4
  have HT4 := Lib.hid ht4
  clear hsp4 hh4 ht4 hr4 HSP3 HT3 HH3
  go_wp2_with fail
  refine (feed_new w1 w4 w1.heap.size w1.heap.size ⟨3, some (0, [5, 6])⟩ hv2 [0] #[.int .u8 0] rfl (Nat.le_refl _) (Nat.le_refl _) HH4.out HT4.out HSP4.out (by decide)).mono ?_
  rintro e w5 ⟨o3, hv3, rfl, hsp5, hh5, ht5, hr5⟩
  rw [feed_live3] at hsp5 hr5
  obtain ⟨P5, q5, rfl, _, hra5⟩ := hr5.at
  obtain ⟨g5, f5, rfl, e1, E1, k1, e2, e3⟩ := hra5.one
  have hr1 := HR1.out.keep ht5 (fun k h1 h2 => by have := h1.2; omega)
  obtain ⟨P1, q1, rfl, _, hra1⟩ := hr1.at
  obtain ⟨g1, f1, rfl, d1, d2, D1, m1, D2, m2, d3, d4, d5, d6⟩ := hra1.two
  have x1 : (convert 28 9 (.slice E1 2 k1)).run Try.prog w5 = .ok (.string ⟨#[5, 6]⟩) w5 := e3.conv (P := Try.prog) 28 9 5 Try.underlying28 Try.underlying5 Try.underlying9 k1
  have x2 : (convert 28 9 (.slice D1 1 m1)).run Try.prog w5 = .ok (.string ⟨#[6]⟩) w5 := d4.conv (P := Try.prog) 28 9 5 Try.underlying28 Try.underlying5 Try.underlying9 m1
  have x3 : (convert 28 9 (.slice D2 1 m2)).run Try.prog w5 = .ok (.string ⟨#[7]⟩) w5 := d6.conv (P := Try.prog) 28 9 5 Try.underlying28 Try.underlying5 Try.underlying9 m2
  have HSP5 := Lib.hid hsp5
  have HFIN := Lib.hid (HB1.out.trans (ht5.to_below w.heap.size (fun k h _ => Nat.le_trans hz1 h) hz1))
  clear hsp5 hh5 ht5 hr5 hra5 hr1 hra1 e3 d4 d6 HSP4 HT4 HH4
  go_wp2_with fail
  refine (at_value (b := 0) rfl (held_any HSP5.out)).mono ?_
  rintro e w6 ⟨rfl, rfl⟩
  go_wp2_with fail
  refine (at_value (b := 4) rfl (at_any HSP5.out)).mono ?_
  rintro e w6 ⟨rfl, rfl⟩
  go_wp2_with fail
  go_ret
  exact ⟨rfl, HFIN.out⟩
end Go.Proofs.Ytnfefjlplipeiaa
