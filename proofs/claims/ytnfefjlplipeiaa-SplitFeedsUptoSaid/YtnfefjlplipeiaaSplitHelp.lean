/-
  The walks of Runs and of the laws' helpers lent and still. Condition: the bytes read as a list.
-/
import Derived.Test.YtnfefjlplipeiaaSplitRef
namespace Go.Proofs.Ytnfefjlplipeiaa
open Go.RowKit Go.BigFrame
set_option linter.unusedVariables false
set_option linter.unusedSimpArgs false

set_option maxHeartbeats 400000 in
theorem runs_calls (A : Option Addr) (c : Nat) (l : List UInt8) (w : World) (hl : l.length ≤ 1099511627776) (hr : Reads w A l) :
    Calls Try.prog 13 #[.slice A l.length c] w (RunsPost w l) := by
  have HR := Lib.hid hr
  clear hr
  go_enter Try.func13, Try.ntmps13
  go_wp2_with fail
  refine (splitNew_calls _).mono ?_
  rintro e w1 ⟨rfl, hw1⟩
  have hsp : SpAt w1 w.heap.size 0 none (.slice none 0 0) := by
    subst hw1
    exact ⟨rfl, 0, obj_new w _⟩
  have hb : Below w.heap.size w w1 := by
    subst hw1
    exact (Below.refl _ _).alloc (Nat.le_refl _) _
  have HSP := Lib.hid hsp
  have HB := Lib.hid hb
  clear hsp hb hw1
  go_wp2_with fail
  refine (feed_calls w1 w.heap.size fresh (.slice none 0 0) A c l HSP.out (HR.out.below HB.out) (fun a e h hn => ?_) (by simp [fresh]; omega)).mono ?_
  · rcases hn with hn | hn
    · subst e
      obtain ⟨ad, e1, hc⟩ := HR.out.out 0 (List.length_pos_iff.2 h)
      cases e1
      have := World.block_lt_of_cell? w _ hc
      rw [addr_add_block] at this
      omega
    · exact nil_block _ hn
  · rintro e w2 ⟨out, hv', F, rfl, h1, h2, h3, h4, h5⟩
    have hfin : OwnRuns w2 (fun j => w.heap.size ≤ j) out (runsOf l) := h2.mono fun k hk => by
      rcases (h3 k hk).1 with h | h
      · exact (nil_block _ h).elim
      · exact Nat.le_trans HB.out.size h
    have hbel : Below w.heap.size w w2 := HB.out.trans (h5.to_below _ (fun k hn _ => by
      rcases hn with rfl | hn
      · exact Nat.le_refl _
      · exact (nil_block _ hn).elim) HB.out.size)
    have HF := Lib.hid hfin
    have HL := Lib.hid hbel
    clear h1 h2 h3 h4 h5 hfin hbel
    go_wp2
    go_ret
    exact ⟨_, rfl, HF.out, HL.out⟩

/-- a copy that is lent, two marked bytes behind it -/
def Lent (w : World) (g : Nat) (b : List UInt8) : Prop := OwnB 5 w 0 (.slice (some ⟨g, 0, none⟩) (b.length + 2) (b.length + 2)) (b ++ [77, 78])

set_option maxHeartbeats 400000 in
theorem lent_calls (A : Option Addr) (c : Nat) (l : List UInt8) (w : World) (hl : l.length ≤ 1099511627776) (hr : Reads w A l) :
    Calls Try.prog 12 #[.slice A l.length c] w fun e w' => e = .returned (.slice (some ⟨w.heap.size, 0, none⟩) l.length (l.length + 2)) ∧ Lent w' w.heap.size l ∧ Below w.heap.size w w' := by
  have HR := Lib.hid hr
  clear hr
  obtain ⟨i0, hi, hzz⟩ := Option.map_eq_some_iff.1 info_u8
  simp only [Prod.mk.injEq] at hzz
  obtain ⟨hz0, hz1, hz2⟩ := hzz
  have hmk : (Instr.makeSlice 28 (.int .i64 0) (.int .i64 ((l.length : Int) + 2))).run Try.prog w = .ok (.slice (some ⟨w.heap.size, 0, none⟩) 0 (l.length + 2)) (w.alloc (.cells (madeCells #[.int .u8 0] (l.length + 2)) 5)) := by
    have := run_make (P := Try.prog) w 28 5 i0 (.int .u8 0) Try.underlying28 hi hz0 .i64 .i64 0 ((l.length : Int) + 2) (by omega) (by omega) (by rw [hz2]; omega) (by omega)
    rw [this, hz1, show ((l.length : Int) + 2).toNat = l.length + 2 by omega, Nat.mul_one]
    rfl
  clear hi hz0 hz1 hz2
  go_enter Try.func12, Try.ntmps12
  go_wp2_with (at_builtin; refine wpList_append_bytes_fits w.heap.size rfl _ _ 28 5 rfl Try.underlying28 info_u8 w.heap.size (l.length + 2) [] l rfl ?a0 A c rfl ?a1 ?a2 ?_)
  case a0 => exact World.ownsRow_made w (madeCells #[.int .u8 0] (l.length + 2)) (l.length + 2) (Nat.le_refl _) (by simp only [maxLen]; omega) (by simp [size_madeCells])
  case a1 => exact HR.out.below ((Below.refl _ _).alloc (Nat.le_refl _) _)
  case a2 => simp
  intro w1 (hown : OwnB 5 w1 w.heap.size (.slice (some ⟨w.heap.size, 0, none⟩) l.length (l.length + 2)) l) hg1
  have T1 : Touch (fun j => w.heap.size ≤ j) w w1 := ((Touch.refl _ w).alloc _).grown hg1 fun j e _ => by cases e; exact Nat.le_refl _
  have HO := Lib.hid hown
  have HT := Lib.hid T1
  clear hown hg1 T1 hmk
  go_wp2_with (at_builtin; refine wpList_append_bytes_fits w.heap.size rfl _ _ 28 5 rfl Try.underlying28 info_u8 w.heap.size (l.length + 2) l [77, 78] rfl ?b0 _ 2 rfl ?b1 ?b2 ?_)
  case b0 => exact HO.out.below ((Below.refl _ _).alloc (Nat.le_refl _) _)
  case b1 => exact Reads.new_at _ [77, 78] 5 (0, 0) #[.int .u8 77, .int .u8 78] rfl _ (by simp)
  case b2 => simp
  intro w2 hown2 hg2
  have T2 : Touch (fun j => w.heap.size ≤ j) w w2 := (HT.out.alloc _).grown hg2 fun j e _ => by cases e; exact Nat.le_refl _
  have HO2 := Lib.hid (own_lower hown2 0 (Nat.zero_le _))
  have HT2 := Lib.hid (T2.to_below w.heap.size (fun k h _ => h) (Nat.le_refl _))
  clear hown2 hg2 T2 HO HT
  go_wp2
  go_ret
  exact ⟨rfl, HO2.out, HT2.out⟩

set_option maxHeartbeats 400000 in
theorem still_calls (A : Option Addr) (c g : Nat) (l : List UInt8) (w : World) (hl : l.length ≤ 1099511627776) (hr : Reads w A l) (hg : Lent w g l) :
    Calls Try.prog 17 #[.slice (some ⟨g, 0, none⟩) l.length (l.length + 2), .slice A l.length c] w fun e w' => e = .returned (.bool true) ∧ w = w' := by
  obtain ⟨A', c', e1, _, hg', _⟩ := OwnB.form hg
  injection e1 with e1 e2 e3
  subst e1
  have hrl : Reads w (some ⟨g, 0, none⟩) l := by
    have := hg'.take l.length
    rwa [List.take_left] at this
  have k1 := hrl.conv (P := Try.prog) 28 9 5 Try.underlying28 Try.underlying5 Try.underlying9 (l.length + 2)
  have k2 := hr.conv (P := Try.prog) 28 9 5 Try.underlying28 Try.underlying5 Try.underlying9 c
  have c1 : w.cell? ⟨g, l.length, none⟩ = some (.int .u8 77) := by
    obtain ⟨ad, e1, hc⟩ := hg'.out l.length (by simp)
    cases e1
    rw [addr_add_mk] at hc
    simpa using hc
  have c2 : w.cell? ⟨g, l.length + 1, none⟩ = some (.int .u8 78) := by
    obtain ⟨ad, e1, hc⟩ := hg'.out (l.length + 1) (by simp)
    cases e1
    rw [addr_add_mk] at hc
    simpa [List.getElem_append_right] using hc
  clear hg hg' hrl e3 e2
  go_enter Try.func17, Try.ntmps17
  go_wp2
  go_ret
  exact ⟨rfl, rfl⟩
end Go.Proofs.Ytnfefjlplipeiaa
