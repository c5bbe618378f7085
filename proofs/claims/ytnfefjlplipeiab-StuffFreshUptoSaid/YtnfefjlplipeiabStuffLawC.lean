/-
  The walk of the law StuffFresh. Condition: the argument reads as a list of bytes.
-/
import Derived.Test.YtnfefjlplipeiabStuffLive
namespace Go.Proofs.Ytnfefjlplipeiab
open Go.RowKit Go.BigFrame
set_option linter.unusedVariables false
set_option linter.unusedSimpArgs false

theorem OwnB.reads {e : TypeId} {w : World} {base : Nat} {A : Option Addr} {n c : Nat} {l : List UInt8} (h : OwnB e w base (.slice A n c) l) : Reads w A l := by
  obtain ⟨_, _, e0, _, hr, _⟩ := h.form
  injection e0 with e1
  rw [e1]
  exact hr

/-- a row of bytes that is written over, place by place -/
def OverRel (w : World) (v : Value) (n : Nat) (i : Value) (wr : World) : Prop :=
  ∃ (k : Nat) (l : List UInt8), k ≤ n ∧ i = .int .i64 (k : Int) ∧ l.length = n ∧ OwnB 5 wr 0 v l ∧ Touch (fun j => v.ownBlock = some j) w wr
theorem over_step {w wr : World} {A : Option Addr} {n c k : Nat} {l : List UInt8} (hk : k < n) (hl : l.length = n) (ho : OwnB 5 wr 0 (.slice A n c) l) (ht : Touch (fun j => (Value.slice A n c).ownBlock = some j) w wr) (b : UInt8) :
    ∃ g, A = some ⟨g, 0, none⟩ ∧ (∃ x, wr.cell? ⟨g, k, none⟩ = some x) ∧ wr.frozen? ⟨g, k, none⟩ = false ∧ OverRel w (.slice A n c) n (.int .i64 ((k : Int) + 1)) (wr.setCell ⟨g, k, none⟩ (.int .u8 ((b.toNat : Nat) : Int))) := by
  obtain ⟨g, c', e0, _, _, _⟩ := ho.block (by omega)
  injection e0 with e1 e2 e3
  subst e1
  subst e3
  subst e2
  obtain ⟨x1, x2⟩ := ho.cell k hk
  obtain ⟨s1, s2⟩ := OwnB.store ho k b
  exact ⟨g, rfl, ⟨_, x1⟩, x2, k + 1, l.set k b, hk, by go_num, List.length_set, s1, ht.setCell _ _ (fun _ => rfl)⟩

set_option maxRecDepth 100000 in
set_option maxHeartbeats 2000000 in
theorem fresh_calls (A : Option Addr) (ca : Nat) (b : List UInt8) (w : World) (hla : b.length ≤ 274877906944) (hca : b.length ≤ ca) (ha : Reads w A b) :
    Calls Try.prog 8 #[.slice A b.length ca] w fun e w' => e = .returned (.bool true) ∧ Below w.heap.size w w' := by
  have HA := Lib.hid ha
  have hsl := stuff_length b
  clear ha
  go_enter Try.func8, Try.ntmps8
  go_wp2_with (at_builtin; refine wpList_append_bytes (w0 := w) w.heap.size rfl _ _ 22 5 rfl Try.underlying22 info_u8 _ [] b rfl (OwnB.lit 5 w w.heap.size [] #[] rfl (Nat.le_refl _) (by decide)) A ca rfl ?a1 ?a2 ?a3 ?a4 ?_)
  case a1 => exact HA.out.below ((Keeps.refl _).alloc _).below
  case a2 => show 0 + _ ≤ _; omega
  case a3 => simp
  case a4 => exact (Keeps.refl _).alloc _
  intro v0 w1 (hown0 : OwnB 5 w1 w.heap.size v0 b) hb0 _ _
  obtain ⟨A0, c0, rfl, hc0, hr0, _, _⟩ := hown0.form
  have HR0 := Lib.hid hr0
  have HK0 := Lib.hid (show Keeps w w1 from hb0)
  clear hown0 hr0 hb0
  go_wp2_with fail
  refine (stuff_calls A ca b w1 (by omega) hca (HA.out.below HK0.out.below)).mono ?_
  rintro e w2 ⟨v1, rfl, hown1, hk1⟩
  obtain ⟨st, hst⟩ : ∃ st, st = stuffOf b := ⟨_, rfl⟩
  rw [← hst] at hown1 hsl
  have HST := Lib.hid (show unstuffOf st = (b, 0) by rw [hst]; exact unstuff_stuff b)
  clear hst
  obtain ⟨A1, c1, rfl, hc1, hr1, _, _⟩ := hown1.form
  have HO1 := Lib.hid hown1
  have HK1 := Lib.hid hk1
  have hs12 : w1.heap.size ≤ w2.heap.size := hk1.size
  clear hown1 hk1
  go_wp2_with fail
  refine (unstuff_calls A1 c1 st w2 (by omega) hc1 hr1).mono ?_
  rintro e w3 ⟨v2, rfl, hown2, hk2⟩
  rw [HST.out] at hown2
  rw [HST.out]
  obtain ⟨A2, c2, rfl, hc2, hr2, _, _⟩ := hown2.form
  have HO2 := Lib.hid hown2
  have HO1b := Lib.hid (OwnB.below HO1.out hk2.below)
  have hlt1 := fun j h => (HO1.out.lt j h).2
  have HL1 := Lib.hid hlt1
  have HK2 := Lib.hid (HK1.out.trans hk2)
  have hs23 : w2.heap.size ≤ w3.heap.size := hk2.size
  clear hown2 hk2 HO1 hlt1 hr1 HK1
  go_wp2_with (at_builtin; refine wpList_append_bytes (w0 := w3) w3.heap.size rfl _ _ 22 5 rfl Try.underlying22 info_u8 _ [] st rfl (OwnB.lit 5 w3 w3.heap.size [] #[] rfl (Nat.le_refl _) (by decide)) A1 c1 rfl ?b1 ?b2 ?b3 ?b4 ?_)
  case b1 => exact (OwnB.reads HO1b.out).below ((Keeps.refl _).alloc _).below
  case b2 => show 0 + _ ≤ _; omega
  case b3 => simp
  case b4 => exact (Keeps.refl _).alloc _
  intro v3 w4 (hown3 : OwnB 5 w4 w3.heap.size v3 st) hb3 _ _
  obtain ⟨A3, c3, rfl, hc3, hr3, _, _⟩ := hown3.form
  have hk34 : Keeps w3 w4 := hb3
  have HO3 := Lib.hid hown3
  have HO2b := Lib.hid (OwnB.below HO2.out hk34.below)
  have HO1c := Lib.hid (OwnB.below HO1b.out hk34.below)
  have HK3 := Lib.hid (HK2.out.trans hk34)
  have hs34 : w3.heap.size ≤ w4.heap.size := hk34.size
  have HL2 := Lib.hid (fun j h => (HO2.out.lt j h))
  have HLB1 := Lib.hid (fun j h => (HO1b.out.lt j h).1)
  clear hown3 hb3 hr3 hk34 HO2 HO1b HK2 hr2
  go_wp2
  go_loopw [8] (fun i wr => OverRel w4 (.slice A2 b.length c2) b.length i wr) (fun i _ => b.length - (intOf i).toNat)
  case atStart => exact ⟨0, b, Nat.zero_le _, rfl, rfl, own_lower HO2b.out 0 (Nat.zero_le _), Touch.refl _ _⟩
  case round =>
    obtain ⟨k, l, hk, rfl, hl, ho, ht⟩ := hrel
    by_cases hlt : k < b.length
    · obtain ⟨g, rfl, ⟨x, x1⟩, x2, hov⟩ := over_step hlt hl ho ht 77
      have HOV := Lib.hid hov
      clear ho ht hov hl
      go_wp2
      exact ⟨HOV.out, by simp [intOf]; omega⟩
    · have HT := Lib.hid ht
      clear ho ht hl
      have ho1 := HT.out.ownB HO1c.out (fun j h1 h2 => by have a := HL1.out j h1; have b := (HL2.out j h2).1; omega)
      have ho3 := HT.out.ownB HO3.out (fun j h1 h2 => by have a := (HO3.out.lt j h1).1; have b := (HL2.out j h2).2; omega)
      have hk5 : Keeps w1 wr := ((Touch.of_below HK3.out.below (F := fun j => w1.heap.size ≤ j) (fun _ _ h => h)).trans HT.out (fun j _ h => by have := (HL2.out j h).1; omega)).to_below _ (fun _ h _ => h) (Nat.le_refl _)
      have HP1 := Lib.hid ho1
      have HP3 := Lib.hid ho3
      have HK5 := Lib.hid hk5
      have HQ1 := Lib.hid (OwnB.reads ho1)
      have HQ3 := Lib.hid (OwnB.reads ho3)
      clear ho1 ho3 hk5 HO1c HO2b HK3 HT
      go_wp2_with fail
      refine (at_bool (decide_eq_true rfl) (same_calls A1 A3 c1 c3 st st wr (by omega) (by omega) HQ1.out HQ3.out)).mono ?_
      rintro e w5 ⟨rfl, hq5⟩
      have HP1b := Lib.hid (OwnB.below HP1.out (hq5.below _))
      have HP3b := Lib.hid (OwnB.below HP3.out (hq5.below _))
      have HK6 := Lib.hid (HK5.out.quiet hq5)
      clear hq5 HP1 HP3 HK5 HQ1 HQ3
      go_wp2
      go_loopw [10] (fun i wz => OverRel w5 (.slice A1 st.length c1) st.length i wz) (fun i _ => st.length - (intOf i).toNat)
      case atStart => exact ⟨0, st, Nat.zero_le _, rfl, rfl, own_lower HP1b.out 0 (Nat.zero_le _), Touch.refl _ _⟩
      case round =>
        obtain ⟨k2, l2, hk2, rfl, hl2, ho2, ht2⟩ := hrel
        by_cases hlt2 : k2 < st.length
        · obtain ⟨g, rfl, ⟨x, x1⟩, x2, hov⟩ := over_step hlt2 hl2 ho2 ht2 78
          have HOV := Lib.hid hov
          clear ho2 ht2 hov hl2
          go_wp2
          exact ⟨HOV.out, by simp [intOf]; omega⟩
        · have hk7 : Keeps w1 _ := ((Touch.of_below HK6.out.below (F := fun j => w1.heap.size ≤ j) (fun _ _ h => h)).trans ht2 (fun j _ h => HLB1.out j h)).to_below _ (fun _ h _ => h) (Nat.le_refl _)
          have HK7 := Lib.hid hk7
          have HQ3 := Lib.hid (OwnB.reads (ht2.ownB HP3b.out (fun j h1 h2 => by have a := HL1.out j h2; have b := (HP3b.out.lt j h1).1; omega)))
          clear hk7 ho2 ht2 hl2 HP1b HP3b HK6
          go_wp2_with fail
          refine (unstuff_calls A3 c3 st _ (by omega) hc3 HQ3.out).mono ?_
          rintro e w7 ⟨v6, rfl, hown6, hk6⟩
          rw [HST.out] at hown6
          rw [HST.out]
          obtain ⟨A6, c6, rfl, hc6, hr6, _, _⟩ := hown6.form
          have HR6 := Lib.hid hr6
          have HK8 := Lib.hid (HK7.out.trans hk6)
          clear hown6 hr6 hk6 HK7 HQ3
          go_wp2_with fail
          refine (live_calls w7).mono ?_
          rintro e w8 ⟨rfl, hk8⟩
          have HR7 := Lib.hid (HR6.out.below hk8.below)
          have HK9 := Lib.hid (HK8.out.trans hk8)
          clear hk8 HK8 HR6
          go_wp2_with fail
          refine (at_bool (decide_eq_true rfl) (same_calls A A0 ca c0 b b w8 (by omega) (by omega) (HA.out.below (HK0.out.trans HK9.out).below) (HR0.out.below HK9.out.below))).mono ?_
          rintro e w9 ⟨rfl, hq9⟩
          have HR8 := Lib.hid (HR7.out.quiet hq9)
          have HK10 := Lib.hid (HK9.out.quiet hq9)
          clear hq9 HK9 HR7
          go_wp2_with fail
          refine (at_bool (decide_eq_true rfl) (same_calls A6 A0 c6 c0 b b w9 (by omega) (by omega) HR8.out (HR0.out.below HK10.out.below))).mono ?_
          rintro e w10 ⟨rfl, hq10⟩
          have HK11 := Lib.hid (HK0.out.trans (HK10.out.quiet hq10))
          clear hq10 HK10 HR8
          go_wp2
          go_ret
          exact ⟨rfl, HK11.out.below⟩
end Go.Proofs.Ytnfefjlplipeiab
