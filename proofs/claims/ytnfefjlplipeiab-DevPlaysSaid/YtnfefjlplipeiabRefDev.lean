/-
  The walks of the document's file of bytes: deed, Write, Sync, Cut. Condition: the block stands for the machine.
-/
import Derived.Test.YtnfefjlplipeiabRefDevObj
import Derived.StillTailTactics
namespace Go.Proofs.Ytnfefjlplipeiab
open Go.RowKit Go.BigFrame
set_option linter.unusedVariables false
set_option linter.unusedSimpArgs false

theorem rv_kept {w w1 : World} {g : Nat} {o : Obj} (hk : Keeps w w1) (hg : g < w.heap.size) (h : w.heap[g]? = some o) : w1.heap[g]? = some o := by rw [hk.below.block g hg]; exact h
theorem RV.of {w w' : World} {S : Nat → Prop} {g : Nat} {v' : Value} {bd : Bool} {af kp : Int} {d' : Dv} (h : RvAt w' g v' bd af kp d') (hS : S g) (hv : ∀ k, blk v' = some k → S k ∨ w.heap.size ≤ k) : RV w' (More S w) g d' :=
  ⟨v', bd, af, kp, h, .inl hS, hv⟩

set_option maxHeartbeats 1000000 in
theorem refDeed_calls (g : Nat) (S : Nat → Prop) (d : Dv) (w : World) (hd : RV w S g d) (hok : d.Ok) (hdd : d.deeds ≤ 9223372036854775806) :
    Calls Try.prog 70 #[.pointer (some ⟨g, 0, none⟩)] w fun e w' => e = .returned (.bool d.deed.2) ∧ RV w' (More S w) g d.deed.1 ∧ Touch S w w' := by
  have HD := Lib.hid hd
  obtain ⟨v, bd, af, kp, hat, hSg, hSv⟩ := hd
  obtain ⟨A, c, rfl, hlc, hr, hcm, _⟩ := hat.2.1.form
  obtain ⟨c0, c1, c2, c3, c4, c5, c6, c7, c8, fz⟩ := rv_cells hat.1
  have hgs := obj_lt hat.1
  have hsz := hok.size
  have hsy := hok.synced
  have HAT := Lib.hid hat
  have HS := Lib.hid (show S g ∧ ∀ k, blk (.slice A d.b.length c) = some k → S k from ⟨hSg, hSv⟩)
  have HR := Lib.hid hr
  have HOK := Lib.hid hok
  have hbi := hat.2.2
  clear hat hSg hSv hr hok
  cases hb : d.bound with
  | none =>
    rw [hb] at hbi
    obtain rfl : bd = false := hbi
    have e1 : d.deed = ({ d with deeds := d.deeds + 1 }, true) := by unfold Dv.deed; rw [hb]
    rw [e1]
    have HB := Lib.hid hb
    clear hb e1
    go_enter Try.func70, Try.ntmps70
    go_wp2
    go_ret
    refine ⟨rfl, RV.of (w := w) (HAT.out.poke (bd' := false) (af' := af) (kp' := kp) (d' := { d with deeds := d.deeds + 1 }) 8 (.int .i64 ((d.deeds : Int) + 1)) (by rfl) rfl ?_) HS.out.1 (fun k hk => .inl (HS.out.2 k hk)), (Touch.refl S w).setCell _ _ fun _ => HS.out.1⟩
    show BoundIs _ _ _ d.bound
    rw [HB.out]; rfl
  | some x =>
    obtain ⟨a, k⟩ := x
    rw [hb] at hbi
    obtain ⟨rfl, rfl, rfl⟩ := hbi
    have hfit := HOK.out.fits a k hb
    cases a with
    | succ a =>
      have e1 : d.deed = ({ d with bound := some (a, k), deeds := d.deeds + 1 }, true) := by unfold Dv.deed; rw [hb]
      rw [e1]
      have h0 : (0 : Int) < ((a + 1 : Nat) : Int) := by omega
      clear hb e1
      go_enter Try.func70, Try.ntmps70
      go_wp2
      go_ret
      have h1 := HAT.out.poke (bd' := true) (af' := (a : Int)) (kp' := (k : Int)) (d' := { d with bound := some (a, k) }) 5 (.int .i64 (a : Int)) (by rfl) rfl ⟨rfl, rfl, rfl⟩
      have h2 := h1.poke (bd' := true) (af' := (a : Int)) (kp' := (k : Int)) (d' := { d with bound := some (a, k), deeds := d.deeds + 1 }) 8 (.int .i64 ((d.deeds : Int) + 1)) (by rfl) rfl ⟨rfl, rfl, rfl⟩
      exact ⟨rfl, RV.of (w := w) h2 HS.out.1 (fun k hk => .inl (HS.out.2 k hk)), ((Touch.refl S w).setCell _ _ fun _ => HS.out.1).setCell _ _ fun _ => HS.out.1⟩
    | zero =>
      have e1 : d.deed = ({ d with b := d.b.take (min (d.b.length - d.synced) k + d.synced), bound := none, down := true }, false) := by unfold Dv.deed; rw [hb]
      rw [e1]
      have HB := Lib.hid hb
      by_cases hk : (k : Int) < (d.b.length : Int) - (d.synced : Int)
      · have hwa : IntKind.i64.wrap ((d.synced : Int) + (k : Int)) = ((d.synced + k : Nat) : Int) := by rw [IntKind.wrap_i64]; omega
        have ht : min (d.b.length - d.synced) k + d.synced = d.synced + k := by omega
        rw [ht]
        have hle : d.synced + k ≤ d.b.length := by omega
        clear hb e1 ht
        go_enter Try.func70, Try.ntmps70
        go_wp2_with fail
        go_quiet (fail)
        go_wp2_with fail
        obtain ⟨wq, hwq⟩ : ∃ wq, wq = w.drewN nq := ⟨_, rfl⟩
        have hatq : RvAt wq g (.slice A d.b.length c) true ((0 : Nat) : Int) (k : Int) d := by rw [hwq]; exact HAT.out
        have HKQ := Lib.hid (show Keeps w wq by rw [hwq]; exact below_drewN (Below.refl _ w) nq)
        have HRQ := Lib.hid (show Reads wq A d.b by rw [hwq]; exact HR.out)
        rw [← hwq]
        clear hwq c0 c1 c2 c3 c4 c5 c6 c7 c8 fz
        obtain ⟨c0, c1, c2, c3, c4, c5, c6, c7, c8, fz⟩ := rv_cells hatq.1
        have HATQ := Lib.hid hatq
        clear hatq
        go_region_law (go_simp; go_at_call 71; refine (first_calls A c (d.synced + k) d.b _ (by omega) hle (by omega) (show Reads wq.drew A d.b from HRQ.out)).mono ?_; rintro e w1 ⟨v1, rfl, ho1, hk1⟩; have hkw : Keeps w w1 := (HKQ.out.trans (Keeps.drew wq)).trans hk1; obtain ⟨A1, cap1, rfl, _⟩ := ho1.form; have hg1 := rv_kept hkw hgs HAT.out.1; obtain ⟨x0, x1, x2, x3, x4, x5, x6, x7, x8, xz⟩ := rv_cells hg1)
        all_goals
          have hl : (d.b.take (d.synced + k)).length = d.synced + k := by rw [List.length_take]; omega
          rw [hl] at ho1
          have HG1 := Lib.hid hg1
          have HO1 := Lib.hid ho1
          have HK1 := Lib.hid hkw
          clear hg1 ho1 hk1 hkw hl
          go_wp2
          go_ret
          have hlow : ∀ j, blk (.slice A1 (d.synced + k) cap1) = some j → w.heap.size ≤ j := fun j hj => by
            have := (HO1.out.lt j hj).1
            have h2 := HKQ.out.size
            simp at this
            omega
          have h0 : RvAt (w1.setCell ⟨g, 0, none⟩ (.slice A1 (d.synced + k) cap1)) g (.slice A1 (d.synced + k) cap1) true ((0 : Nat) : Int) (k : Int) { d with b := d.b.take (d.synced + k) } :=
            ⟨obj_set HG1.out 0 _, (HO1.out.lower 0 (Nat.zero_le _)).far (p := ⟨g, 0, none⟩) (fun e => by have := hlow g e; omega) _, by show BoundIs _ _ _ d.bound; rw [HB.out]; exact ⟨rfl, rfl, rfl⟩⟩
          have h1 := h0.poke (bd' := false) (af' := ((0 : Nat) : Int)) (kp' := (k : Int)) (d' := { d with b := d.b.take (d.synced + k), bound := none }) 4 (.bool false) (by rfl) rfl rfl
          have h2 := h1.poke (bd' := false) (af' := ((0 : Nat) : Int)) (kp' := (k : Int)) (d' := { d with b := d.b.take (d.synced + k), bound := none, down := true }) 3 (.bool true) (by rfl) rfl rfl
          exact ⟨rfl, RV.of (w := w) h2 HS.out.1 (fun j hj => .inr (hlow j hj)), ((((Touch.of_below (F := S) HK1.out.below (fun k hk hb => absurd hk (by omega))).setCell _ _ fun _ => HS.out.1).setCell _ _ fun _ => HS.out.1).setCell _ _ fun _ => HS.out.1)⟩
      · have ht : d.b.take (min (d.b.length - d.synced) k + d.synced) = d.b := List.take_of_length_le (by omega)
        rw [ht]
        clear hb e1 ht
        go_enter Try.func70, Try.ntmps70
        go_wp2_with fail
        go_quiet (fail)
        go_wp2
        go_ret
        have h1 := (show RvAt (w.drewN nq) g _ true ((0 : Nat) : Int) (k : Int) d from HAT.out).poke (bd' := false) (af' := ((0 : Nat) : Int)) (kp' := (k : Int)) (d' := { d with bound := none }) 4 (.bool false) (by rfl) rfl rfl
        have h2 := h1.poke (bd' := false) (af' := ((0 : Nat) : Int)) (kp' := (k : Int)) (d' := { d with bound := none, down := true }) 3 (.bool true) (by rfl) rfl rfl
        exact ⟨rfl, RV.of (w := w) h2 HS.out.1 (fun k hk => .inl (HS.out.2 k hk)), (((Touch.refl S w).drewN nq).setCell _ _ fun _ => HS.out.1).setCell _ _ fun _ => HS.out.1⟩
end Go.Proofs.Ytnfefjlplipeiab
