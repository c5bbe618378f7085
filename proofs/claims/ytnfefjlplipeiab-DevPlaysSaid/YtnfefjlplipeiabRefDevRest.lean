/-
  The walks of the document's file of bytes: New, Sync, Fail, Start, Damage, All, Cut. Condition: the block stands for the machine.
-/
import Derived.Test.YtnfefjlplipeiabRefDev
import Derived.Test.YtnfefjlplipeiabDevOk
namespace Go.Proofs.Ytnfefjlplipeiab
open Go.RowKit Go.BigFrame
set_option linter.unusedVariables false
set_option linter.unusedSimpArgs false

set_option maxHeartbeats 400000 in
theorem refNew_yes (q : Nat) (w : World) (h : q ≤ 1048576) :
    Calls Try.prog 37 #[.int .i64 (q : Int)] w fun e w' => e = .returned (.tuple #[.pointer (some ⟨w.heap.size, 0, none⟩), .int .i64 0]) ∧ RV w' (fun j => w.heap.size ≤ j) w.heap.size (Dv.fresh q) ∧ Keeps w w' := by
  have h0 : ¬ (q : Int) < 0 := by omega
  have h1 : ¬ (1048576 : Int) < (q : Int) := by omega
  go_enter Try.func37, Try.ntmps37
  go_wp2
  go_ret2
  refine ⟨rfl, ⟨.slice none 0 0, false, 0, 0, ⟨obj_new w _, OwnL.empty _ _ _ _, rfl⟩, Nat.le_refl _, ?_⟩, (Keeps.refl w).alloc _⟩
  intro k hk; rw [blk_empty] at hk; cases hk
set_option maxHeartbeats 400000 in
theorem refNew_no (q : Int) (w : World) (h : q < 0 ∨ 1048576 < q) :
    Calls Try.prog 37 #[.int .i64 q] w fun e w' => e = .returned (.tuple #[.pointer none, .int .i64 1]) ∧ w = w' := by
  by_cases h0 : q < 0
  · clear h
    go_enter Try.func37, Try.ntmps37
    go_wp2
    go_ret2
    exact ⟨rfl, rfl⟩
  · have h1 : 1048576 < q := by omega
    clear h
    go_enter Try.func37, Try.ntmps37
    go_wp2
    go_ret2
    exact ⟨rfl, rfl⟩

set_option maxHeartbeats 1000000 in
theorem refAll_calls (g : Nat) (S : Nat → Prop) (d : Dv) (w : World) (hd : RV w S g d) (hok : d.Ok) :
    Calls Try.prog 59 #[.pointer (some ⟨g, 0, none⟩)] w fun e w' => ∃ v, e = .returned v ∧ OwnL 5 w' w.heap.size v d.b ∧ Keeps w w' := by
  obtain ⟨v, bd, af, kp, hat, hSg, hSv⟩ := hd
  have hsz := hok.size
  obtain ⟨A, c, rfl, hlc, hr, _⟩ := hat.2.1.form
  obtain ⟨c0, c1, c2, c3, c4, c5, c6, c7, c8, fz⟩ := rv_cells hat.1
  have HR := Lib.hid hr
  clear hat hSg hSv hr
  go_enter Try.func59, Try.ntmps59
  go_wp2_with fail
  go_still_tail 9, (by kernel_rfl)
  change wpList _ _ _ _ _ w.drew
  go_wp2_with fail
  refine (first_calls A c d.b.length d.b w.drew (by omega) (Nat.le_refl _) (by omega) HR.out).mono ?_
  rintro e w' ⟨v, rfl, h1, h2'⟩
  have h2 := (Keeps.drew w).trans h2'
  rw [List.take_length] at h1
  go_wp2
  go_ret
  exact ⟨v, rfl, h1, h2⟩

set_option maxHeartbeats 1000000 in
theorem refSync_calls (g : Nat) (S : Nat → Prop) (d : Dv) (w : World) (hd : RV w S g d) :
    Calls Try.prog 52 #[.pointer (some ⟨g, 0, none⟩)] w fun e w' => e = .returned (.int .i64 d.sync.2) ∧ RV w' (More S w) g d.sync.1 ∧ Touch S w w' := by
  have HD := Lib.hid hd
  obtain ⟨v, bd, af, kp, hat, hSg, hSv⟩ := hd
  obtain ⟨A, c, rfl, _⟩ := hat.2.1.form
  obtain ⟨c0, c1, c2, c3, c4, c5, c6, c7, c8, fz⟩ := rv_cells hat.1
  have HAT := Lib.hid hat
  have HS := Lib.hid (show S g ∧ ∀ k, blk (.slice A d.b.length c) = some k → S k from ⟨hSg, hSv⟩)
  clear hat hSg hSv
  cases hdn : d.down with
  | true =>
    rw [hdn] at c3
    have e1 : d.sync = (d, 50) := by unfold Dv.sync; rw [if_pos hdn]
    rw [e1]
    clear e1 hdn
    go_enter Try.func52, Try.ntmps52
    go_wp2
    go_ret
    exact ⟨rfl, HD.out.mono fun _ _ h => .inl h, Touch.refl _ _⟩
  | false =>
    rw [hdn] at c3
    have e1 : d.sync = ({ d with synced := d.b.length }, 0) := by unfold Dv.sync; rw [if_neg (by rw [hdn]; decide)]
    rw [e1]
    clear e1 hdn
    go_enter Try.func52, Try.ntmps52
    go_wp2
    go_ret
    exact ⟨rfl, RV.of (w := w) (HAT.out.poke (bd' := bd) (af' := af) (kp' := kp) (d' := { d with synced := d.b.length }) 2 (.int .i64 (d.b.length : Int)) (by rfl) rfl HAT.out.2.2) HS.out.1 (fun k hk => .inl (HS.out.2 k hk)), (Touch.refl S w).setCell _ _ fun _ => HS.out.1⟩

set_option maxHeartbeats 1000000 in
theorem refStart_calls (g : Nat) (S : Nat → Prop) (d : Dv) (w : World) (hd : RV w S g d) :
    Calls Try.prog 56 #[.pointer (some ⟨g, 0, none⟩)] w fun e w' => e = .returned (.int .i64 d.start.2) ∧ RV w' (More S w) g d.start.1 ∧ Touch S w w' := by
  have HD := Lib.hid hd
  obtain ⟨v, bd, af, kp, hat, hSg, hSv⟩ := hd
  obtain ⟨c0, c1, c2, c3, c4, c5, c6, c7, c8, fz⟩ := rv_cells hat.1
  have HAT := Lib.hid hat
  have HS := Lib.hid (show S g ∧ ∀ k, blk v = some k → S k from ⟨hSg, hSv⟩)
  clear hat hSg hSv
  cases hdn : d.down with
  | true =>
    rw [hdn] at c3
    have e1 : d.start = ({ d with down := false }, 0) := by unfold Dv.start; rw [if_pos hdn]
    rw [e1]
    clear e1 hdn
    go_enter Try.func56, Try.ntmps56
    go_wp2
    go_ret
    exact ⟨rfl, RV.of (w := w) (HAT.out.poke (bd' := bd) (af' := af) (kp' := kp) (d' := { d with down := false }) 3 (.bool false) (by rfl) rfl HAT.out.2.2) HS.out.1 (fun k hk => .inl (HS.out.2 k hk)), (Touch.refl S w).setCell _ _ fun _ => HS.out.1⟩
  | false =>
    rw [hdn] at c3
    have e1 : d.start = (d, 6) := by unfold Dv.start; rw [if_neg (by rw [hdn]; decide)]
    rw [e1]
    clear e1 hdn
    go_enter Try.func56, Try.ntmps56
    go_wp2
    go_ret
    exact ⟨rfl, HD.out.mono fun _ _ h => .inl h, Touch.refl _ _⟩

set_option maxHeartbeats 1000000 in
theorem refFail_calls (g : Nat) (S : Nat → Prop) (d : Dv) (a k : Int) (w : World) (hd : RV w S g d) :
    Calls Try.prog 55 #[.pointer (some ⟨g, 0, none⟩), .int .i64 a, .int .i64 k] w fun e w' => e = .returned (.int .i64 (d.fail a k).2) ∧ RV w' (More S w) g (d.fail a k).1 ∧ Touch S w w' := by
  have HD := Lib.hid hd
  obtain ⟨v, bd, af, kp, hat, hSg, hSv⟩ := hd
  obtain ⟨c0, c1, c2, c3, c4, c5, c6, c7, c8, fz⟩ := rv_cells hat.1
  have HAT := Lib.hid hat
  have HS := Lib.hid (show S g ∧ ∀ k, blk v = some k → S k from ⟨hSg, hSv⟩)
  clear hat hSg hSv
  cases hdn : d.down with
  | true =>
    rw [hdn] at c3
    have e1 : d.fail a k = (d, 50) := by unfold Dv.fail; rw [if_pos hdn]
    rw [e1]
    clear e1 hdn
    go_enter Try.func55, Try.ntmps55
    go_wp2
    go_ret
    exact ⟨rfl, HD.out.mono fun _ _ h => .inl h, Touch.refl _ _⟩
  | false =>
    rw [hdn] at c3
    by_cases h0 : a < 0 ∨ k < 0
    · have e1 : d.fail a k = (d, 1) := by unfold Dv.fail; rw [if_neg (by rw [hdn]; decide), if_pos h0]
      rw [e1]
      clear e1 hdn
      by_cases h1 : a < 0
      · clear h0
        go_enter Try.func55, Try.ntmps55
        go_wp2
        go_ret
        exact ⟨rfl, HD.out.mono fun _ _ h => .inl h, Touch.refl _ _⟩
      · have h2 : k < 0 := by omega
        clear h0
        go_enter Try.func55, Try.ntmps55
        go_wp2
        go_ret
        exact ⟨rfl, HD.out.mono fun _ _ h => .inl h, Touch.refl _ _⟩
    · obtain ⟨a', rfl⟩ := Int.eq_ofNat_of_zero_le (show 0 ≤ a by omega)
      obtain ⟨k', rfl⟩ := Int.eq_ofNat_of_zero_le (show 0 ≤ k by omega)
      have e1 : d.fail (a' : Int) (k' : Int) = ({ d with bound := some (a', k') }, 0) := by unfold Dv.fail; rw [if_neg (by rw [hdn]; decide), if_neg h0]; rfl
      rw [e1]
      have h1 : ¬ (a' : Int) < 0 := by omega
      have h2 : ¬ (k' : Int) < 0 := by omega
      clear e1 hdn h0
      go_enter Try.func55, Try.ntmps55
      go_wp2
      go_ret
      have hg1 := obj_set (obj_set (obj_set HAT.out.1 4 (.bool true)) 5 (.int .i64 (a' : Int))) 6 (.int .i64 (k' : Int))
      have hT : Touch (At g) w (((w.setCell ⟨g, 4, none⟩ (.bool true)).setCell ⟨g, 5, none⟩ (.int .i64 (a' : Int))).setCell ⟨g, 6, none⟩ (.int .i64 (k' : Int))) := (((Touch.refl (At g) w).set 4 _).set 5 _).set 6 _
      exact ⟨rfl, RV.of (w := w) (v' := v) (bd := true) (af := (a' : Int)) (kp := (k' : Int)) ⟨hg1, HAT.out.2.1.keep hT (fun j hj e => HAT.out.apart (by rw [hj]; exact congrArg some e)), rfl, rfl, rfl⟩ HS.out.1 (fun k hk => .inl (HS.out.2 k hk)), hT.mono fun j _ h => by rw [show j = g from h]; exact HS.out.1⟩

set_option maxHeartbeats 1000000 in
theorem refDamage_calls (g : Nat) (S : Nat → Prop) (d : Dv) (a : Int) (x : UInt8) (w : World) (hd : RV w S g d) (hok : d.Ok) :
    Calls Try.prog 57 #[.pointer (some ⟨g, 0, none⟩), .int .i64 a, .int .u8 ((x.toNat : Nat) : Int)] w fun e w' => e = .returned (.int .i64 (d.damage a x).2) ∧ RV w' (More S w) g (d.damage a x).1 ∧ Touch S w w' := by
  have HD := Lib.hid hd
  obtain ⟨v, bd, af, kp, hat, hSg, hSv⟩ := hd
  have hsz := hok.size
  obtain ⟨A, c, rfl, hlc, hr, _⟩ := hat.2.1.form
  obtain ⟨c0, c1, c2, c3, c4, c5, c6, c7, c8, fz⟩ := rv_cells hat.1
  have HAT := Lib.hid hat
  have HS := Lib.hid (show S g ∧ ∀ k, blk (.slice A d.b.length c) = some k → S k from ⟨hSg, hSv⟩)
  clear hat hSg hSv hr
  by_cases h0 : a < 0 ∨ (d.b.length : Int) ≤ a
  · have e1 : d.damage a x = (d, 7) := by unfold Dv.damage; rw [if_pos h0]
    rw [e1]
    clear e1
    by_cases h1 : a < 0
    · clear h0
      go_enter Try.func57, Try.ntmps57
      go_wp2
      go_ret
      exact ⟨rfl, HD.out.mono fun _ _ h => .inl h, Touch.refl _ _⟩
    · have h2 : (d.b.length : Int) ≤ a := by omega
      clear h0
      go_enter Try.func57, Try.ntmps57
      go_wp2
      go_ret
      exact ⟨rfl, HD.out.mono fun _ _ h => .inl h, Touch.refl _ _⟩
  · have e1 : d.damage a x = ({ d with b := d.b.set a.toNat x }, 0) := by unfold Dv.damage; rw [if_neg h0]
    rw [e1]
    clear e1
    obtain ⟨n, rfl⟩ := Int.eq_ofNat_of_zero_le (show 0 ≤ a by omega)
    have hn : n < d.b.length := by omega
    obtain ⟨b0, bc, hb1, _, hbs, _, hblk⟩ := HAT.out.2.1.block (by omega)
    obtain ⟨hst, hce, hfr⟩ := OwnL.store (by rw [← hb1]; exact HAT.out.2.1) n hn x
    have h1 : ¬ (n : Int) < 0 := by omega
    have h2 : ¬ (d.b.length : Int) ≤ (n : Int) := by omega
    injection hb1 with hb2 hb3 hb4
    subst hb2
    subst hb4
    have HST := Lib.hid hst
    clear h0 hst
    go_enter Try.func57, Try.ntmps57
    go_wp2
    go_ret
    have a1 := HAT.out.apart
    rw [hblk] at a1
    have hT : Touch (At b0) w (w.setCell ⟨b0, n, none⟩ (.int .u8 ((x.toNat : Nat) : Int))) := (Touch.refl (At b0) w).set n _
    exact ⟨rfl, RV.of (w := w) (bd := bd) (af := af) (kp := kp) (v' := .slice (some ⟨b0, 0, none⟩) d.b.length c) ⟨hT.obj HAT.out.1 (fun e => a1 (congrArg some (show g = b0 from e).symm)), HST.out, HAT.out.2.2⟩ HS.out.1 (fun k hk => .inl (HS.out.2 k hk)), hT.mono fun j _ h => by rw [show j = b0 from h]; exact HS.out.2 _ hblk⟩
end Go.Proofs.Ytnfefjlplipeiab
