/-
  The walks of Sync, Fail, Start, Up, Damage and of what tells how it stands. Condition: the block stands for the machine.
-/
import Derived.Test.YtnfefjlplipeiabDevWrite
import Derived.Test.YtnfefjlplipeiabClone
namespace Go.Proofs.Ytnfefjlplipeiab
open Go.RowKit Go.BigFrame
set_option linter.unusedVariables false
set_option linter.unusedSimpArgs false

theorem DvAt.apart {w : World} {g : Nat} {v bp does : Value} {d : Dv} (h : DvAt w g v bp does d) : blk v ≠ some g ∧ ∀ k, bpBlock bp = some k → k ≠ g ∧ blk v ≠ some k := by
  obtain ⟨hg, ho, hbp⟩ := h
  refine ⟨ho.ne hg (by decide), fun k hk => ?_⟩
  cases hx : d.bound with
  | none => rw [hx] at hbp; rw [show bp = _ from hbp] at hk; simp [bpBlock] at hk
  | some x =>
    rw [hx] at hbp
    obtain ⟨f, rfl, hf⟩ := hbp
    simp only [bpBlock, Option.some.injEq] at hk
    subst hk
    refine ⟨fun e => ?_, ho.ne hf (by decide)⟩
    subst e
    rw [hg] at hf
    injection hf with h1
    injection h1 with h2 h3 h4
    revert h3
    decide
theorem DvAt.poke {w : World} {g : Nat} {v bp does does' : Value} {d d' : Dv} (h : DvAt w g v bp does d) (i : Nat) (u : Value) (hc : (dvCells v d.quota d.synced d.down bp d.counted d.deeds does).setIfInBounds i u = dvCells v d'.quota d'.synced d'.down bp d'.counted d'.deeds does') (hb : d'.b = d.b) (hbd : d'.bound = d.bound) :
    DvAt (w.setCell ⟨g, i, none⟩ u) g v bp does' d' := by
  obtain ⟨hg, ho, hbp⟩ := h
  refine ⟨by rw [← hc]; exact obj_set hg i u, ?_, ?_⟩
  · rw [hb]; exact ho.far (p := ⟨g, i, none⟩) (ho.ne hg (by decide)) _
  · rw [hbd]
    refine hbp.keep ((Touch.refl (At g) w).set i u) fun k hk e => ?_
    cases hx : d.bound with
    | none => rw [hx] at hbp; rw [show bp = _ from hbp] at hk; simp [bpBlock] at hk
    | some x =>
      rw [hx] at hbp
      obtain ⟨f, rfl, hf⟩ := hbp
      simp only [bpBlock, Option.some.injEq] at hk
      cases e
      subst hk
      rw [hg] at hf
      injection hf with h1
      injection h1 with h2 h3 h4
      revert h3
      decide
theorem DV.of {w w' : World} {S : Nat → Prop} {g : Nat} {v' bp' : Value} {d' : Dv} (h : DvAt w' g v' bp' .nilFunc d') (hS : S g) (hv : ∀ k, blk v' = some k → S k ∨ w.heap.size ≤ k) (hb : ∀ k, bpBlock bp' = some k → S k ∨ w.heap.size ≤ k) : DV w' (More S w) g d' :=
  ⟨v', bp', .nilFunc, h, .inl hS, hv, hb, rfl⟩

set_option maxHeartbeats 1000000 in
theorem devSync_calls (g : Nat) (S : Nat → Prop) (d : Dv) (w : World) (hd : DV w S g d) :
    Calls Try.prog 23 #[.pointer (some ⟨g, 0, none⟩)] w fun e w' => e = .returned (.int .i64 d.sync.2) ∧ DV w' (More S w) g d.sync.1 ∧ Touch S w w' := by
  have HD := Lib.hid hd
  obtain ⟨v, bp, does, hat, hSg, hSv, hSb, rfl⟩ := hd
  obtain ⟨A, c, rfl, _⟩ := hat.2.1.form
  obtain ⟨c0, c1, c2, c3, c4, c5, c6, c7, fz⟩ := dv_cells hat.1
  have HAT := Lib.hid hat
  have HSG := Lib.hid hSg
  have HSV := Lib.hid hSv
  have HSB := Lib.hid hSb
  clear hat hSg hSv hSb
  cases hdn : d.down with
  | true =>
    rw [hdn] at c3
    have e1 : d.sync = (d, 50) := by unfold Dv.sync; rw [if_pos hdn]
    rw [e1]
    clear e1 hdn
    go_enter Try.func23, Try.ntmps23
    go_wp2
    go_ret
    exact ⟨rfl, HD.out.mono fun _ _ h => .inl h, Touch.refl _ _⟩
  | false =>
    rw [hdn] at c3
    have e1 : d.sync = ({ d with synced := d.b.length }, 0) := by unfold Dv.sync; rw [if_neg (by rw [hdn]; decide)]
    rw [e1]
    clear e1 hdn
    go_enter Try.func23, Try.ntmps23
    go_wp2
    go_ret
    exact ⟨rfl, DV.of (w := w) ((HAT.out.poke 2 (.int .i64 (d.b.length : Int)) (by rfl) rfl rfl)) HSG.out (fun k hk => .inl (HSV.out k hk)) (fun k hk => .inl (HSB.out k hk)), ((Touch.refl S w).setCell _ _ fun _ => HSG.out)⟩

set_option maxHeartbeats 1000000 in
theorem devStart_calls (g : Nat) (S : Nat → Prop) (d : Dv) (w : World) (hd : DV w S g d) :
    Calls Try.prog 31 #[.pointer (some ⟨g, 0, none⟩)] w fun e w' => e = .returned (.int .i64 d.start.2) ∧ DV w' (More S w) g d.start.1 ∧ Touch S w w' := by
  have HD := Lib.hid hd
  obtain ⟨v, bp, does, hat, hSg, hSv, hSb, rfl⟩ := hd
  obtain ⟨c0, c1, c2, c3, c4, c5, c6, c7, fz⟩ := dv_cells hat.1
  have HAT := Lib.hid hat
  have HSG := Lib.hid hSg
  have HSV := Lib.hid hSv
  have HSB := Lib.hid hSb
  clear hat hSg hSv hSb
  cases hdn : d.down with
  | true =>
    rw [hdn] at c3
    have e1 : d.start = ({ d with down := false }, 0) := by unfold Dv.start; rw [if_pos hdn]
    rw [e1]
    clear e1 hdn
    go_enter Try.func31, Try.ntmps31
    go_wp2
    go_ret
    exact ⟨rfl, DV.of (w := w) ((HAT.out.poke 3 (.bool false) (by rfl) rfl rfl)) HSG.out (fun k hk => .inl (HSV.out k hk)) (fun k hk => .inl (HSB.out k hk)), ((Touch.refl S w).setCell _ _ fun _ => HSG.out)⟩
  | false =>
    rw [hdn] at c3
    have e1 : d.start = (d, 6) := by unfold Dv.start; rw [if_neg (by rw [hdn]; decide)]
    rw [e1]
    clear e1 hdn
    go_enter Try.func31, Try.ntmps31
    go_wp2
    go_ret
    exact ⟨rfl, HD.out.mono fun _ _ h => .inl h, Touch.refl _ _⟩

set_option maxHeartbeats 1000000 in
theorem devFail_calls (g : Nat) (S : Nat → Prop) (d : Dv) (a k : Int) (w : World) (hd : DV w S g d) :
    Calls Try.prog 24 #[.pointer (some ⟨g, 0, none⟩), .int .i64 a, .int .i64 k] w fun e w' => e = .returned (.int .i64 (d.fail a k).2) ∧ DV w' (More S w) g (d.fail a k).1 ∧ Touch S w w' := by
  have HD := Lib.hid hd
  obtain ⟨v, bp, does, hat, hSg, hSv, hSb, rfl⟩ := hd
  obtain ⟨c0, c1, c2, c3, c4, c5, c6, c7, fz⟩ := dv_cells hat.1
  have hgs := obj_lt hat.1
  have HAT := Lib.hid hat
  have HSG := Lib.hid hSg
  have HSV := Lib.hid hSv
  have HSB := Lib.hid hSb
  clear hat hSg hSv hSb
  cases hdn : d.down with
  | true =>
    rw [hdn] at c3
    have e1 : d.fail a k = (d, 50) := by unfold Dv.fail; rw [if_pos hdn]
    rw [e1]
    clear e1 hdn
    go_enter Try.func24, Try.ntmps24
    go_wp2
    go_ret
    exact ⟨rfl, HD.out.mono fun _ _ h => .inl h, Touch.refl _ _⟩
  | false =>
    rw [hdn] at c3
    by_cases h0 : a < 0 ∨ k < 0
    · have e1 : d.fail a k = (d, 1) := by unfold Dv.fail; rw [if_neg (by rw [hdn]; decide), if_pos h0]
      rw [e1]
      clear e1 hdn
      by_cases h1 : a < 0
      · clear h0
        go_enter Try.func24, Try.ntmps24
        go_wp2
        go_ret
        exact ⟨rfl, HD.out.mono fun _ _ h => .inl h, Touch.refl _ _⟩
      · have h2 : k < 0 := by omega
        clear h0
        go_enter Try.func24, Try.ntmps24
        go_wp2
        go_ret
        exact ⟨rfl, HD.out.mono fun _ _ h => .inl h, Touch.refl _ _⟩
    · have e1 : d.fail a k = ({ d with bound := some (a.toNat, k.toNat) }, 0) := by unfold Dv.fail; rw [if_neg (by rw [hdn]; decide), if_neg h0]
      rw [e1]
      clear e1 hdn
      have h1 : ¬ a < 0 := by omega
      have h2 : ¬ k < 0 := by omega
      clear h0
      go_enter Try.func24, Try.ntmps24
      go_wp2
      go_ret
      have hg1 := obj_old (obj_set HAT.out.1 4 (.pointer (some ⟨w.heap.size, 0, none⟩))) (.cells #[.int .i64 a, .int .i64 k] 65)
      have hT : Touch (At g) w ((w.setCell ⟨g, 4, none⟩ (.pointer (some ⟨w.heap.size, 0, none⟩))).alloc (.cells #[.int .i64 a, .int .i64 k] 65)) := ((Touch.refl (At g) w).set 4 _).alloc _
      have ho := HAT.out.2.1
      refine ⟨rfl, DV.of (w := w) (v' := v) (bp' := .pointer (some ⟨w.heap.size, 0, none⟩)) ⟨hg1, ho.keep hT (fun j hj e => ho.ne HAT.out.1 (by decide) (by rw [hj]; exact congrArg some e)), w.heap.size, rfl, ?_⟩ HSG.out (fun k hk => .inl (HSV.out k hk)) (fun k hk => .inr ?_), hT.mono fun j _ h => by rw [show j = g from h]; exact HSG.out⟩
      · rw [show ((a.toNat : Nat) : Int) = a by omega, show ((k.toNat : Nat) : Int) = k by omega]
        exact obj_new_at _ _ _ (by simp [World.setCell])
      · simp only [bpBlock, Option.some.injEq] at hk; omega

set_option maxHeartbeats 1000000 in
theorem devDamage_calls (g : Nat) (S : Nat → Prop) (d : Dv) (a : Int) (x : UInt8) (w : World) (hd : DV w S g d) (hok : d.Ok) :
    Calls Try.prog 32 #[.pointer (some ⟨g, 0, none⟩), .int .i64 a, .int .u8 ((x.toNat : Nat) : Int)] w fun e w' => e = .returned (.int .i64 (d.damage a x).2) ∧ DV w' (More S w) g (d.damage a x).1 ∧ Touch S w w' := by
  have HD := Lib.hid hd
  obtain ⟨v, bp, does, hat, hSg, hSv, hSb, rfl⟩ := hd
  have hsz := hok.size
  obtain ⟨A, c, rfl, hlc, hr, _⟩ := hat.2.1.form
  obtain ⟨c0, c1, c2, c3, c4, c5, c6, c7, fz⟩ := dv_cells hat.1
  have hgs := obj_lt hat.1
  have HAT := Lib.hid hat
  have HSG := Lib.hid hSg
  have HSV := Lib.hid hSv
  have HSB := Lib.hid hSb
  clear hat hSg hSv hSb hr
  by_cases h0 : a < 0 ∨ (d.b.length : Int) ≤ a
  · have e1 : d.damage a x = (d, 7) := by unfold Dv.damage; rw [if_pos h0]
    rw [e1]
    clear e1
    by_cases h1 : a < 0
    · clear h0
      go_enter Try.func32, Try.ntmps32
      go_wp2
      go_ret
      exact ⟨rfl, HD.out.mono fun _ _ h => .inl h, Touch.refl _ _⟩
    · have h2 : (d.b.length : Int) ≤ a := by omega
      clear h0
      go_enter Try.func32, Try.ntmps32
      go_wp2
      go_ret
      exact ⟨rfl, HD.out.mono fun _ _ h => .inl h, Touch.refl _ _⟩
  · have e1 : d.damage a x = ({ d with b := d.b.set a.toNat x }, 0) := by unfold Dv.damage; rw [if_neg h0]
    rw [e1]
    clear e1
    obtain ⟨n, rfl⟩ := Int.eq_ofNat_of_zero_le (show 0 ≤ a by omega)
    have hn : n < d.b.length := by omega
    obtain ⟨b0, bc, hb1, _, hbs, _, hblk⟩ := HAT.out.2.1.block (by omega)
    obtain ⟨hst, hce, hfr⟩ := OwnL.store (by rw [← hb1]; exact HAT.out.2.1) n hn x
    have h1 : ¬ (n : Int) < 0 := by omega
    have h2 : ¬ (d.b.length : Int) ≤ (n : Int) := by omega
    injection hb1 with hb2 hb3 hb4
    subst hb2
    subst hb4
    have HST := Lib.hid hst
    clear h0 hst
    go_enter Try.func32, Try.ntmps32
    go_wp2
    go_ret
    obtain ⟨a1, a2⟩ := HAT.out.apart
    rw [hblk] at a1 a2
    have hT : Touch (At b0) w (w.setCell ⟨b0, n, none⟩ (.int .u8 ((x.toNat : Nat) : Int))) := (Touch.refl (At b0) w).set n _
    refine ⟨rfl, DV.of (w := w) (v' := .slice (some ⟨b0, 0, none⟩) d.b.length c) (bp' := bp) ⟨hT.obj HAT.out.1 (fun e => a1 (congrArg some (show g = b0 from e).symm)), HST.out, HAT.out.2.2.keep hT fun k hk e => (a2 k hk).2 (congrArg some (show k = b0 from e).symm)⟩ HSG.out (fun k hk => .inl (HSV.out k hk)) (fun k hk => .inl (HSB.out k hk)), hT.mono fun j _ h => by rw [show j = b0 from h]; exact HSV.out _ hblk⟩

/-! ### what tells how it stands -/
section
variable (g : Nat) (S : Nat → Prop) (d : Dv) (w : World) (hd : DV w S g d)
include hd
set_option maxHeartbeats 400000 in
theorem devLen_calls : Calls Try.prog 35 #[.pointer (some ⟨g, 0, none⟩)] w fun e w' => e = .returned (.int .i64 (d.b.length : Int)) ∧ w = w' := by
  obtain ⟨v, bp, does, hat, hSg, hSv, hSb, rfl⟩ := hd
  obtain ⟨A, c, rfl, _⟩ := hat.2.1.form
  obtain ⟨c0, c1, c2, c3, c4, c5, c6, c7, fz⟩ := dv_cells hat.1
  clear hat hSg hSv hSb
  go_enter Try.func35, Try.ntmps35
  go_wp2
  go_ret
  exact ⟨rfl, rfl⟩
set_option maxHeartbeats 400000 in
theorem devSynced_calls : Calls Try.prog 29 #[.pointer (some ⟨g, 0, none⟩)] w fun e w' => e = .returned (.int .i64 (d.synced : Int)) ∧ w = w' := by
  obtain ⟨v, bp, does, hat, hSg, hSv, hSb, rfl⟩ := hd
  obtain ⟨c0, c1, c2, c3, c4, c5, c6, c7, fz⟩ := dv_cells hat.1
  clear hat hSg hSv hSb
  go_enter Try.func29, Try.ntmps29
  go_wp2
  go_ret
  exact ⟨rfl, rfl⟩
set_option maxHeartbeats 400000 in
theorem devWritten_calls : Calls Try.prog 26 #[.pointer (some ⟨g, 0, none⟩)] w fun e w' => e = .returned (.int .i64 (d.deeds : Int)) ∧ w = w' := by
  obtain ⟨v, bp, does, hat, hSg, hSv, hSb, rfl⟩ := hd
  obtain ⟨c0, c1, c2, c3, c4, c5, c6, c7, fz⟩ := dv_cells hat.1
  clear hat hSg hSv hSb
  go_enter Try.func26, Try.ntmps26
  go_wp2
  go_ret
  exact ⟨rfl, rfl⟩
set_option maxHeartbeats 400000 in
theorem devUp_calls : Calls Try.prog 25 #[.pointer (some ⟨g, 0, none⟩)] w fun e w' => e = .returned (.bool (!d.down)) ∧ w = w' := by
  obtain ⟨v, bp, does, hat, hSg, hSv, hSb, rfl⟩ := hd
  obtain ⟨c0, c1, c2, c3, c4, c5, c6, c7, fz⟩ := dv_cells hat.1
  clear hat hSg hSv hSb
  go_enter Try.func25, Try.ntmps25
  go_wp2
  go_ret
  exact ⟨rfl, rfl⟩
end
end Go.Proofs.Ytnfefjlplipeiab
