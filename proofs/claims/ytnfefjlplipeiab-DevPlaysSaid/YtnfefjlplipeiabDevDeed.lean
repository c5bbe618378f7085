/-
  The walks of deed: no failure bound; one bound behind more deeds; one bound to come now. Condition: the block stands for the machine.
-/
import Derived.Test.YtnfefjlplipeiabDevPut
import Derived.Defers
import Derived.StillTailTactics
namespace Go.Proofs.Ytnfefjlplipeiab
open Go.RowKit
set_option linter.unusedVariables false
set_option linter.unusedSimpArgs false

set_option maxHeartbeats 400000 in
theorem deed1_deferred (p g : Nat) (x : Value) (u : FrameMode) (w : World) (hp : w.cell? ⟨p, 0, none⟩ = some (.pointer (some ⟨g, 0, none⟩))) (hx : w.cell? ⟨g, 7, none⟩ = some x) (hf : w.frozen? ⟨g, 7, none⟩ = false) :
    CallsD Try.prog 69 #[.pointer (some ⟨p, 0, none⟩)] u w fun e u' w' => u' = u ∧ (e = .returned (.tuple #[]) ∧ w' = w.setCell ⟨g, 7, none⟩ .nilFunc) := by
  go_enter_d Try.func69, Try.ntmps69
  go_wp2
  go_end0
  exact ⟨rfl, rfl⟩

/-- what a deed's closure does -/
def DoesPost (w1 : World) (g : Nat) (v bp does : Value) (d2 : Dv) (e : Ending) (w2 : World) : Prop :=
  e = .returned (.tuple #[]) ∧ ∃ v', DvAt w2 g v' bp does d2 ∧ (blk v' = blk v ∨ ∃ k, blk v' = some k ∧ w1.heap.size ≤ k) ∧ Touch (fun j => j = g ∨ blk v = some j) w1 w2

set_option maxRecDepth 100000 in
set_option maxHeartbeats 2000000 in
theorem deed_none (F : Nat) (caps : Array Value) (hcf : ∀ (w : World), (callFunc F caps).run Try.prog w = .ok (.enter F caps) w) (g : Nat) (v does0 : Value) (d d2 : Dv) (w : World) (hb : d.bound = none) (hd : DvAt w g v (.pointer none) does0 d) (hdd : d.deeds ≤ 9223372036854775806)
    (hF : ∀ w1, DvAt w1 g v (.pointer none) (.func (.func F) #[] caps) d.deed.1 → Touch (At g) w w1 → Calls Try.prog F caps w1 (DoesPost w1 g v (.pointer none) (.func (.func F) #[] caps) d2)) :
    Calls Try.prog 46 #[.pointer (some ⟨g, 0, none⟩), .func (.func F) #[] caps] w fun e w' => e = .returned (.int .i64 0) ∧ ∃ v', DvAt w' g v' (.pointer none) .nilFunc d2 ∧ (blk v' = blk v ∨ ∃ k, blk v' = some k ∧ w.heap.size ≤ k) ∧ Touch (fun j => j = g ∨ blk v = some j) w w' := by
  have hmf : ∀ (fn : Fn) (first cap : Array Value) (w : World), (Instr.makeFunc fn first cap).run Try.prog w = .ok (.func fn first cap) w := fun _ _ _ _ => rfl
  obtain ⟨hg, ho, _⟩ := hd
  obtain ⟨c0, c1, c2, c3, c4, c5, c6, c7, fz⟩ := dv_cells hg
  have hgs := obj_lt hg
  have HG := Lib.hid hg
  have HO := Lib.hid ho
  have HF := Lib.hid hF
  have HB := Lib.hid hb
  clear hg ho hF hb
  go_enter_defers Try.func46, Try.ntmps46
  go_wp2_with fail
  have hW : DvAt (((w.setCell ⟨g, 7, none⟩ (.func (.func F) #[] caps)).setCell ⟨g, 6, none⟩ (.int .i64 ((d.deeds : Int) + 1))).alloc (.cells #[.pointer (some ⟨g, 0, none⟩)] 34)) g v (.pointer none) (.func (.func F) #[] caps) d.deed.1 := by
    have hdd : d.deed.1 = { d with deeds := d.deeds + 1 } := by unfold Dv.deed; rw [HB.out]
    rw [hdd]
    have hne := HO.out.ne HG.out (by decide)
    refine ⟨obj_old (obj_set (obj_set HG.out 7 _) 6 _) _, ?_, ?_⟩
    · exact HO.out.keep ((((Touch.refl (At g) w).set 7 _).set 6 _).alloc _) (fun k hk e => hne (by rw [hk, e]))
    · rw [HB.out]; rfl
  have hT : Touch (At g) w (((w.setCell ⟨g, 7, none⟩ (.func (.func F) #[] caps)).setCell ⟨g, 6, none⟩ (.int .i64 ((d.deeds : Int) + 1))).alloc (.cells #[.pointer (some ⟨g, 0, none⟩)] 34)) := (((Touch.refl (At g) w).set 7 _).set 6 _).alloc _
  refine (HF.out _ hW hT).mono ?_
  rintro e w2 ⟨rfl, v', hd2, hv2, ht2⟩
  have hbox := ht2.cell (p := ⟨w.heap.size, 0, none⟩) (v := .pointer (some ⟨g, 0, none⟩)) (by rw [obj_cell (obj_new_at _ _ _ (by simp [World.setCell])) 0]; rfl) (by
    rintro (h | h)
    · simp only at h; omega
    · have := (HO.out.lt _ h).2; simp only at this; omega)
  obtain ⟨e0, e1, e2, e3, e4, e5, e6, e7, ez⟩ := dv_cells hd2.1
  have ez7 := ez 7
  have hTT : Touch (fun j => j = g ∨ blk v = some j) w w2 := (hT.mono fun _ _ h => Or.inl h).then ht2
  have HD2 := Lib.hid hd2
  have HV2 := Lib.hid hv2
  have HTT := Lib.hid hTT
  have hsz := hT.size
  clear hW hT hd2 hv2 ht2 hTT c0 c1 c2 c3 c4 c5 c6 c7 fz ez
  go_wp2
  refine leaves_cons (f := 69) (args := #[.pointer (some ⟨w.heap.size, 0, none⟩)]) (by simp) (by simp [go_sem]) ?_
  refine (deed1_deferred w.heap.size g _ .returning w2 hbox e7 ez7).mono ?_
  rintro e u' w3 ⟨rfl, rfl, rfl⟩
  refine ⟨_, results_tmp rfl _ _ _, rfl, ?_⟩
  obtain ⟨h1, h2, h3⟩ := HD2.out
  have hne := h2.ne h1 (by decide)
  refine ⟨v', ⟨obj_set h1 7 _, h2.far (p := ⟨g, 7, none⟩) hne _, ?_⟩, ?_, HTT.out.setCell _ _ (fun _ => .inl rfl)⟩
  · exact h3.keep ((Touch.refl (At g) w2).set 7 _) (fun k hk => by simp [bpBlock] at hk)
  · rcases HV2.out with h | ⟨k, h, hk⟩
    · exact .inl h
    · exact .inr ⟨k, h, by omega⟩

set_option maxRecDepth 100000 in
set_option maxHeartbeats 2000000 in
theorem deed_more (F : Nat) (caps : Array Value) (hcf : ∀ (w : World), (callFunc F caps).run Try.prog w = .ok (.enter F caps) w) (g f a k : Nat) (v does0 : Value) (d d2 : Dv) (w : World) (hb : d.bound = some (a + 1, k)) (hd : DvAt w g v (.pointer (some ⟨f, 0, none⟩)) does0 d) (hdd : d.deeds ≤ 9223372036854775806) (ha : a ≤ 9223372036854775806)
    (hF : ∀ w1, DvAt w1 g v (.pointer (some ⟨f, 0, none⟩)) (.func (.func F) #[] caps) d.deed.1 → Touch (fun j => j = g ∨ j = f) w w1 → Calls Try.prog F caps w1 (DoesPost w1 g v (.pointer (some ⟨f, 0, none⟩)) (.func (.func F) #[] caps) d2)) :
    Calls Try.prog 46 #[.pointer (some ⟨g, 0, none⟩), .func (.func F) #[] caps] w fun e w' => e = .returned (.int .i64 0) ∧ ∃ v', DvAt w' g v' (.pointer (some ⟨f, 0, none⟩)) .nilFunc d2 ∧ (blk v' = blk v ∨ ∃ k, blk v' = some k ∧ w.heap.size ≤ k) ∧ Touch (fun j => j = g ∨ j = f ∨ blk v = some j) w w' := by
  have hmf : ∀ (fn : Fn) (first cap : Array Value) (w : World), (Instr.makeFunc fn first cap).run Try.prog w = .ok (.func fn first cap) w := fun _ _ _ _ => rfl
  obtain ⟨hg, ho, hbd⟩ := hd
  rw [hb] at hbd
  obtain ⟨f', e0, hf⟩ := hbd
  injection e0 with e0
  injection e0 with e0
  injection e0 with e0
  subst e0
  obtain ⟨c0, c1, c2, c3, c4, c5, c6, c7, fz⟩ := dv_cells hg
  obtain ⟨b0, b1, b2, b3⟩ := cells2 hf
  have hgs := obj_lt hg
  have hfs := obj_lt hf
  have HG := Lib.hid hg
  have HO := Lib.hid ho
  have HF := Lib.hid hF
  have HB := Lib.hid hb
  have HFF := Lib.hid hf
  have hgf : ¬ g = f := by
    intro e
    subst e
    rw [hg] at hf
    injection hf with h1
    injection h1 with h2 h3 h4
    revert h3
    decide
  have hfg : ¬ f = g := fun e => hgf e.symm
  clear hg ho hF hb hf
  go_enter_defers Try.func46, Try.ntmps46
  go_wp2_with fail
  have hT : Touch (fun j => j = g ∨ j = f) w ((((w.setCell ⟨g, 7, none⟩ (.func (.func F) #[] caps)).setCell ⟨f, 0, none⟩ (.int .i64 (a : Int))).setCell ⟨g, 6, none⟩ (.int .i64 ((d.deeds : Int) + 1))).alloc (.cells #[.pointer (some ⟨g, 0, none⟩)] 34)) :=
    ((((Touch.refl (fun j => j = g ∨ j = f) w).setCell _ _ (fun _ => .inl rfl)).setCell _ _ (fun _ => .inr rfl)).setCell _ _ (fun _ => .inl rfl)).alloc _
  have hne := HO.out.ne HG.out (by decide)
  have hnf := HO.out.ne HFF.out (by decide)
  have hW : DvAt ((((w.setCell ⟨g, 7, none⟩ (.func (.func F) #[] caps)).setCell ⟨f, 0, none⟩ (.int .i64 (a : Int))).setCell ⟨g, 6, none⟩ (.int .i64 ((d.deeds : Int) + 1))).alloc (.cells #[.pointer (some ⟨g, 0, none⟩)] 34)) g v (.pointer (some ⟨f, 0, none⟩)) (.func (.func F) #[] caps) d.deed.1 := by
    have hdd : d.deed.1 = { d with bound := some (a, k), deeds := d.deeds + 1 } := by unfold Dv.deed; rw [HB.out]
    rw [hdd]
    refine ⟨obj_old (obj_set (obj_far (obj_set HG.out 7 _) (p := ⟨f, 0, none⟩) hgf _) 6 _) _, ?_, f, rfl, ?_⟩
    · exact HO.out.keep hT (fun j hj h => by
        rcases h with rfl | rfl
        · exact hne hj
        · exact hnf hj)
    · exact obj_old (obj_far (obj_set (obj_far HFF.out (p := ⟨g, 7, none⟩) hfg _) 0 _) (p := ⟨g, 6, none⟩) hfg _) _
  refine (HF.out _ hW hT).mono ?_
  rintro e w2 ⟨rfl, v', hd2, hv2, ht2⟩
  have hbox := ht2.cell (p := ⟨w.heap.size, 0, none⟩) (v := .pointer (some ⟨g, 0, none⟩)) (by rw [obj_cell (obj_new_at _ _ _ (by simp [World.setCell])) 0]; rfl) (by
    rintro (h | h)
    · simp only at h; omega
    · have := (HO.out.lt _ h).2; simp only at this; omega)
  obtain ⟨e0, e1, e2, e3, e4, e5, e6, e7, ez⟩ := dv_cells hd2.1
  have ez7 := ez 7
  have hTT : Touch (fun j => j = g ∨ j = f ∨ blk v = some j) w w2 := (hT.mono fun _ _ h => by
    rcases h with h | h
    · exact Or.inl h
    · exact Or.inr (Or.inl h)).then (ht2.mono fun _ _ h => by
    rcases h with h | h
    · exact Or.inl h
    · exact Or.inr (Or.inr h))
  have HD2 := Lib.hid hd2
  have HV2 := Lib.hid hv2
  have HTT := Lib.hid hTT
  have hsz := hT.size
  clear hW hT hd2 hv2 ht2 hTT c0 c1 c2 c3 c4 c5 c6 c7 fz ez b0 b1 b2 b3
  go_wp2
  refine leaves_cons (f := 69) (args := #[.pointer (some ⟨w.heap.size, 0, none⟩)]) (by simp) (by simp [go_sem]) ?_
  refine (deed1_deferred w.heap.size g _ .returning w2 hbox e7 ez7).mono ?_
  rintro e u' w3 ⟨rfl, rfl, rfl⟩
  refine ⟨_, results_tmp rfl _ _ _, rfl, ?_⟩
  obtain ⟨h1, h2, h3⟩ := HD2.out
  have hne := h2.ne h1 (by decide)
  refine ⟨v', ⟨obj_set h1 7 _, h2.far (p := ⟨g, 7, none⟩) hne _, ?_⟩, ?_, HTT.out.setCell _ _ (fun _ => .inl rfl)⟩
  · exact h3.keep ((Touch.refl (At g) w2).set 7 _) (fun k hk e => by
      simp only [bpBlock, Option.some.injEq] at hk
      exact hfg (hk.trans e))
  · rcases HV2.out with h | ⟨k, h, hk⟩
    · exact .inl h
    · exact .inr ⟨k, h, by omega⟩

set_option maxRecDepth 100000 in
set_option maxHeartbeats 2000000 in
theorem deed_power (fn : Value) (hfn : ∃ F caps, fn = .func (.func F) #[] caps) (g f k : Nat) (v does0 : Value) (d : Dv) (w : World) (hb : d.bound = some (0, k)) (hd : DvAt w g v (.pointer (some ⟨f, 0, none⟩)) does0 d) (hk : k ≤ 9223372036854775807) (hs : d.synced ≤ d.b.length) :
    Calls Try.prog 46 #[.pointer (some ⟨g, 0, none⟩), fn] w fun e w' => e = .returned (.int .i64 51) ∧ ∃ v', DvAt w' g v' (.pointer none) .nilFunc d.deed.1 ∧ blk v' = blk v ∧ Touch (At g) w w' := by
  obtain ⟨F, caps, rfl⟩ := hfn
  have hmf : ∀ (fn : Fn) (first cap : Array Value) (w : World), (Instr.makeFunc fn first cap).run Try.prog w = .ok (.func fn first cap) w := fun _ _ _ _ => rfl
  obtain ⟨hg, ho, hbd⟩ := hd
  rw [hb] at hbd
  obtain ⟨f', e0, hf⟩ := hbd
  injection e0 with e0
  injection e0 with e0
  injection e0 with e0
  subst e0
  obtain ⟨A, c, rfl, hlc, _, hcm, _⟩ := ho.form
  obtain ⟨c0, c1, c2, c3, c4, c5, c6, c7, fz⟩ := dv_cells hg
  obtain ⟨b0, b1, b2, b3⟩ := cells2 hf
  have hgs := obj_lt hg
  have hfs := obj_lt hf
  have HG := Lib.hid hg
  have HO := Lib.hid ho
  have HB := Lib.hid hb
  have HFF := Lib.hid hf
  have hgf : ¬ g = f := by
    intro e
    subst e
    rw [hg] at hf
    injection hf with h1
    injection h1 with h2 h3 h4
    revert h3
    decide
  have hfg : ¬ f = g := fun e => hgf e.symm
  obtain ⟨m, hm, hmle⟩ : ∃ m : Nat, min ((d.b.length : Int) - (d.synced : Int)) (k : Int) = (m : Int) ∧ m = min (d.b.length - d.synced) k := by
    refine ⟨min (d.b.length - d.synced) k, ?_, rfl⟩
    omega
  have hle : m + d.synced ≤ d.b.length := by omega
  have hle2 : m + d.synced ≤ c := by omega
  have HM := Lib.hid hmle
  obtain ⟨t, ht⟩ : ∃ t : Nat, t = m + d.synced := ⟨_, rfl⟩
  have htc : t ≤ c := by omega
  have hwa : IntKind.i64.wrap ((d.b.length : Int) - (d.synced : Int)) = (d.b.length : Int) - (d.synced : Int) := by rw [IntKind.wrap_i64]; omega
  have hwb : IntKind.i64.wrap ((m : Int) + (d.synced : Int)) = (t : Int) := by rw [IntKind.wrap_i64, ht]; omega
  have hdd : d.deed.1 = { d with b := d.b.take t, bound := none, down := true } := by
    unfold Dv.deed
    rw [HB.out, ht, hmle]
  have HDD := Lib.hid hdd
  have HOT := Lib.hid (OwnL.prefix ho (m := t) (by omega))
  clear ht hdd
  have hnn : d.b.length ≤ 9223372036854775807 := by omega
  clear hg ho hb hf hmle
  generalize d.synced = s at *
  generalize d.b.length = n at *
  clear hcm hlc hle hle2 hnn hs
  go_enter_defers Try.func46, Try.ntmps46
  go_wp2_with fail
  obtain ⟨w1, hw1⟩ : ∃ w1, w1 = ((w.setCell ⟨g, 7, none⟩ (.func (.func F) #[] caps)).alloc (.cells #[.pointer (some ⟨g, 0, none⟩)] 34)) := ⟨_, rfl⟩
  have hg1 : w1.heap[g]? = some (.cells (dvCells (.slice A n c) d.quota s d.down (.pointer (some ⟨f, 0, none⟩)) d.counted d.deeds (.func (.func F) #[] caps)) 62 (0, 0)) := by rw [hw1]; exact obj_old (obj_set HG.out 7 _) _
  have hf1 : w1.heap[f]? = some (.cells #[.int .i64 0, .int .i64 (k : Int)] 65 (0, 0)) := by rw [hw1]; exact obj_old (obj_far HFF.out (p := ⟨g, 7, none⟩) hfg _) _
  have hbx : w1.heap[w.heap.size]? = some (.cells #[.pointer (some ⟨g, 0, none⟩)] 34 (0, 0)) := by rw [hw1]; exact obj_new_at _ _ _ (by simp [World.setCell])
  have hT : Touch (At g) w w1 := by rw [hw1]; exact ((Touch.refl (At g) w).set 7 _).alloc _
  rw [← hw1]
  clear hw1 c0 c1 c2 c3 c4 c5 c6 c7 fz b0 b1 b2 b3
  obtain ⟨c0, c1, c2, c3, c4, c5, c6, c7, fz⟩ := dv_cells hg1
  obtain ⟨b0, b1, b2, b3⟩ := cells2 hf1
  have bx : w1.cell? ⟨w.heap.size, 0, none⟩ = some (.pointer (some ⟨g, 0, none⟩)) := by rw [obj_cell hbx]; rfl
  have HG1 := Lib.hid hg1
  have HT := Lib.hid hT
  clear hg1 hf1 hbx hT
  go_still_tail 26, (by kernel_rfl)
  change wpList _ _ _ _ _ w1.drew
  go_wp2
  have hgW : ((((w1.setCell ⟨g, 0, none⟩ (.slice A t c)).setCell ⟨g, 4, none⟩ (.pointer none)).setCell ⟨g, 3, none⟩ (.bool true)).drew).heap[g]? = some (.cells (dvCells (.slice A t c) d.quota s true (.pointer none) d.counted d.deeds (.func (.func F) #[] caps)) 62 (0, 0)) :=
    obj_set (obj_set (obj_set HG1.out 0 _) 4 _) 3 _
  have hTW : Touch (At g) w ((((w1.setCell ⟨g, 0, none⟩ (.slice A t c)).setCell ⟨g, 4, none⟩ (.pointer none)).setCell ⟨g, 3, none⟩ (.bool true)).drew) := (((HT.out.set 0 _).set 4 _).set 3 _).drew
  have hTW1 : Touch (At g) w1 ((((w1.setCell ⟨g, 0, none⟩ (.slice A t c)).setCell ⟨g, 4, none⟩ (.pointer none)).setCell ⟨g, 3, none⟩ (.bool true)).drew) := ((((Touch.refl (At g) w1).set 0 _).set 4 _).set 3 _).drew
  have hbW := hTW1.cell bx (fun h => by simp only [At] at h; omega)
  obtain ⟨e0, e1, e2, e3, e4, e5, e6, e7, ez⟩ := dv_cells hgW
  have hne := HO.out.ne HG.out (by decide)
  refine leaves_cons (f := 69) (args := #[.pointer (some ⟨w.heap.size, 0, none⟩)]) (by simp) (by simp [go_sem]) ?_
  refine (deed1_deferred w.heap.size g _ .returning _ hbW e7 (ez 7)).mono ?_
  rintro e u' w3 ⟨rfl, rfl, rfl⟩
  refine ⟨_, results_tmp rfl _ _ _, rfl, .slice A t c, ⟨?_, ?_, ?_⟩, by cases A <;> rfl, hTW.set 7 _⟩
  · rw [HDD.out]; exact obj_set hgW 7 _
  · rw [HDD.out]; exact HOT.out.keep (hTW.set 7 _) (fun j hj h => hne (by rw [show At g j from h] at hj; cases A <;> exact hj))
  · rw [HDD.out]; rfl

/-- a deed: the closure is called, or power fails -/
theorem deed_calls (F : Nat) (caps : Array Value) (hcf : ∀ (w : World), (callFunc F caps).run Try.prog w = .ok (.enter F caps) w) (g : Nat) (S : Nat → Prop) (d d2 : Dv) (w : World) (hd : DV w S g d) (hok : d.Ok) (hdd : d.deeds ≤ 9223372036854775806)
    (hF : d.deed.2 = true → ∀ v bp does w1, DvAt w1 g v bp does d.deed.1 → S g → (∀ k, blk v = some k → S k) → (∀ k, bpBlock bp = some k → S k) → Touch S w w1 → Calls Try.prog F caps w1 (DoesPost w1 g v bp does d2)) :
    Calls Try.prog 46 #[.pointer (some ⟨g, 0, none⟩), .func (.func F) #[] caps] w fun e w' => e = .returned (.int .i64 (if d.deed.2 then 0 else 51)) ∧ DV w' (More S w) g (if d.deed.2 then d2 else d.deed.1) ∧ Touch S w w' := by
  obtain ⟨v, bp, does0, hat, hSg, hSv, hSb, _⟩ := hd
  cases hb : d.bound with
  | none =>
    obtain rfl : bp = .pointer none := by have := hat.2.2; rw [hb] at this; exact this
    have ht : d.deed.2 = true := by unfold Dv.deed; rw [hb]
    refine (deed_none F caps hcf g v does0 d d2 w hb hat hdd (fun w1 h1 h2 => hF ht v _ _ w1 h1 hSg hSv hSb (h2.mono fun k _ h => by rw [show k = g from h]; exact hSg))).mono ?_
    rintro e w' ⟨rfl, v', hat', hv', ht'⟩
    rw [if_pos ht, if_pos ht]
    refine ⟨rfl, ⟨v', _, _, hat', .inl hSg, fun k hk => ?_, fun k hk => .inl (hSb k hk), rfl⟩, ht'.mono fun k _ h => ?_⟩
    · rcases hv' with h | ⟨k', h, hk'⟩
      · exact .inl (hSv k (by rw [← h]; exact hk))
      · rw [h] at hk; injection hk with hk; exact .inr (by omega)
    · rcases h with rfl | h
      · exact hSg
      · exact hSv k h
  | some x =>
    obtain ⟨a, k⟩ := x
    have hbd := hat.2.2
    rw [hb] at hbd
    obtain ⟨f, rfl, hf⟩ := hbd
    obtain ⟨hba, hbk⟩ := hok.fits a k hb
    have hSf : S f := hSb f rfl
    cases a with
    | zero =>
      have ht : ¬ d.deed.2 = true := by unfold Dv.deed; rw [hb]; simp
      refine (deed_power _ ⟨F, caps, rfl⟩ g f k v does0 d w hb hat hbk hok.synced).mono ?_
      rintro e w' ⟨rfl, v', hat', hv', ht'⟩
      rw [if_neg ht, if_neg ht]
      exact ⟨rfl, ⟨v', _, _, hat', .inl hSg, fun k hk => .inl (hSv k (by rw [← hv']; exact hk)), fun k hk => by simp [bpBlock] at hk, rfl⟩, ht'.mono fun k _ h => by rw [show k = g from h]; exact hSg⟩
    | succ a =>
      have ht : d.deed.2 = true := by unfold Dv.deed; rw [hb]
      refine (deed_more F caps hcf g f a k v does0 d d2 w hb hat hdd (by omega) (fun w1 h1 h2 => hF ht v _ _ w1 h1 hSg hSv hSb (h2.mono fun k _ h => by
        rcases h with rfl | rfl
        · exact hSg
        · exact hSf))).mono ?_
      rintro e w' ⟨rfl, v', hat', hv', ht'⟩
      rw [if_pos ht, if_pos ht]
      refine ⟨rfl, ⟨v', _, _, hat', .inl hSg, fun k hk => ?_, fun k hk => .inl (hSb k hk), rfl⟩, ht'.mono fun k _ h => ?_⟩
      · rcases hv' with h | ⟨k', h, hk'⟩
        · exact .inl (hSv k (by rw [← h]; exact hk))
        · rw [h] at hk; injection hk with hk; exact .inr (by omega)
      · rcases h with rfl | rfl | h
        · exact hSg
        · exact hSf
        · exact hSv k h
end Go.Proofs.Ytnfefjlplipeiab
