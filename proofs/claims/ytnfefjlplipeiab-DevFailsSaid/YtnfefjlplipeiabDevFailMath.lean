/-
  What a writing comes to, with no failure bound, with one bound behind it, with one bound within it. No condition.
-/
import Derived.Test.YtnfefjlplipeiabDevOk
namespace Go.Proofs.Ytnfefjlplipeiab
theorem put_none (l : List UInt8) : ∀ (d : Dv), d.bound = none → d.put l = ({ d with b := d.b ++ l, deeds := d.deeds + l.length }, 0) := by
  induction l with
  | nil => intro d h; simp [Dv.put]
  | cons c l ih =>
    intro d h
    have hd : d.deed = ({ d with deeds := d.deeds + 1 }, true) := by unfold Dv.deed; rw [h]
    rw [Dv.put_yes (by rw [hd])]
    rw [ih _ (by rw [hd]; exact h)]
    rw [hd]
    simp only [List.append_assoc, List.singleton_append, List.length_cons, Prod.mk.injEq, and_true, Dv.mk.injEq, true_and]
    omega
theorem put_far (l : List UInt8) : ∀ (d : Dv) (a k : Nat), d.bound = some (a, k) → l.length ≤ a → d.put l = ({ d with b := d.b ++ l, bound := some (a - l.length, k), deeds := d.deeds + l.length }, 0) := by
  induction l with
  | nil => intro d a k h _; simp [Dv.put, ← h]
  | cons c l ih =>
    intro d a k h hl
    simp only [List.length_cons] at hl
    obtain ⟨a, rfl⟩ : ∃ a', a = a' + 1 := ⟨a - 1, by omega⟩
    have hd : d.deed = ({ d with bound := some (a, k), deeds := d.deeds + 1 }, true) := by unfold Dv.deed; rw [h]
    rw [Dv.put_yes (by rw [hd])]
    rw [ih _ a k (by rw [hd]) (by omega)]
    rw [hd]
    simp only [List.append_assoc, List.singleton_append, List.length_cons, Prod.mk.injEq, and_true, Dv.mk.injEq, true_and, Option.some.injEq]
    omega
theorem put_near (l : List UInt8) : ∀ (d : Dv) (a k : Nat), d.bound = some (a, k) → a < l.length → d.synced ≤ d.b.length →
    d.put l = ({ d with b := (d.b ++ l.take a).take (min (d.b.length + a - d.synced) k + d.synced), bound := none, down := true, deeds := d.deeds + a }, 51) := by
  induction l with
  | nil => intro d a k h hl; simp at hl
  | cons c l ih =>
    intro d a k h hl hs
    simp only [List.length_cons] at hl
    cases a with
    | zero =>
      have hd : d.deed = ({ d with b := d.b.take (min (d.b.length - d.synced) k + d.synced), bound := none, down := true }, false) := by unfold Dv.deed; rw [h]
      rw [Dv.put_no (by rw [hd]), hd]
      simp
    | succ a =>
      have hd : d.deed = ({ d with bound := some (a, k), deeds := d.deeds + 1 }, true) := by unfold Dv.deed; rw [h]
      rw [Dv.put_yes (by rw [hd])]
      rw [ih _ a k (by rw [hd]) (by omega) (by rw [hd]; simp only [List.length_append]; omega)]
      rw [hd]
      simp only [List.append_assoc, List.singleton_append, List.length_append, List.length_cons, List.length_nil, List.take_succ_cons, Prod.mk.injEq, and_true, Dv.mk.injEq, true_and]
      refine ⟨?_, by omega⟩
      congr 2
      omega

/-- the file that DevFails makes: first written and synced -/
def failBase (first : List UInt8) : Dv := { Dv.fresh 2000 with b := first, synced := first.length, deeds := first.length }
theorem failBase_eq (first : List UInt8) (h : first.length ≤ 1000) : (Dv.fresh 2000).write first = ({ Dv.fresh 2000 with b := first, deeds := first.length }, 0) ∧ ({ Dv.fresh 2000 with b := first, deeds := first.length } : Dv).sync = (failBase first, 0) := by
  refine ⟨?_, rfl⟩
  unfold Dv.write
  rw [if_neg (by simp [Dv.fresh]), if_neg (by simp [Dv.fresh]; omega), put_none first _ rfl]
  simp [Dv.fresh]
theorem failBase_ok (first : List UInt8) (h : first.length ≤ 1000) : (failBase first).Ok := ⟨Nat.le_refl _, by show first.length ≤ 2097152; omega, by show 2000 ≤ 1048576; decide, fun _ _ h => by cases h⟩
/-- no failure was bound -/
theorem fail_not (first thn : List UInt8) (a k : Int) (h1 : first.length ≤ 1000) (h2 : thn.length ≤ 1000) (h : a < 0 ∨ k < 0) :
    (failBase first).fail a k = (failBase first, 1) ∧ (failBase first).write thn = ({ failBase first with b := first ++ thn, deeds := first.length + thn.length }, 0) := by
  constructor
  · unfold Dv.fail
    rw [if_neg (by simp [failBase, Dv.fresh]), if_pos h]
  · unfold Dv.write
    rw [if_neg (by simp [failBase, Dv.fresh]), if_neg (by simp [failBase, Dv.fresh]; omega), put_none thn _ rfl]
    rfl
/-- one was bound, behind the writing -/
theorem fail_far (first thn : List UInt8) (a k : Nat) (h1 : first.length ≤ 1000) (h2 : thn.length ≤ 1000) (h : thn.length ≤ a) :
    (failBase first).fail a k = ({ failBase first with bound := some (a, k) }, 0) ∧ ({ failBase first with bound := some (a, k) } : Dv).write thn = ({ failBase first with b := first ++ thn, bound := some (a - thn.length, k), deeds := first.length + thn.length }, 0) := by
  constructor
  · unfold Dv.fail
    rw [if_neg (by simp [failBase, Dv.fresh]), if_neg (by omega)]
    rfl
  · unfold Dv.write
    rw [if_neg (by simp [failBase, Dv.fresh]), if_neg (by simp [failBase, Dv.fresh]; omega), put_far thn _ a k rfl h]
    rfl
/-- one was bound, within the writing -/
theorem fail_near (first thn : List UInt8) (a k : Nat) (h1 : first.length ≤ 1000) (h2 : thn.length ≤ 1000) (h : a < thn.length) :
    (failBase first).fail a k = ({ failBase first with bound := some (a, k) }, 0) ∧ ({ failBase first with bound := some (a, k) } : Dv).write thn = ({ failBase first with b := first ++ thn.take (min a k), down := true, deeds := first.length + a }, 51) := by
  constructor
  · unfold Dv.fail
    rw [if_neg (by simp [failBase, Dv.fresh]), if_neg (by omega)]
    rfl
  · unfold Dv.write
    rw [if_neg (by simp [failBase, Dv.fresh]), if_neg (by simp [failBase, Dv.fresh]; omega), put_near thn _ a k rfl h (Nat.le_refl _)]
    simp only [failBase, Dv.fresh, Prod.mk.injEq, and_true, Dv.mk.injEq]
    rw [show min (first.length + a - first.length) k + first.length = first.length + min a k by omega, List.take_append, List.take_take, List.take_of_length_le (by omega : first.length ≤ first.length + min a k), show min (first.length + min a k - first.length) a = min a k by omega]
end Go.Proofs.Ytnfefjlplipeiab
