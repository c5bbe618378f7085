/-
  The steps of a file's script, and what the law DevKeeps says of each, on the plain machine. No condition.
-/
import Derived.Test.YtnfefjlplipeiabDevOk
import Derived.Test.YtnfefjlplipeiabScriptAt
namespace Go.Proofs.Ytnfefjlplipeiab
set_option linter.unusedVariables false

def byteOf (m : Int) : UInt8 := UInt8.ofNat (m % 256).toNat
theorem byteOf_int (m : Int) : (((byteOf m).toNat : Nat) : Int) = m % 256 := by
  unfold byteOf
  rw [UInt8.toNat_ofNat']
  omega
def Dv.keep (d : Dv) (o : Op) : Dv × Int :=
  if o.kind = 1 then d.write o.b else if o.kind = 2 then d.sync else if o.kind = 3 then d.cut o.n else if o.kind = 5 then d.fail o.n o.m else
  if o.kind = 6 then d.start else if o.kind = 7 then d.damage o.n (byteOf o.m) else if o.kind = 8 then d.tail o.b else (d, 0)
def keepChange (d : Dv) (o : Op) : Bool := if o.kind = 3 then decide ((d.cut o.n).2 = 0) else if o.kind = 7 then decide ((d.damage o.n (byteOf o.m)).2 = 0) else false
def keepAll (d : Dv) (o : Op) : List UInt8 := if o.kind = 1 ∨ o.kind = 8 then d.b ++ o.b else d.b
def keepTail (t : Bool) (d : Dv) (o : Op) : Bool := if o.kind = 8 then t || decide ((d.tail o.b).2 = 0) else t

theorem put_keeps (l : List UInt8) : ∀ (d : Dv), d.synced ≤ d.b.length → d.down = false →
    (d.put l).1.b <+: d.b ++ l ∧ d.b.take d.synced <+: (d.put l).1.b ∧ ((d.put l).2 = 0 ∧ (d.put l).1.down = false ∨ (d.put l).2 = 51 ∧ (d.put l).1.down = true) := by
  induction l with
  | nil => intro d hs hd; exact ⟨by simp [Dv.put], List.take_prefix _ _, .inl ⟨rfl, hd⟩⟩
  | cons c l ih =>
    intro d hs hd
    cases hx : d.deed.2 with
    | true =>
      rw [Dv.put_yes hx]
      obtain ⟨e1, e2, e3, e4⟩ := Dv.deed_yes hx
      obtain ⟨r1, r2, r3⟩ := ih { d.deed.1 with b := d.b ++ [c] } (by simp only [e2, List.length_append]; omega) (by simp only [e4]; exact hd)
      refine ⟨by rw [show d.b ++ c :: l = d.b ++ [c] ++ l from List.append_cons ..]; exact r1, ?_, r3⟩
      rw [show ({ d.deed.1 with b := d.b ++ [c] } : Dv).synced = d.synced from e2, show ({ d.deed.1 with b := d.b ++ [c] } : Dv).b = d.b ++ [c] from rfl, List.take_append_of_le_length hs] at r2
      exact r2
    | false =>
      rw [Dv.put_no hx]
      obtain ⟨k, _, e⟩ := Dv.deed_no hx
      rw [e]
      refine ⟨(List.take_prefix _ _).trans (List.prefix_append _ _), ?_, .inr ⟨rfl, rfl⟩⟩
      exact List.take_prefix_take_left (by omega)
theorem put_size (l : List UInt8) (d : Dv) (h : d.Ok) (hs : l = [] ∨ d.b.length + l.length ≤ 2097152) : (d.put l).1.b.length ≤ d.b.length + l.length := (Dv.put_ok l h hs).2.2.2.2

structure Keeps1 (d : Dv) (t : Bool) (o : Op) : Prop where
  ok : (d.keep o).1.Ok
  quota : (d.keep o).1.quota = d.quota
  size : keepTail t d o = false → (d.keep o).1.b.length ≤ d.quota
  begins : keepChange d o = false → d.b.take d.synced <+: (d.keep o).1.b ∧ (d.keep o).1.b <+: keepAll d o
  power : (d.keep o).2 = 51 ↔ (d.down = false ∧ (d.keep o).1.down = true)
  room : (d.keep o).2 = 52 → (d.keep o).1.b = d.b
  deeds : (d.keep o).1.deeds ≤ d.deeds + 1048576

theorem keeps_same {d : Dv} {t : Bool} {o : Op} {c : Int} (hr : d.keep o = (d, c)) (h : d.Ok) (ht : t = false → d.b.length ≤ d.quota) (hc : c ≠ 51) (hk : keepTail t d o = false → t = false) : Keeps1 d t o := by
  refine ⟨by rw [hr]; exact h, by rw [hr], fun e => by rw [hr]; exact ht (hk e), fun _ => ?_, ?_, fun _ => by rw [hr], by rw [hr]; simp⟩
  · rw [hr]
    refine ⟨List.take_prefix _ _, ?_⟩
    unfold keepAll
    split
    · exact List.prefix_append _ _
    · exact List.prefix_refl _
  · rw [hr]
    constructor
    · intro e; exact absurd e hc
    · rintro ⟨e1, e2⟩; rw [e1] at e2; cases e2

theorem keeps_write {d : Dv} {t : Bool} {o : Op} (h : d.Ok) (ht : t = false → d.b.length ≤ d.quota) (hk : o.kind = 1) : Keeps1 d t o := by
  have e0 : d.keep o = d.write o.b := by unfold Dv.keep; rw [if_pos hk]
  have e1 : keepTail t d o = t := by unfold keepTail; rw [if_neg (by omega)]
  unfold Dv.write at e0
  by_cases h1 : d.down = true
  · rw [if_pos h1] at e0; exact keeps_same e0 h ht (by decide) (by rw [e1]; exact fun h => h)
  · rw [if_neg h1] at e0
    by_cases h2 : 0 < o.b.length ∧ d.quota < d.b.length + o.b.length
    · rw [if_pos h2] at e0; exact keeps_same e0 h ht (by decide) (by rw [e1]; exact fun h => h)
    · rw [if_neg h2] at e0
      have hdn : d.down = false := by simpa using h1
      have hq := h.quota
      have hsz : o.b = [] ∨ d.b.length + o.b.length ≤ 2097152 := by
        by_cases hl : o.b = []
        · exact .inl hl
        · have := List.length_pos_iff.2 hl
          exact .inr (by omega)
      obtain ⟨k1, k2, k3⟩ := put_keeps o.b d h.synced hdn
      obtain ⟨p1, p2, p3, p4, p5⟩ := Dv.put_ok o.b h hsz
      refine ⟨by rw [e0]; exact p1, by rw [e0]; exact p2, fun e => ?_, fun _ => ?_, ?_, fun e => ?_, ?_⟩
      · rw [e0]
        rw [e1] at e
        have := ht e
        by_cases hl : o.b = []
        · rw [hl] at p5 ⊢; simp at p5; omega
        · have := List.length_pos_iff.2 hl
          omega
      · rw [e0]
        refine ⟨k2, ?_⟩
        unfold keepAll
        rw [if_pos (.inl hk)]
        exact k1
      · rw [e0]
        rcases k3 with ⟨a, b⟩ | ⟨a, b⟩
        · rw [a, b]; simp
        · rw [a, b]; simp [hdn]
      · rw [e0] at e
        rcases k3 with ⟨a, b⟩ | ⟨a, b⟩
        · rw [a] at e; cases e
        · rw [a] at e; cases e
      · rw [e0]
        by_cases hl : o.b = []
        · rw [hl] at p3 ⊢; simp at p3; omega
        · have := List.length_pos_iff.2 hl
          omega

theorem keeps_all (d : Dv) (t : Bool) (o : Op) (h : d.Ok) (ht : t = false → d.b.length ≤ d.quota) (hf : o.Fits) : Keeps1 d t o := by
  by_cases k1 : o.kind = 1
  · exact keeps_write h ht k1
  by_cases k2 : o.kind = 2
  · have e0 : d.keep o = d.sync := by unfold Dv.keep; rw [if_neg k1, if_pos k2]
    have e1 : keepTail t d o = t := by unfold keepTail; rw [if_neg (by omega)]
    unfold Dv.sync at e0
    by_cases h1 : d.down = true
    · rw [if_pos h1] at e0; exact keeps_same e0 h ht (by decide) (by rw [e1]; exact fun h => h)
    · rw [if_neg h1] at e0
      refine ⟨by rw [e0]; exact ⟨Nat.le_refl _, h.size, h.quota, h.fits⟩, by rw [e0], fun e => by rw [e0]; exact ht (by rw [← e1]; exact e), fun _ => ?_, ?_, fun e => (by rw [e0] at e; cases e), by rw [e0]; simp⟩
      · rw [e0]
        refine ⟨List.take_prefix _ _, ?_⟩
        unfold keepAll
        rw [if_neg (by omega)]
        exact List.prefix_refl _
      · rw [e0]
        simp only
        constructor
        · intro e; cases e
        · rintro ⟨e1, e2⟩; rw [e1] at e2; cases e2
  by_cases k3 : o.kind = 3
  · have e0 : d.keep o = d.cut o.n := by unfold Dv.keep; rw [if_neg k1, if_neg k2, if_pos k3]
    have e1 : keepTail t d o = t := by unfold keepTail; rw [if_neg (by omega)]
    have e2 : keepChange d o = decide ((d.cut o.n).2 = 0) := by unfold keepChange; rw [if_pos k3]
    rw [cut_eq] at e0 e2
    by_cases h1 : d.down = true
    · rw [if_pos h1] at e0; exact keeps_same e0 h ht (by decide) (by rw [e1]; exact fun h => h)
    · rw [if_neg h1] at e0 e2
      have hdn : d.down = false := by simpa using h1
      by_cases h2 : o.n < 0 ∨ (d.b.length : Int) < o.n
      · rw [if_pos h2] at e0; exact keeps_same e0 h ht (by decide) (by rw [e1]; exact fun h => h)
      · rw [if_neg h2] at e0 e2
        by_cases h3 : d.deed.2 = true
        · rw [if_pos h3] at e0 e2
          obtain ⟨y1, y2, y3, y4⟩ := Dv.deed_yes h3
          refine ⟨?_, by rw [e0]; exact Dv.deed_quota d, fun e => ?_, fun e => ?_, ?_, fun e => (by rw [e0] at e; cases e), by rw [e0]; simp only [y3]; omega⟩
          · have := cut_ok h o.n
            rw [cut_eq, if_neg h1, if_neg h2, if_pos h3] at this
            rw [e0]; exact this
          · rw [e0]; simp only [List.length_take]; have := ht (by rw [← e1]; exact e); omega
          · rw [e2] at e; simp at e
          · rw [e0]
            simp only
            constructor
            · intro e; cases e
            · rintro ⟨e1, e2⟩; rw [y4, e1] at e2; cases e2
        · rw [if_neg h3] at e0 e2
          have h3' : d.deed.2 = false := by simpa using h3
          obtain ⟨k, _, e⟩ := Dv.deed_no h3'
          refine ⟨by rw [e0]; exact Dv.deed_ok h, by rw [e0]; exact Dv.deed_quota d, fun e' => ?_, fun _ => ?_, ?_, fun e => (by rw [e0] at e; cases e), by rw [e0]; simp only [e]; omega⟩
          · rw [e0, e]; simp only [List.length_take]; have := ht (by rw [← e1]; exact e'); omega
          · rw [e0, e]
            simp only
            refine ⟨List.take_prefix_take_left (by omega), ?_⟩
            unfold keepAll
            rw [if_neg (by omega)]
            exact List.take_prefix _ _
          · rw [e0, e]
            simp [hdn]
  by_cases k5 : o.kind = 5
  · have e0 : d.keep o = d.fail o.n o.m := by unfold Dv.keep; rw [if_neg k1, if_neg k2, if_neg k3, if_pos k5]
    have e1 : keepTail t d o = t := by unfold keepTail; rw [if_neg (by omega)]
    have ho := fail_ok h o.n o.m hf.n.2 hf.m.2
    rw [← e0] at ho
    unfold Dv.fail at e0
    by_cases h1 : d.down = true
    · rw [if_pos h1] at e0; exact keeps_same e0 h ht (by decide) (by rw [e1]; exact fun h => h)
    · rw [if_neg h1] at e0
      by_cases h2 : o.n < 0 ∨ o.m < 0
      · rw [if_pos h2] at e0; exact keeps_same e0 h ht (by decide) (by rw [e1]; exact fun h => h)
      · rw [if_neg h2] at e0
        refine ⟨ho, by rw [e0], fun e => by rw [e0]; exact ht (by rw [← e1]; exact e), fun _ => ?_, ?_, fun e => (by rw [e0] at e; cases e), by rw [e0]; simp⟩
        · rw [e0]
          refine ⟨List.take_prefix _ _, ?_⟩
          unfold keepAll
          rw [if_neg (by omega)]
          exact List.prefix_refl _
        · rw [e0]
          simp only
          constructor
          · intro e; cases e
          · rintro ⟨e1, e2⟩; rw [e1] at e2; cases e2
  by_cases k6 : o.kind = 6
  · have e0 : d.keep o = d.start := by unfold Dv.keep; rw [if_neg k1, if_neg k2, if_neg k3, if_neg k5, if_pos k6]
    have e1 : keepTail t d o = t := by unfold keepTail; rw [if_neg (by omega)]
    unfold Dv.start at e0
    by_cases h1 : d.down = true
    · rw [if_pos h1] at e0
      refine ⟨by rw [e0]; exact ⟨h.synced, h.size, h.quota, h.fits⟩, by rw [e0], fun e => by rw [e0]; exact ht (by rw [← e1]; exact e), fun _ => ?_, ?_, fun e => (by rw [e0] at e; cases e), by rw [e0]; simp⟩
      · rw [e0]
        refine ⟨List.take_prefix _ _, ?_⟩
        unfold keepAll
        rw [if_neg (by omega)]
        exact List.prefix_refl _
      · rw [e0]
        simp
    · rw [if_neg h1] at e0; exact keeps_same e0 h ht (by decide) (by rw [e1]; exact fun h => h)
  by_cases k7 : o.kind = 7
  · have e0 : d.keep o = d.damage o.n (byteOf o.m) := by unfold Dv.keep; rw [if_neg k1, if_neg k2, if_neg k3, if_neg k5, if_neg k6, if_pos k7]
    have e1 : keepTail t d o = t := by unfold keepTail; rw [if_neg (by omega)]
    have e2 : keepChange d o = decide ((d.damage o.n (byteOf o.m)).2 = 0) := by unfold keepChange; rw [if_neg k3, if_pos k7]
    have ho := damage_ok h o.n (byteOf o.m)
    rw [← e0] at ho e2
    unfold Dv.damage at e0
    by_cases h1 : o.n < 0 ∨ (d.b.length : Int) ≤ o.n
    · rw [if_pos h1] at e0; exact keeps_same e0 h ht (by decide) (by rw [e1]; exact fun h => h)
    · rw [if_neg h1] at e0
      refine ⟨ho, by rw [e0], fun e => by rw [e0]; simpa using ht (by rw [← e1]; exact e), fun e => by rw [e2, e0] at e; simp at e, ?_, fun e => (by rw [e0] at e; cases e), by rw [e0]; simp⟩
      rw [e0]
      simp only
      constructor
      · intro e; cases e
      · rintro ⟨e1, e2⟩; rw [e1] at e2; cases e2
  by_cases k8 : o.kind = 8
  · have e0 : d.keep o = d.tail o.b := by unfold Dv.keep; rw [if_neg k1, if_neg k2, if_neg k3, if_neg k5, if_neg k6, if_neg k7, if_pos k8]
    have e1 : keepTail t d o = (t || decide ((d.tail o.b).2 = 0)) := by unfold keepTail; rw [if_pos k8]
    have ho := tail_ok h o.b
    rw [← e0] at ho e1
    unfold Dv.tail at e0
    by_cases h1 : 2097152 < d.b.length + o.b.length
    · rw [if_pos h1] at e0
      exact keeps_same e0 h ht (by decide) (by rw [e1]; intro e; simp at e; exact e.1)
    · rw [if_neg h1] at e0
      refine ⟨ho, by rw [e0], fun e => by rw [e1, e0] at e; simp at e, fun _ => ?_, ?_, fun e => (by rw [e0] at e; cases e), by rw [e0]; simp⟩
      · rw [e0]
        simp only
        refine ⟨(List.take_prefix _ _).trans (List.prefix_append _ _), ?_⟩
        unfold keepAll
        rw [if_pos (.inr k8)]
        exact List.prefix_refl _
      · rw [e0]
        simp only
        constructor
        · intro e; cases e
        · rintro ⟨e1, e2⟩; rw [e1] at e2; cases e2
  · have e0 : d.keep o = (d, 0) := by unfold Dv.keep; rw [if_neg k1, if_neg k2, if_neg k3, if_neg k5, if_neg k6, if_neg k7, if_neg k8]
    have e1 : keepTail t d o = t := by unfold keepTail; rw [if_neg k8]
    exact keeps_same e0 h ht (by decide) (by rw [e1]; exact fun h => h)
end Go.Proofs.Ytnfefjlplipeiab
