/-
  A file whose power may fail, as a plain machine on bytes. No condition.
-/
namespace Go.Proofs.Ytnfefjlplipeiab

structure Dv where
  b : List UInt8
  quota : Nat
  synced : Nat
  down : Bool
  bound : Option (Nat × Nat)
  counted : Nat
  deeds : Nat
deriving DecidableEq

def Dv.fresh (q : Nat) : Dv := ⟨[], q, 0, false, none, 0, 0⟩
/-- may the next deed be done? false: power fails in its place -/
def Dv.deed (d : Dv) : Dv × Bool :=
  match d.bound with
  | none => ({ d with deeds := d.deeds + 1 }, true)
  | some (0, k) => ({ d with b := d.b.take (min (d.b.length - d.synced) k + d.synced), bound := none, down := true }, false)
  | some (a + 1, k) => ({ d with bound := some (a, k), deeds := d.deeds + 1 }, true)
/-- byte by byte -/
def Dv.put (d : Dv) : List UInt8 → Dv × Int
  | [] => (d, 0)
  | c :: l => match d.deed with
    | (d', false) => (d', 51)
    | (d', true) => Dv.put { d' with b := d'.b ++ [c] } l
def Dv.write (d : Dv) (l : List UInt8) : Dv × Int :=
  if d.down then (d, 50) else if 0 < l.length ∧ d.quota < d.b.length + l.length then (d, 52) else d.put l
def Dv.sync (d : Dv) : Dv × Int := if d.down then (d, 50) else ({ d with synced := d.b.length }, 0)
def Dv.cut (d : Dv) (n : Int) : Dv × Int :=
  if d.down then (d, 50) else if n < 0 ∨ (d.b.length : Int) < n then (d, 7) else
  match d.deed with
  | (d', false) => (d', 51)
  | (d', true) => ({ d' with b := d'.b.take n.toNat, synced := min d'.synced n.toNat }, 0)
def Dv.read (d : Dv) (a n : Int) : Dv × List UInt8 × Int :=
  if a < 0 ∨ (d.b.length : Int) < a ∨ n < 0 then (d, [], 7) else
  ({ d with counted := d.counted + ((d.b.drop a.toNat).take n.toNat).length }, (d.b.drop a.toNat).take n.toNat, 0)
def Dv.fail (d : Dv) (a k : Int) : Dv × Int :=
  if d.down then (d, 50) else if a < 0 ∨ k < 0 then (d, 1) else ({ d with bound := some (a.toNat, k.toNat) }, 0)
def Dv.start (d : Dv) : Dv × Int := if d.down then ({ d with down := false }, 0) else (d, 6)
def Dv.damage (d : Dv) (a : Int) (c : UInt8) : Dv × Int :=
  if a < 0 ∨ (d.b.length : Int) ≤ a then (d, 7) else ({ d with b := d.b.set a.toNat c }, 0)
def Dv.tail (d : Dv) (l : List UInt8) : Dv × Int :=
  if 2097152 < d.b.length + l.length then (d, 2) else ({ d with b := d.b ++ l, synced := d.b.length + l.length }, 0)

/-- what always holds -/
structure Dv.Ok (d : Dv) : Prop where
  synced : d.synced ≤ d.b.length
  size : d.b.length ≤ 2097152
  quota : d.quota ≤ 1048576
  fits : ∀ a k, d.bound = some (a, k) → a ≤ 9223372036854775807 ∧ k ≤ 9223372036854775807
theorem Dv.deed_quota (d : Dv) : d.deed.1.quota = d.quota := by
  unfold Dv.deed
  split <;> rfl
theorem Dv.deed_counted (d : Dv) : d.deed.1.counted = d.counted := by
  unfold Dv.deed
  split <;> rfl
theorem Dv.deed_yes {d : Dv} (h : d.deed.2 = true) : d.deed.1.b = d.b ∧ d.deed.1.synced = d.synced ∧ d.deed.1.deeds = d.deeds + 1 ∧ d.deed.1.down = d.down := by
  unfold Dv.deed at h ⊢
  split
  · exact ⟨rfl, rfl, rfl, rfl⟩
  · rename_i h'; rw [h'] at h; cases h
  · exact ⟨rfl, rfl, rfl, rfl⟩
theorem Dv.deed_no {d : Dv} (h : d.deed.2 = false) : ∃ k, d.bound = some (0, k) ∧ d.deed.1 = { d with b := d.b.take (min (d.b.length - d.synced) k + d.synced), bound := none, down := true } := by
  unfold Dv.deed at h ⊢
  split
  · rename_i h'; rw [h'] at h; cases h
  · rename_i k h'; exact ⟨k, h', rfl⟩
  · rename_i h'; rw [h'] at h; cases h
theorem Dv.deed_ok {d : Dv} (h : d.Ok) : d.deed.1.Ok := by
  obtain ⟨h1, h2, h3, h4⟩ := h
  unfold Dv.deed
  split
  · exact ⟨h1, h2, h3, h4⟩
  · refine ⟨?_, ?_, h3, fun a k h => by cases h⟩
    · simp only [List.length_take]; omega
    · simp only [List.length_take]; omega
  · rename_i a k h
    refine ⟨h1, h2, h3, fun a' k' h' => ?_⟩
    have := h4 _ _ h
    simp only [Option.some.injEq, Prod.mk.injEq] at h'
    omega
theorem Dv.put_yes {d : Dv} {c : UInt8} {l : List UInt8} (h : d.deed.2 = true) : d.put (c :: l) = Dv.put { d.deed.1 with b := d.b ++ [c] } l := by
  obtain ⟨d', h'⟩ : ∃ d', d.deed = (d', true) := ⟨d.deed.1, by rw [← h]⟩
  have hb : d'.b = d.b := by have := (Dv.deed_yes h).1; rw [h'] at this; exact this
  rw [Dv.put, h']
  simp only
  rw [hb]
theorem Dv.put_no {d : Dv} {c : UInt8} {l : List UInt8} (h : d.deed.2 = false) : d.put (c :: l) = (d.deed.1, 51) := by
  obtain ⟨d', h'⟩ : ∃ d', d.deed = (d', false) := ⟨d.deed.1, by rw [← h]⟩
  rw [Dv.put, h']
/-- a writing: what came of it -/
theorem Dv.put_ok (l : List UInt8) : ∀ {d : Dv}, d.Ok → (l = [] ∨ d.b.length + l.length ≤ 2097152) → (d.put l).1.Ok ∧ (d.put l).1.quota = d.quota ∧ (d.put l).1.deeds ≤ d.deeds + l.length ∧ (d.put l).1.counted = d.counted ∧ (d.put l).1.b.length ≤ d.b.length + l.length := by
  induction l with
  | nil => intro d h _; exact ⟨h, rfl, Nat.le_refl _, rfl, Nat.le_refl _⟩
  | cons c l ih =>
    intro d h hs
    have hs' : d.b.length + (l.length + 1) ≤ 2097152 := by
      rcases hs with h | h
      · cases h
      · exact h
    cases hd : d.deed.2 with
    | true =>
      rw [Dv.put_yes hd]
      obtain ⟨e1, e2, e3, _⟩ := Dv.deed_yes hd
      obtain ⟨k1, k2, k3, k4⟩ := Dv.deed_ok h
      rw [e1] at k1 k2
      obtain ⟨r1, r2, r3, r4, r5⟩ := ih (d := { d.deed.1 with b := d.b ++ [c] }) ⟨by simp only [List.length_append]; omega, by simp only [List.length_append, List.length_singleton]; omega, k3, k4⟩ (.inr (by simp only [List.length_append, List.length_singleton]; omega))
      refine ⟨r1, r2.trans (Dv.deed_quota d), ?_, r4.trans (Dv.deed_counted d), ?_⟩
      · simp only [List.length_cons] at r3 ⊢; omega
      · simp only [List.length_cons, List.length_append, List.length_nil] at r5 ⊢; omega
    | false =>
      rw [Dv.put_no hd]
      obtain ⟨k, _, e⟩ := Dv.deed_no hd
      refine ⟨Dv.deed_ok h, Dv.deed_quota d, ?_, Dv.deed_counted d, ?_⟩
      · rw [e]; simp only; omega
      · rw [e]; simp only [List.length_take]; omega
end Go.Proofs.Ytnfefjlplipeiab
