/-
  What always holds of the plain machine holds behind each of its steps; what its counts may be. No condition.
-/
import Derived.Test.YtnfefjlplipeiabDevMath
namespace Go.Proofs.Ytnfefjlplipeiab
theorem fresh_ok (q : Nat) (h : q ≤ 1048576) : (Dv.fresh q).Ok := ⟨Nat.le_refl _, Nat.zero_le _, h, fun _ _ h => by cases h⟩
theorem write_ok {d : Dv} (h : d.Ok) (l : List UInt8) : (d.write l).1.Ok := by
  have h1 := h.quota
  unfold Dv.write
  split
  · exact h
  · split
    · exact h
    · rename_i hn
      refine (Dv.put_ok l h ?_).1
      by_cases hl : l = []
      · exact .inl hl
      · have := List.length_pos_iff.2 hl
        exact .inr (by omega)
theorem sync_ok {d : Dv} (h : d.Ok) : d.sync.1.Ok := by
  unfold Dv.sync
  split
  · exact h
  · exact ⟨Nat.le_refl _, h.size, h.quota, h.fits⟩
theorem cut_eq {d : Dv} (n : Int) : d.cut n = if d.down then (d, 50) else if n < 0 ∨ (d.b.length : Int) < n then (d, 7) else if d.deed.2 then ({ d.deed.1 with b := d.b.take n.toNat, synced := min d.synced n.toNat }, 0) else (d.deed.1, 51) := by
  unfold Dv.cut
  cases d.down with
  | true => rfl
  | false =>
    simp only [Bool.false_eq_true, if_false]
    split
    · rfl
    · cases hx : d.deed.2 with
      | true =>
        have hy := Dv.deed_yes hx
        obtain ⟨d', h'⟩ : ∃ d', d.deed = (d', true) := ⟨d.deed.1, by rw [← hx]⟩
        rw [h'] at hy ⊢
        simp only at hy
        simp only [if_true, hy.1, hy.2.1]
      | false =>
        obtain ⟨d', h'⟩ : ∃ d', d.deed = (d', false) := ⟨d.deed.1, by rw [← hx]⟩
        rw [h']
        simp
theorem cut_ok {d : Dv} (h : d.Ok) (n : Int) : (d.cut n).1.Ok := by
  rw [cut_eq]
  split
  · exact h
  · split
    · exact h
    · split
      · obtain ⟨k1, k2, k3, k4⟩ := Dv.deed_ok h
        obtain ⟨h1, h2, _, _⟩ := h
        exact ⟨by simp only [List.length_take]; omega, by simp only [List.length_take]; omega, k3, k4⟩
      · exact Dv.deed_ok h
theorem read_ok {d : Dv} (h : d.Ok) (a n : Int) : (d.read a n).1.Ok := by
  unfold Dv.read
  split
  · exact h
  · exact ⟨h.synced, h.size, h.quota, h.fits⟩
theorem fail_ok {d : Dv} (h : d.Ok) (a k : Int) (ha : a ≤ 9223372036854775807) (hk : k ≤ 9223372036854775807) : (d.fail a k).1.Ok := by
  unfold Dv.fail
  split
  · exact h
  · split
    · exact h
    · refine ⟨h.synced, h.size, h.quota, fun a' k' e => ?_⟩
      simp only [Option.some.injEq, Prod.mk.injEq] at e
      omega
theorem start_ok {d : Dv} (h : d.Ok) : d.start.1.Ok := by
  unfold Dv.start
  split
  · exact ⟨h.synced, h.size, h.quota, h.fits⟩
  · exact h
theorem damage_ok {d : Dv} (h : d.Ok) (a : Int) (x : UInt8) : (d.damage a x).1.Ok := by
  unfold Dv.damage
  split
  · exact h
  · exact ⟨by simpa using h.synced, by simpa using h.size, h.quota, h.fits⟩
theorem tail_ok {d : Dv} (h : d.Ok) (l : List UInt8) : (d.tail l).1.Ok := by
  unfold Dv.tail
  split
  · exact h
  · exact ⟨by simp, by simp only [List.length_append]; omega, h.quota, h.fits⟩

/-- the counts that grow -/
theorem write_counts {d : Dv} (h : d.Ok) (l : List UInt8) : (d.write l).1.deeds ≤ d.deeds + 1048576 ∧ (d.write l).1.deeds ≤ d.deeds + l.length ∧ (d.write l).1.counted = d.counted := by
  have h1 := h.quota
  unfold Dv.write
  split
  · exact ⟨by simp, by simp, rfl⟩
  · split
    · exact ⟨by simp, by simp, rfl⟩
    · rename_i hn
      have := Dv.put_ok l h (by
        by_cases hl : l = []
        · exact .inl hl
        · have := List.length_pos_iff.2 hl
          exact .inr (by omega))
      refine ⟨?_, this.2.2.1, this.2.2.2.1⟩
      by_cases hl : l = []
      · subst hl; exact Nat.le_trans this.2.2.1 (by simp)
      · have := List.length_pos_iff.2 hl
        omega
theorem deed_counts (d : Dv) : d.deed.1.deeds ≤ d.deeds + 1 ∧ d.deed.1.counted = d.counted := by
  refine ⟨?_, Dv.deed_counted d⟩
  cases hx : d.deed.2 with
  | true => rw [(Dv.deed_yes hx).2.2.1]; exact Nat.le_refl _
  | false => obtain ⟨k, _, e⟩ := Dv.deed_no hx; rw [e]; simp
theorem cut_counts (d : Dv) (n : Int) : (d.cut n).1.deeds ≤ d.deeds + 1 ∧ (d.cut n).1.counted = d.counted := by
  have := deed_counts d
  rw [cut_eq]
  split
  · exact ⟨by simp, rfl⟩
  · split
    · exact ⟨by simp, rfl⟩
    · split
      · exact this
      · exact this
end Go.Proofs.Ytnfefjlplipeiab
