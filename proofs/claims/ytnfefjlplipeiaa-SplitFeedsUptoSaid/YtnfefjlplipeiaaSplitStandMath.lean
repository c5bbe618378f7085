/-
  What the law SplitStands asks of each run, and of the place of the one ahead of it. No condition.
-/
import Derived.Test.YtnfefjlplipeiaaSplitMore
namespace Go.Proofs.Ytnfefjlplipeiaa
/-! ### what the law SplitStands asks of each run -/
theorem Stands.first {p : List UInt8} {r : Run} (h : Stands p r) (hb : r.1 < p.length) : p[r.1]'hb = 0 := by
  obtain ⟨pre, post, h1, h2, _⟩ := h
  subst h1
  simp only [← h2]
  simp
theorem Stands.second {p : List UInt8} {r : Run} (h : Stands p r) (hb : r.1 + r.2.length + 1 < p.length) : p[r.1 + r.2.length + 1]'hb = 0 := by
  obtain ⟨pre, post, h1, h2, _⟩ := h
  subst h1
  rw [List.getElem_append_right (by omega)]
  simp only [← h2]
  have e : pre.length + r.2.length + 1 - pre.length = r.2.length + 1 := by omega
  simp [e]
theorem Stands.within {p : List UInt8} {r : Run} (h : Stands p r) : (p.drop (r.1 + 1)).take r.2.length = r.2 := by
  obtain ⟨pre, post, h1, h2, _⟩ := h
  rw [h1, ← h2, List.drop_append, List.drop_eq_nil_of_le (by omega)]
  have e : pre.length + 1 - pre.length = 1 := by omega
  simp [e]
theorem Stands.nz {p : List UInt8} {r : Run} (h : Stands p r) (i : Nat) (hi : i < r.2.length) : r.2[i]'hi ≠ 0 := by
  obtain ⟨pre, post, h1, h2, h3, _⟩ := h
  intro e
  exact h3 (by rw [← e]; exact List.getElem_mem hi)
theorem Stands.size {p : List UInt8} {r : Run} (h : Stands p r) : 1 ≤ r.2.length ∧ r.2.length ≤ 2200 := by
  obtain ⟨_, _, _, _, _, h4, h5⟩ := h
  exact ⟨h4, h5⟩

/-- the place of the run ahead of number m -/
def lastAt (rs : List Run) : Nat → Int
  | 0 => -1
  | m + 1 => ((rs[m]?).map fun r => (r.1 : Int)).getD 0
theorem lastAt_succ (rs : List Run) (m : Nat) (h : m < rs.length) : lastAt rs (m + 1) = ((rs[m]'h).1 : Int) := by simp [lastAt, h]
theorem lastAt_append (rs qs : List Run) (m : Nat) (h : m ≤ rs.length) : lastAt (rs ++ qs) m = lastAt rs m := by
  cases m with
  | zero => rfl
  | succ m => rw [lastAt_succ _ m (by simp; omega), lastAt_succ _ m (by omega), List.getElem_append_left (by omega)]
theorem lastAt_lt (p : List UInt8) (m : Nat) (h : m < (runsOf p).length) : lastAt (runsOf p) m < (((runsOf p)[m]'h).1 : Int) := by
  cases m with
  | zero => simp only [lastAt]; omega
  | succ m =>
    rw [lastAt_succ _ m (by omega)]
    have := List.pairwise_iff_getElem.1 (Inv.all p).sorted m (m + 1) (by omega) h (by omega)
    omega
theorem lastAt_ge (p : List UInt8) (m : Nat) (h : m ≤ (runsOf p).length) : -1 ≤ lastAt (runsOf p) m ∧ lastAt (runsOf p) m ≤ p.length := by
  cases m with
  | zero => simp only [lastAt]; omega
  | succ m =>
    rw [lastAt_succ _ m (by omega)]
    have := runs_at_lt p m (by omega)
    omega
theorem held_le (p : List UInt8) : heldOf p ≤ 2200 := by
  have h := (Inv.all p).md
  unfold heldOf
  unfold MdOk at h
  generalize (fresh.feed p).1.md = md at *
  cases md with
  | none => exact Nat.zero_le _
  | some x => obtain ⟨_, _, _, _, h4⟩ := h x.1 x.2 rfl; exact h4
theorem flatten_take (ps : List (List UInt8)) (k : Nat) (h : k < ps.length) : (ps.take (k + 1)).flatten = (ps.take k).flatten ++ ps[k]'h := by
  rw [List.take_succ_eq_append_getElem h, List.flatten_append]
  simp
theorem flatten_le (ps : List (List UInt8)) (k : Nat) : (ps.take k).flatten.length ≤ ps.flatten.length := by
  have : ps.flatten = (ps.take k).flatten ++ (ps.drop k).flatten := by rw [← List.flatten_append, List.take_append_drop]
  rw [this]; simp
end Go.Proofs.Ytnfefjlplipeiaa

