/-
  How what lies in a struct's field reads: a slice of bytes. No condition.
-/
import Derived.Test.YtnfefjlplipeiabRowKit
import Derived.Lib.SmallJoins
namespace Go.Proofs.Ytnfefjlplipeiab
open Go.RowKit Go.ChangeShapes Go.WideShapes Go.ChangeAt Go.WideElems

/-- a cell that is a slice of bytes -/
theorem open_bytes_at {H : Type} {enc : TypeId × Value → H} {P : Program} {W : World} {t e : TypeId} {v : Value} {y : DataW H × List MemPlace} {fuel : Nat} (ht : P.underlying t = some (.slice e)) (he : P.underlying e = some (.int .u8)) (hc : P.cellsOf e = 1)
    (h : DataW.trod enc P W 0 (fun _ => true) true fuel t [v] = some y) :
    ∃ A c l, v = .slice A l.length c ∧ Reads W A l ∧ l.length ≤ c ∧ c ≤ 9223372036854775807 ∧ ((y.1 = .nil ∧ l = []) ∨ ∃ xs ys, y.1 = .slice xs ys ∧ xs.length = l.length ∧ l.length + ys.length = c) := by
  rcases open_ints ht he hc h with ⟨hcs, hx⟩ | ⟨a, len, cap, zs, hcs, _, hl, hm, hz, hx, hcell, hwz⟩
  · simp at hcs
    subst hcs
    exact ⟨none, 0, [], rfl, Reads.nil _ _, by simp, by omega, .inl ⟨by rw [hx], rfl⟩⟩
  · simp at hcs
    subst hcs
    have hz' : zs.length = cap := by simpa using hz
    obtain ⟨l, hll, hlg⟩ := bytes_of_ints (zs.take len) (fun n hn => hwz n (List.mem_of_mem_take hn))
    have hlen : l.length = len := by rw [hll, List.length_take]; omega
    refine ⟨some a, cap, l, by rw [hlen], ?_, by omega, by simpa [maxLen] using hm, .inr ⟨_, _, by rw [hx], by simp [lits, hll], by simp [lits]; omega⟩⟩
    intro i u hu
    have hi : i < l.length := by
      rcases Nat.lt_or_ge i l.length with h | h
      · exact h
      · rw [List.getElem?_eq_none (by rw [u8s_length]; exact h)] at hu; cases hu
    rw [u8s_get l i hi] at hu
    cases hu
    refine ⟨a, rfl, ?_⟩
    have := hcell i (by omega)
    rw [this, hlg i hi]
    simp [List.getD_eq_getElem?_getD, show i < len by omega]
end Go.Proofs.Ytnfefjlplipeiab
