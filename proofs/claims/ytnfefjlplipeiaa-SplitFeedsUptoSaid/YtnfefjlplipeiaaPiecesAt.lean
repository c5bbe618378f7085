/-
  Slices of slices of bytes that are read. No condition.
-/
import Derived.Test.YtnfefjlplipeiaaTouch
namespace Go.Proofs.Ytnfefjlplipeiaa
open Go.RowKit

/-- slices of bytes that are read -/
def PiecesAt (w : World) (A : Option Addr) (ps : List (List UInt8)) : Prop :=
  ∀ i (hi : i < ps.length), ∃ ad, A = some ad ∧ ∃ bA bc, w.cell? (ad.add i) = some (.slice bA (ps[i]'hi).length bc) ∧ (ps[i]'hi).length ≤ bc ∧ Reads w bA (ps[i]'hi)
theorem PiecesAt.keep {F : Nat → Prop} {w w' : World} {A : Option Addr} {ps : List (List UInt8)} (h : PiecesAt w A ps) (ht : Touch F w w') (hF : ∀ k, k < w.heap.size → ¬ F k) : PiecesAt w' A ps := by
  intro i hi
  obtain ⟨ad, e, bA, bc, h1, h2, h3⟩ := h i hi
  exact ⟨ad, e, bA, bc, ht.cell h1 (hF _ (World.block_lt_of_cell? w _ h1)), h2, h3.below (ht.nothing hF)⟩
end Go.Proofs.Ytnfefjlplipeiaa
