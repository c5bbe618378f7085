/-
  Scripts that are read: rows of four cells, the fourth a slice of bytes. No condition.
-/
import Derived.Test.YtnfefjlplipeiabTouch
namespace Go.Proofs.Ytnfefjlplipeiab
open Go.RowKit

structure Op where
  kind : Int
  n : Int
  m : Int
  b : List UInt8
/-- what fits Go's own numbers -/
structure Op.Fits (o : Op) : Prop where
  kind : -9223372036854775808 ≤ o.kind ∧ o.kind ≤ 9223372036854775807
  n : -9223372036854775808 ≤ o.n ∧ o.n ≤ 9223372036854775807
  m : -9223372036854775808 ≤ o.m ∧ o.m ≤ 9223372036854775807
/-- four cells at an address -/
structure OpAt (w : World) (ad : Addr) (o : Op) (A : Option Addr) (c : Nat) : Prop where
  kind : w.cell? ad = some (.int .i64 o.kind)
  n : w.cell? ⟨ad.block, ad.off + 1, none⟩ = some (.int .i64 o.n)
  m : w.cell? ⟨ad.block, ad.off + 2, none⟩ = some (.int .i64 o.m)
  b : w.cell? ⟨ad.block, ad.off + 3, none⟩ = some (.slice A o.b.length c)
  reads : Reads w A o.b
  cap : o.b.length ≤ c
def ScriptAt (w : World) (A : Option Addr) (os : List Op) : Prop :=
  ∀ i (hi : i < os.length), ∃ ad, A = some ad ∧ (os[i]'hi).Fits ∧ ∃ bA bc, OpAt w (ad.add (i * 4)) (os[i]'hi) bA bc
theorem OpAt.keep {F : Nat → Prop} {w w' : World} {ad : Addr} {o : Op} {A : Option Addr} {c : Nat} (h : OpAt w ad o A c) (ht : Touch F w w') (hF : ∀ k, k < w.heap.size → ¬ F k) : OpAt w' ad o A c := by
  have hlt := World.block_lt_of_cell? w _ h.kind
  have hn := hF _ hlt
  refine ⟨ht.cell h.kind hn, ht.cell h.n hn, ht.cell h.m hn, ht.cell h.b hn, h.reads.below (ht.nothing hF), h.cap⟩
theorem ScriptAt.below {w w' : World} {A : Option Addr} {os : List Op} (h : ScriptAt w A os) (hb : Below w.heap.size w w') : ScriptAt w' A os := by
  intro i hi
  obtain ⟨ad, e, hf, bA, bc, ho⟩ := h i hi
  exact ⟨ad, e, hf, bA, bc, ho.keep (F := fun _ => False) (Touch.of_below hb fun k hk hb => absurd hk (by omega)) fun _ _ h => h⟩
end Go.Proofs.Ytnfefjlplipeiab
