/-
  The reading of an argument that is a slice of slices of bytes. No condition.
-/
import Derived.Test.YtnfefjlplipeiaaRowKit
import Derived.Test.YtnfefjlplipeiaaBulk
import Derived.Test.YtnfefjlplipeiaaPiecesAt
import Derived.Deep.Matrix
namespace Go.Proofs.Ytnfefjlplipeiaa
open Go.RowKit Go.ChangeShapes Go.WideShapes Go.ChangeAt Go.WideElems

theorem bulk_rows {H : Type} (f : Nat → DataW H) (g : Nat → List UInt8) : ∀ (l : List Nat), (∀ r ∈ l, (g r).length + 1 ≤ Rows.uptoBulk (f r)) → (l.map g).flatten.length + l.length ≤ Rows.uptoBulkAll (l.map f) := by
  intro l
  induction l with
  | nil => intro _; simp [Rows.uptoBulkAll]
  | cons r l ih =>
    intro h
    have h1 := h r (List.mem_cons_self ..)
    have h2 := ih fun q hq => h q (List.mem_cons_of_mem _ hq)
    simp only [List.map_cons, List.flatten_cons, List.length_append, List.length_cons, Rows.uptoBulkAll]
    omega

theorem open_pieces {H : Type} {enc : TypeId × Value → H} {P : Program} {W : World} {base : Nat} {t e q : TypeId} {v : Value} {d : DataW H} {ps : List MemPlace} (ht : P.underlying t = some (.slice e)) (he : P.underlying e = some (.slice q)) (hq : P.underlying q = some (.int .u8)) (ce : P.cellsOf e = 1) (cq : P.cellsOf q = 1)
    (hok : Value.okWide P W .any base t v) (h : DataW.Trod enc P W 0 (fun _ => true) true t v d ps) :
    ∃ A c pcs, v = .slice A pcs.length c ∧ PiecesAt W A pcs ∧ pcs.flatten.length + pcs.length ≤ Rows.uptoBulk d := by
  obtain ⟨A, len, cap, rfl⟩ := okWide_slice ht hok
  obtain ⟨fuel, hf⟩ := h
  rcases Deep.open_int_rows ht he hq ce cq hf with ⟨hcs, hx⟩ | ⟨a, len', cap', A', L, C, Z, hcs, _, hl, hm, hx, hrow⟩
  · simp [Value.cells] at hcs
    obtain ⟨rfl, rfl, rfl⟩ := hcs
    exact ⟨none, 0, [], rfl, fun i hi => absurd hi (by simp), by simp⟩
  · simp [Value.cells] at hcs
    obtain ⟨rfl, rfl, rfl⟩ := hcs
    obtain ⟨rfl, rfl⟩ := Prod.mk.inj hx
    have each : ∀ r, r < cap → ∃ l : List UInt8, l.length = L r ∧ ∀ i (hi : i < l.length), (((l[i]'hi).toNat : Nat) : Int) = (Z r).getD i 0 := by
      intro r hr
      obtain ⟨_, h1, h2, h3, h4, _⟩ := hrow r hr
      obtain ⟨l, e1, e2⟩ := bytes_of_ints ((Z r).take (L r)) (fun n hn => h4 n (List.mem_of_mem_take hn))
      have hlen : l.length = L r := by rw [e1, List.length_take]; omega
      refine ⟨l, hlen, fun i hi => ?_⟩
      rw [e2 i hi]
      simp [List.getD_eq_getElem?_getD, show i < L r by omega]
    obtain ⟨g, hg⟩ := Deep.choose_lt each
    refine ⟨some a, cap, (List.range len).map g, by simp, ?_, ?_⟩
    · intro i hi
      have hi' : i < len := by simpa using hi
      obtain ⟨h0, h1, h2, h3, h4, h5, h6⟩ := hrow i (by omega)
      obtain ⟨g1, g2⟩ := hg i (by omega)
      simp only [List.getElem_map, List.getElem_range]
      refine ⟨a, rfl, A' i, C i, by rw [g1]; exact h0, by omega, ?_⟩
      intro j u hu
      have hj : j < (g i).length := by
        rcases Nat.lt_or_ge j (g i).length with h | h
        · exact h
        · rw [List.getElem?_eq_none (by rw [u8s_length]; exact h)] at hu; cases hu
      rw [u8s_get _ j hj] at hu
      cases hu
      cases hA : A' i with
      | none => have := h5 hA; omega
      | some a' =>
        refine ⟨a', rfl, ?_⟩
        rw [(h6 a' hA).2 j (by omega), g2 j hj]
    · simp only [Rows.uptoBulk]
      have := bulk_rows (fun r => Deep.intRow (H := H) .u8 (A' r) (L r) (Z r)) g (List.range len) (fun r hr => by
        have hr' : r < len := by simpa using hr
        obtain ⟨h0, h1, h2, h3, h4, h5, h6⟩ := hrow r (by omega)
        obtain ⟨g1, g2⟩ := hg r (by omega)
        cases hA : A' r with
        | none =>
          have := h5 hA
          simp only [Deep.intRow, Rows.uptoBulk]
          omega
        | some a' =>
          simp only [Deep.intRow, Rows.uptoBulk]
          have := bulk_length (H := H) (lits .u8 ((Z r).take (L r)))
          have e : (lits (H := H) .u8 ((Z r).take (L r))).length = L r := by simp [lits]; omega
          omega)
      simp only [List.length_map, List.length_range] at this ⊢
      omega
end Go.Proofs.Ytnfefjlplipeiaa
