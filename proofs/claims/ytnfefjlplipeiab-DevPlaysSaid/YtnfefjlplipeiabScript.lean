/-
  The reading of an argument that is a script. No condition.
-/
import Derived.Test.YtnfefjlplipeiabOpens
import Derived.Test.YtnfefjlplipeiabBulk
import Derived.Test.YtnfefjlplipeiabScriptAt
import Derived.Deep.Slices
import Derived.Deep.Matrix
namespace Go.Proofs.Ytnfefjlplipeiab
open Go.RowKit Go.ChangeShapes Go.WideShapes Go.ChangeAt Go.WideElems

instance : Inhabited Op := ⟨⟨0, 0, 0, []⟩⟩
theorem four_cells {W : World} {n : Nat} {a : Addr} {cs : List Value} {v0 v1 v2 v3 : Value} (h : W.cells? n a 4 = some cs) (e : cs = [v0, v1, v2, v3]) :
    W.cell? a = some v0 ∧ W.cell? ⟨a.block, a.off + 1, none⟩ = some v1 ∧ W.cell? ⟨a.block, a.off + 2, none⟩ = some v2 ∧ W.cell? ⟨a.block, a.off + 3, none⟩ = some v3 := by
  obtain ⟨_, _, h3⟩ := World.cells?_some h
  subst e
  have h0 := h3 0 (by omega)
  have h1 := h3 1 (by omega)
  have h2 := h3 2 (by omega)
  have h4 := h3 3 (by omega)
  rw [addr_add_zero] at h0
  rw [addr_add_pos _ _ (by omega)] at h1 h2 h4
  exact ⟨h0, h1, h2, h4⟩

theorem open_script {H : Type} {enc : TypeId × Value → H} {P : Program} {W : World} {base : Nat} {t e ti tb tu : TypeId} {f0 f1 f2 f3 : Field} {v : Value} {d : DataW H} {ps : List MemPlace} (ht : P.underlying t = some (.slice e)) (he : P.underlying e = some (.struct #[f0, f1, f2, f3]))
    (hi : P.underlying ti = some (.int .i64)) (hb : P.underlying tb = some (.slice tu)) (hu : P.underlying tu = some (.int .u8)) (ce : P.cellsOf e = 4) (ci : P.cellsOf ti = 1) (cb : P.cellsOf tb = 1) (cu : P.cellsOf tu = 1)
    (h0 : f0.type = ti ∧ f0.offset = 0) (h1 : f1.type = ti ∧ f1.offset = 1) (h2 : f2.type = ti ∧ f2.offset = 2) (h3 : f3.type = tb ∧ f3.offset = 3)
    (hok : Value.okWide P W .any base t v) (h : DataW.Trod enc P W 0 (fun _ => true) true t v d ps) :
    ∃ A c os, v = .slice A os.length c ∧ ScriptAt W A os ∧ os.length ≤ Rows.uptoBulk d ∧ ∀ o ∈ os, o.b.length ≤ Rows.uptoBulk d := by
  obtain ⟨A, len, cap, rfl⟩ := okWide_slice ht hok
  obtain ⟨fuel, hf⟩ := h
  rcases DataW.trod_slice ht hf with ⟨hcs, hx⟩ | ⟨a, len', cap', elems, rest, n, _, hcs, hx, _, hl, hm, hlen, hel, _, _⟩
  · simp [Value.cells] at hcs
    obtain ⟨rfl, rfl, rfl⟩ := hcs
    exact ⟨none, 0, [], rfl, fun i hi => absurd hi (by simp), by simp, fun o ho => by simp at ho⟩
  · simp [Value.cells] at hcs
    obtain ⟨rfl, rfl, rfl⟩ := hcs
    obtain ⟨rfl, rfl⟩ := Prod.mk.inj hx
    have each : ∀ i, i < len → ∃ o : Op, o.Fits ∧ (∃ bA bc, OpAt W (a.add (i * 4)) o bA bc) ∧ o.b.length ≤ Rows.uptoBulk (.slice (elems.map (·.1)) (rest.map (·.1))) := by
      intro i hil
      have hy := hel i hil
      obtain ⟨y, hyi⟩ : ∃ y, elems[i]? = some y := ⟨elems[i]'(by omega), List.getElem?_eq_getElem _⟩
      rw [hyi, ce] at hy
      obtain ⟨cs, hcs, htr⟩ := Option.bind_eq_some_iff.1 hy
      obtain ⟨y0, y1, y2, y3, m, rfl, hcl, t0, t1, t2, t3⟩ := Joins.trod_struct4 he htr
      rw [ce] at hcl
      obtain ⟨v0, v1, v2, v3, rfl⟩ : ∃ v0 v1 v2 v3, cs = [v0, v1, v2, v3] := by
        match cs, hcl with
        | [v0, v1, v2, v3], _ => exact ⟨v0, v1, v2, v3, rfl⟩
      rw [h0.1, h0.2, ci] at t0
      rw [h1.1, h1.2, ci] at t1
      rw [h2.1, h2.2, ci] at t2
      rw [h3.1, h3.2, cb] at t3
      simp only [List.drop_zero, List.take_succ_cons, List.take_zero, List.drop_succ_cons] at t0 t1 t2 t3
      obtain ⟨k0, e0, _, w0⟩ := DataW.trod_int hi t0
      obtain ⟨k1, e1, _, w1⟩ := DataW.trod_int hi t1
      obtain ⟨k2, e2, _, w2⟩ := DataW.trod_int hi t2
      obtain ⟨bA, bc, l, e3, hr, hlc, _, hdat⟩ := open_bytes_at hb hu cu t3
      simp only [List.cons.injEq, and_true] at e0 e1 e2
      subst e0 e1 e2 e3
      obtain ⟨c0, c1, c2, c3⟩ := four_cells hcs rfl
      have bd : ∀ x : Int, (Lit.int .i64 x).wf = true → -9223372036854775808 ≤ x ∧ x ≤ 9223372036854775807 := fun x hx => by simpa [Lit.wf, IntKind.min, IntKind.max, IntKind.signed, IntKind.bits] using hx
      refine ⟨⟨k0, k1, k2, l⟩, ⟨bd _ w0, bd _ w1, bd _ w2⟩, ⟨bA, bc, c0, c1, c2, c3, hr, hlc⟩, ?_⟩
      have hmem : DataW.agg [y0.1, y1.1, y2.1, y3.1] ∈ elems.map (·.1) := List.mem_map.2 ⟨_, List.mem_of_getElem? hyi, rfl⟩
      have hb1 := bulk_mem hmem
      have hb2 : l.length ≤ Rows.uptoBulk y3.1 := by
        rcases hdat with ⟨_, rfl⟩ | ⟨xs, ys, e, hxs, _⟩
        · simp
        · rw [e]; have := bulk_length xs; simp only [Rows.uptoBulk]; omega
      simp only [Rows.uptoBulk, Rows.uptoBulkAll] at hb1 ⊢
      omega
    obtain ⟨g, hg⟩ := Deep.choose_lt each
    refine ⟨some a, cap, (List.range len).map g, by simp, ?_, ?_, ?_⟩
    · intro i hi'
      have hil : i < len := by simpa using hi'
      obtain ⟨g1, ⟨bA, bc, g2⟩, _⟩ := hg i hil
      simp only [List.getElem_map, List.getElem_range]
      exact ⟨a, rfl, g1, bA, bc, g2⟩
    · have := bulk_length (elems.map (·.1))
      simp only [List.length_map] at this
      simp only [List.length_map, List.length_range, Rows.uptoBulk]
      omega
    · intro o ho
      obtain ⟨i, hir, rfl⟩ := List.mem_map.1 ho
      exact (hg i (by simpa using hir)).2.2
end Go.Proofs.Ytnfefjlplipeiab
