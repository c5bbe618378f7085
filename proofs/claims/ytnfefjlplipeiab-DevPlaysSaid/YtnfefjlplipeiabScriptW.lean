/-
  The reading of an argument that is a script, with what the form's reach says of its sizes. No condition.
-/
import Derived.Test.YtnfefjlplipeiabScript
namespace Go.Proofs.Ytnfefjlplipeiab
open Go.RowKit Go.ChangeShapes Go.WideShapes Go.ChangeAt Go.WideElems

theorem open_script_w {H : Type} {enc : TypeId × Value → H} {P : Program} {W : World} {base : Nat} {t e ti tb tu : TypeId} {f0 f1 f2 f3 : Field} {v : Value} {d : DataW H} {ps : List MemPlace} (ht : P.underlying t = some (.slice e)) (he : P.underlying e = some (.struct #[f0, f1, f2, f3]))
    (hi : P.underlying ti = some (.int .i64)) (hb : P.underlying tb = some (.slice tu)) (hu : P.underlying tu = some (.int .u8)) (ce : P.cellsOf e = 4) (ci : P.cellsOf ti = 1) (cb : P.cellsOf tb = 1) (cu : P.cellsOf tu = 1)
    (h0 : f0.type = ti ∧ f0.offset = 0) (h1 : f1.type = ti ∧ f1.offset = 1) (h2 : f2.type = ti ∧ f2.offset = 2) (h3 : f3.type = tb ∧ f3.offset = 3)
    (hok : Value.okWide P W .any base t v) (h : DataW.Trod enc P W 0 (fun _ => true) true t v d ps) :
    ∃ A c os, v = .slice A os.length c ∧ ScriptAt W A os ∧ ((d = .nil ∧ os = []) ∨ ∃ elems spare, d = .slice elems spare ∧ elems.length = os.length ∧ ∀ o ∈ os, o.b = [] ∨ ∃ z0 z1 z2 xs ys, DataW.agg [z0, z1, z2, .slice xs ys] ∈ elems ∧ xs.length = o.b.length) := by
  obtain ⟨A, len, cap, rfl⟩ := okWide_slice ht hok
  obtain ⟨fuel, hf⟩ := h
  rcases DataW.trod_slice ht hf with ⟨hcs, hx⟩ | ⟨a, len', cap', elems, rest, n, _, hcs, hx, _, hl, hm, hlen, hel, _, _⟩
  · simp [Value.cells] at hcs
    obtain ⟨rfl, rfl, rfl⟩ := hcs
    exact ⟨none, 0, [], rfl, fun i hi => absurd hi (by simp), .inl ⟨(Prod.mk.inj hx).1, rfl⟩⟩
  · simp [Value.cells] at hcs
    obtain ⟨rfl, rfl, rfl⟩ := hcs
    obtain ⟨rfl, rfl⟩ := Prod.mk.inj hx
    have each : ∀ i, i < len → ∃ o : Op, o.Fits ∧ (∃ bA bc, OpAt W (a.add (i * 4)) o bA bc) ∧ (o.b = [] ∨ ∃ z0 z1 z2 xs ys, DataW.agg [z0, z1, z2, .slice xs ys] ∈ elems.map (·.1) ∧ xs.length = o.b.length) := by
      intro i hil
      have hy := hel i hil
      obtain ⟨y, hyi⟩ : ∃ y, elems[i]? = some y := ⟨elems[i]'(by omega), List.getElem?_eq_getElem _⟩
      rw [hyi, ce] at hy
      obtain ⟨cs, hcs, htr⟩ := Option.bind_eq_some_iff.1 hy
      obtain ⟨y0, y1, y2, y3, m, rfl, hcl, t0, t1, t2, t3⟩ := Joins.trod_struct4 he htr
      rw [ce] at hcl
      obtain ⟨v0, v1, v2, v3, rfl⟩ : ∃ v0 v1 v2 v3, cs = [v0, v1, v2, v3] := by
        match cs, hcl with
        | [v0, v1, v2, v3], _ => exact ⟨v0, v1, v2, v3, rfl⟩
      rw [h0.1, h0.2, ci] at t0
      rw [h1.1, h1.2, ci] at t1
      rw [h2.1, h2.2, ci] at t2
      rw [h3.1, h3.2, cb] at t3
      simp only [List.drop_zero, List.take_succ_cons, List.take_zero, List.drop_succ_cons] at t0 t1 t2 t3
      obtain ⟨k0, e0, _, w0⟩ := DataW.trod_int hi t0
      obtain ⟨k1, e1, _, w1⟩ := DataW.trod_int hi t1
      obtain ⟨k2, e2, _, w2⟩ := DataW.trod_int hi t2
      obtain ⟨bA, bc, l, e3, hr, hlc, _, hdat⟩ := open_bytes_at hb hu cu t3
      simp only [List.cons.injEq, and_true] at e0 e1 e2
      subst e0 e1 e2 e3
      obtain ⟨c0, c1, c2, c3⟩ := four_cells hcs rfl
      have bd : ∀ x : Int, (Lit.int .i64 x).wf = true → -9223372036854775808 ≤ x ∧ x ≤ 9223372036854775807 := fun x hx => by simpa [Lit.wf, IntKind.min, IntKind.max, IntKind.signed, IntKind.bits] using hx
      refine ⟨⟨k0, k1, k2, l⟩, ⟨bd _ w0, bd _ w1, bd _ w2⟩, ⟨bA, bc, c0, c1, c2, c3, hr, hlc⟩, ?_⟩
      have hmem : DataW.agg [y0.1, y1.1, y2.1, y3.1] ∈ elems.map (·.1) := List.mem_map.2 ⟨_, List.mem_of_getElem? hyi, rfl⟩
      rcases hdat with ⟨_, rfl⟩ | ⟨xs, ys, e, hxs, _⟩
      · exact .inl rfl
      · rw [e] at hmem
        exact .inr ⟨_, _, _, xs, ys, hmem, hxs⟩
    obtain ⟨g, hg⟩ := Deep.choose_lt each
    refine ⟨some a, cap, (List.range len).map g, by simp, ?_, .inr ⟨elems.map (·.1), rest.map (·.1), rfl, by simp; omega, ?_⟩⟩
    · intro i hi'
      have hil : i < len := by simpa using hi'
      obtain ⟨g1, ⟨bA, bc, g2⟩, _⟩ := hg i hil
      simp only [List.getElem_map, List.getElem_range]
      exact ⟨a, rfl, g1, bA, bc, g2⟩
    · intro o ho
      obtain ⟨i, hir, rfl⟩ := List.mem_map.1 ho
      exact (hg i (by simpa using hir)).2.2

theorem weightsAll_mem {H : Type} {P : Program} {e : TypeId} {x : DataW H} {l : List (DataW H)} (hx : x ∈ l) (n : Nat) (hn : n ∈ x.weights P e) : n ∈ DataW.weightsAll P e l := by
  induction l with
  | nil => cases hx
  | cons y r ih =>
    simp only [DataW.weightsAll, List.mem_append]
    rcases List.mem_cons.1 hx with rfl | h
    · exact .inl hn
    · exact .inr (ih h)
/-- what the form lets a script be -/
theorem script_sizes {H : Type} {P : Program} {ts : List TypeId} {ds : List (DataW H)} (h : (DataW.weightsEach P ts ds).all (· ≤ reachBytes) = true) {j : Nat} {t e tb tu : TypeId} {f0 f1 f2 f3 : Field} {d : DataW H} {os : List Op}
    (ht : ts[j]? = some t) (hd : ds[j]? = some d) (hu : P.underlying t = some (.slice e)) (he : P.underlying e = some (.struct #[f0, f1, f2, f3])) (hb : P.underlying tb = some (.slice tu)) (h3 : f3.type = tb) (be : P.bytesOf e = 48) (bu : P.bytesOf tu = 1)
    (hs : (d = .nil ∧ os = []) ∨ ∃ elems spare, d = .slice elems spare ∧ elems.length = os.length ∧ ∀ o ∈ os, o.b = [] ∨ ∃ z0 z1 z2 xs ys, DataW.agg [z0, z1, z2, .slice xs ys] ∈ elems ∧ xs.length = o.b.length) :
    os.length ≤ 2932031007317 ∧ ∀ o ∈ os, o.b.length ≤ 140737488351232 := by
  rcases hs with ⟨_, rfl⟩ | ⟨elems, spare, rfl, hl, ho⟩
  · exact ⟨by simp, fun o ho => by simp at ho⟩
  · have h1 := sized_slice h ht hd hu
    rw [be] at h1
    refine ⟨by simp only [reachBytes] at h1; omega, fun o hm => ?_⟩
    rcases ho o hm with e1 | ⟨z0, z1, z2, xs, ys, hx, hxl⟩
    · rw [e1]; simp
    · have h2 : (xs.length + ys.length) * P.bytesOf tu ≤ reachBytes := by
        refine of_decide_eq_true (List.all_eq_true.1 h _ (DataW.weights_mem_each ht hd _ ?_))
        simp only [DataW.weights, hu, List.mem_cons, List.mem_append]
        refine Or.inr (Or.inl (weightsAll_mem hx _ ?_))
        simp only [DataW.weights, he, List.map_cons, List.map_nil, DataW.weightsEach, List.mem_append, h3, hb]
        simp
      rw [bu] at h2
      simp only [reachBytes] at h2
      omega
end Go.Proofs.Ytnfefjlplipeiab
