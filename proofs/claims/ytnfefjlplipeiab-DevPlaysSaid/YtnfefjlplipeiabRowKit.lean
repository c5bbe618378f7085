/-
  From a walk to a row: a law that returns true and leaves what was there as it was meets its row's closing condition; an argument that is a slice of bytes reads as a list of bytes. No condition.
-/
import Derived.Test.YtnfefjlplipeiabKit
import Derived.ProofKit
import Derived.OpenShut
import Derived.JoinedCond
import Derived.Deep.DeepHandedRow
import Derived.SizedLaws
import Derived.Carry
namespace Go.Proofs.Ytnfefjlplipeiab
open Go.RowKit Go.ChangeShapes Go.WideShapes Go.ChangeAt Go.WideElems

theorem own : ownKnob Try.prog.godebug = none := by kernel_rfl
theorem laidOut : laidOutB Try.prog = true := by kernel_rfl

/-- the arguments read again, behind a call that leaves what was there as it was -/
theorem trodAll_below {H : Type} {enc : TypeId × Value → H} {P : Program} (hl : laidOutB P = true) {W W' : World} (hb : Below W.heap.size W W') :
    ∀ {ts : List TypeId} {vs : List Value} {ds : List (DataW H)} {ps : List MemPlace}, (ts.all fun t => P.readableRec t && decide (t < P.types.size)) = true → DataW.TrodAll enc P W 0 (fun _ => true) true ts vs ds ps →
      DataW.TrodAll enc P W' 0 (fun b => decide (b < W.heap.size)) true ts vs ds ps := by
  intro ts
  induction ts with
  | nil =>
    intro vs ds ps _ h
    obtain ⟨rfl, rfl, rfl⟩ := trodAll_nil h
    exact trodAll_mk0
  | cons t ts ih =>
    intro vs ds ps hr h
    have hlt := h.lt
    obtain ⟨v, vs', d, ds', p, q, rfl, rfl, rfl, hd, hrest⟩ := trodAll_cons h
    simp only [List.all_cons, Bool.and_eq_true, decide_eq_true_eq] at hr
    exact trodAll_cons_mk (Below.trod hl hr.1.1 hr.1.2 hd hb (fun x hx => hlt x (List.mem_append.2 (.inl hx)))) (ih hr.2 hrest)

/-- A LAW's CLOSING CONDITION: true, the arguments as they were, nothing that was there turned. -/
theorem post_law {H : Type} {enc : TypeId × Value → H} {P : Program} (hl : laidOutB P = true) {f : Func} {s : ChangeSpec} {tb : TypeId} (hvars : s.vars = []) (hres : f.resultTypes = #[tb]) (htb : P.underlying tb = some .bool)
    (hr : (f.params.toList.all fun t => P.readableRec t && decide (t < P.types.size)) = true) {W W' : World} {args : Array Value} {ds gs : List (DataW H)} {before : List MemPlace}
    (hW : DataW.Whole enc P f.params.toList s.vars false W args.toList ds gs before) (hs : s.fn H (ds ++ gs) = { results := [.lit (.bool true)], args := ds }) (hb : Below W.heap.size W W') :
    s.post enc P f false true false false W args (.bool true) W' := by
  have hW' := hW
  obtain ⟨p, q, hA, hV, rfl, hfz, hnd⟩ := hW
  refine ⟨ds, gs, p ++ q, [], p, [], hW', ?_, ?_, ?_, hb.frame _, fun h => by cases h⟩
  · rw [hs, hres]
    exact trodAll_mk1 (shut_bool htb true)
  · rw [hs]
    exact trodAll_below hl hb hr hA
  · rw [hs, hvars]
    exact rfl

/-- AN ARGUMENT THAT IS A SLICE OF BYTES: its value, the bytes that it reads as; no longer than its weight lets it be. -/
theorem open_bytes {H : Type} {enc : TypeId × Value → H} {P : Program} {W : World} {base : Nat} {t e : TypeId} {v : Value} {d : DataW H} {ps : List MemPlace} (ht : P.underlying t = some (.slice e)) (he : P.underlying e = some (.int .u8)) (hc : P.cellsOf e = 1) (hB : P.bytesOf e = 1)
    (hok : Value.okWide P W .any base t v) (h : DataW.Trod enc P W 0 (fun _ => true) true t v d ps) {ts : List TypeId} {ds : List (DataW H)} {j : Nat}
    (hsz : (DataW.weightsEach P ts ds).all (· ≤ reachBytes) = true) (htj : ts[j]? = some t) (hdj : ds[j]? = some d) :
    ∃ A c l, v = .slice A l.length c ∧ Reads W A l ∧ l.length ≤ c ∧ c ≤ 140737488351232 ∧ ((d = .nil ∧ l = []) ∨ ∃ xs ys, d = .slice xs ys ∧ xs.length = l.length) := by
  obtain ⟨A, len, cap, rfl⟩ := okWide_slice ht hok
  obtain ⟨fuel, hf⟩ := h
  rcases open_ints ht he hc hf with ⟨hcs, hx⟩ | ⟨a, len', cap', zs, hcs, _, hl, hm, hz, hx, hcell, hwz⟩
  · simp [Value.cells] at hcs
    obtain ⟨rfl, rfl, rfl⟩ := hcs
    obtain ⟨rfl, rfl⟩ := Prod.mk.inj hx
    exact ⟨none, 0, [], rfl, Reads.nil _ _, by simp, by omega, .inl ⟨rfl, rfl⟩⟩
  · simp [Value.cells] at hcs
    obtain ⟨rfl, rfl, rfl⟩ := hcs
    obtain ⟨rfl, rfl⟩ := Prod.mk.inj hx
    have hz' : zs.length = cap := by simpa using hz
    have z := sized_slice hsz htj hdj ht
    rw [hB] at z
    have h1 : (lits (H := H) .u8 (zs.take len)).length + (lits (H := H) .u8 (zs.drop len)).length = zs.length := by
      simp [lits]
      omega
    rw [h1, hz'] at z
    obtain ⟨l, hll, hlg⟩ := bytes_of_ints (zs.take len) (fun n hn => hwz n (List.mem_of_mem_take hn))
    have hlen : l.length = len := by rw [hll, List.length_take]; omega
    refine ⟨some a, cap, l, by rw [hlen], ?_, by omega, by simpa [reachBytes] using z, .inr ⟨_, _, rfl, by simp [lits, hll]⟩⟩
    · intro i u hu
      have hi : i < l.length := by
        rcases Nat.lt_or_ge i l.length with h | h
        · exact h
        · rw [List.getElem?_eq_none (by rw [u8s_length]; exact h)] at hu; cases hu
      rw [u8s_get l i hi] at hu
      cases hu
      refine ⟨a, rfl, ?_⟩
      have := hcell i (by omega)
      rw [this, hlg i hi]
      simp [List.getD_eq_getElem?_getD, show i < len by omega]
end Go.Proofs.Ytnfefjlplipeiab
