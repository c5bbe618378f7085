/-
  The walk of Clone: a new splitter that stands for the same machine; what was there is as it was. Condition: the splitter's block stands for the machine.
-/
import Derived.Test.YtnfefjlplipeiaaSplitFeed
import Derived.Deep.RegionHeld3
namespace Go.Proofs.Ytnfefjlplipeiaa
open Go.RowKit
set_option linter.unusedVariables false
set_option linter.unusedSimpArgs false

section
variable {P : Program} {ops : Array Oper} {o : Oper} {a : Act} {w : World} {K : Act → World → Prop} {Q : Exit → Act → World → Prop} {E : Prop}
/-- bytes onto bytes, as one step of a region that draws -/
theorem step_append_bytes (base : Nat) (hgd : o.guard = none) (s x : Operand) (t e : TypeId)
    (ho : o.op = .call { callee := .builtin .append, args := #[s, x], argTypes := #[t, t] })
    (ht : P.underlying t = some (.slice e)) (hinfo : (P.info? e).map (fun i => (i.zero, i.size, i.bytes)) = some (some (.int .u8 0), 1, 1))
    (v : Value) (l m : List UInt8) (hs : a.eval s = v) (hown : OwnB e w base v l)
    (A : Option Addr) (c : Nat) (hx : a.eval x = .slice A m.length c) (hr : Reads w A m)
    (hlen : l.length + m.length ≤ 140737488355328) (hbase : base ≤ w.heap.size)
    (h : ∀ v' w', OwnB e w' base v' (l ++ m) → w.grownBy w' v.ownBlock → (v'.ownBlock = v.ownBlock ∨ v'.ownBlock = some w.heap.size) → K (a.put o.dst v') w') :
    if Region.wanted o (yielded ops a.tmps) = true then Oper.wp P o a w K Q else E := by
  have hw : Region.wanted o (yielded ops a.tmps) = true := by simp [Region.wanted, hgd]
  rw [if_pos hw]
  obtain ⟨v', w', hrun, h2, h3, h4⟩ := run_append_row (P := P) w base t o.type e (.int .u8 0) 1 1 ht hinfo rfl (by omega) v l.length (u8s l) hown A m.length c (u8s m) (by rw [u8s_length]; omega) hr (u8s_one m) (by simp only [maxLen]; omega) (by omega) hbase
  unfold Oper.wp execOp
  simp only [ho, resolve, invoke, builtin, Sem.run_bind, Sem.run_pure, Result.andThen_ok, List.map_toArray, List.map_cons, List.map_nil, hs, hx, hrun]
  exact h _ _ (by unfold OwnB; rw [u8s_append, List.length_append]; exact h2) h3 h4
end

def ClonePost (w : World) (pos : Nat) (md : Option Run) (e : Ending) (w' : World) : Prop :=
  ∃ g2 hv', e = .returned (.pointer (some ⟨g2, 0, none⟩)) ∧ SpAt w' g2 pos md hv' ∧ w.heap.size ≤ g2 ∧ (∀ k, hv'.ownBlock = some k → w.heap.size ≤ k) ∧ Below w.heap.size w w'

set_option maxHeartbeats 2000000 in
theorem clone_none (g pos : Nat) (hv : Value) (w : World) (hs : SpAt w g pos none hv) :
    Calls Try.prog 23 #[.pointer (some ⟨g, 0, none⟩)] w (ClonePost w pos none) := by
  obtain ⟨rfl, fence, hg⟩ := hs
  have hgs := obj_lt hg
  obtain ⟨c0, c1, c2, c3, c4, f⟩ := sp_cells hg
  clear hg
  go_enter Try.func23, Try.ntmps23
  go_wp2_with fail
  go_region_held3 (fun w' => w'.cell? ⟨g, 1, none⟩ = some (.int .i64 pos) ∧ w'.cell? ⟨g, 2, none⟩ = some (.int .i64 fence) ∧ w'.cell? ⟨g, 3, none⟩ = some (.bool false) ∧ w'.cell? ⟨g, 4, none⟩ = some (.slice none 0 0))
    (go_keep)
    (fail)
  go_wp2
  go_ret
  refine ⟨w.heap.size, .slice none 0 0, rfl, ⟨rfl, fence, obj_new w _⟩, Nat.le_refl _, fun k h => (nil_block k h).elim, ((Below.refl _ w).alloc (Nat.le_refl _) _).drew⟩

theorem clone_keep {w w1 : World} {g : Nat} {p q r s : Value} (hgr : w.drew.grownBy w1 (Value.slice none 0 0).ownBlock) (hg : g < w.heap.size)
    (h1 : w.cell? ⟨g, 1, none⟩ = some p) (h2 : w.cell? ⟨g, 2, none⟩ = some q) (h3 : w.cell? ⟨g, 3, none⟩ = some r) (h4 : w.cell? ⟨g, 4, none⟩ = some s) :
    w1.cell? ⟨g, 1, none⟩ = some p ∧ w1.cell? ⟨g, 2, none⟩ = some q ∧ w1.cell? ⟨g, 3, none⟩ = some r ∧ w1.cell? ⟨g, 4, none⟩ = some s := by
  have hb : w1.heap[g]? = w.heap[g]? := hgr.block g hg (by simp [Value.ownBlock])
  refine ⟨?_, ?_, ?_, ?_⟩ <;> rw [World.cell?_of_block (w := w) hb] <;> assumption

set_option maxHeartbeats 2000000 in
theorem clone_some (g pos f0 : Nat) (l : List UInt8) (hv : Value) (w : World) (hs : SpAt w g pos (some (f0, l)) hv) :
    Calls Try.prog 23 #[.pointer (some ⟨g, 0, none⟩)] w (ClonePost w pos (some (f0, l))) := by
  obtain ⟨hg, ho, hl⟩ := hs
  have hgs := obj_lt hg
  obtain ⟨A, cap, rfl, hcap, hr, hcm, hnil⟩ := ho.form
  obtain ⟨c0, c1, c2, c3, c4, f⟩ := sp_cells hg
  have HR := Lib.hid hr
  clear hg ho hr hcm hnil
  go_enter Try.func23, Try.ntmps23
  go_wp2_with fail
  go_region_held3 (fun w' => w'.cell? ⟨g, 1, none⟩ = some (.int .i64 pos) ∧ w'.cell? ⟨g, 2, none⟩ = some (.int .i64 f0) ∧ w'.cell? ⟨g, 3, none⟩ = some (.bool true) ∧ w'.cell? ⟨g, 4, none⟩ = some (.slice A l.length cap))
    (first
      | go_keep
      | exact clone_keep hgrow hgs c1 c2 c3 c4)
    ((refine step_append_bytes w.heap.size (by rfl) _ _ 28 5 (by rfl) Try.underlying28 info_u8 (.slice none 0 0) [] l (by rfl) (OwnB.nil 5 _ _) A cap (by rfl) (HR.out.drewN 1) (by simp; omega) (Nat.le_refl _) ?_; intro v1 w1 hown hgrow hat; obtain ⟨A1, m1, rfl, hm1⟩ := hown.form; clear hm1))
  have T1 : Below w.heap.size w w1 := ((((Touch.refl (fun _ => False) w).drew).grown hgrow fun j h _ => nil_block j h).to_below w.heap.size (fun _ h => h.elim) (Nat.le_refl _))
  have hgs1 : g < w1.heap.size := Nat.lt_of_lt_of_le hgs T1.size
  have d3 : w1.cell? ⟨g, 3, none⟩ = some (.bool true) := by rw [T1.cell hgs]; exact c3
  have HO := Lib.hid hown
  have HT := Lib.hid T1
  clear hown T1 hgrow hat
  go_wp2
  go_ret
  have ho2 := own_lower (HO.out.below ((Below.refl w1.heap.size w1).alloc (Nat.le_refl _) (.cells (spCells (withinOf w1.heap.size) pos f0 true (.slice A1 l.length m1)) 49))) 0 (Nat.zero_le _)
  refine ⟨w1.heap.size, .slice A1 l.length m1, rfl, ⟨obj_new w1 _, ho2, hl⟩, HT.out.size, fun k h => (HO.out.lt k h).1, HT.out.alloc HT.out.size _⟩

theorem clone_calls (g pos : Nat) (md : Option Run) (hv : Value) (w : World) (hs : SpAt w g pos md hv) :
    Calls Try.prog 23 #[.pointer (some ⟨g, 0, none⟩)] w (ClonePost w pos md) := by
  cases md with
  | none => exact clone_none g pos hv w hs
  | some x => exact clone_some g pos x.1 x.2 hv w hs
end Go.Proofs.Ytnfefjlplipeiaa
