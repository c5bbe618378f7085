/-
  A file of bytes in memory: its block, its row, its bound failure; small walks. Condition: the block stands for the machine.
-/
import Derived.Test.YtnfefjlplipeiabStuffBase
import Derived.Test.YtnfefjlplipeiabLoose
import Derived.Test.YtnfefjlplipeiabDevMath
import Derived.Deep.RegionHeld3
namespace Go.Proofs.Ytnfefjlplipeiab
open Go.RowKit
set_option linter.unusedVariables false
set_option linter.unusedSimpArgs false

/-- its fields -/
def dvCells (v : Value) (q s : Int) (dn : Bool) (bp : Value) (ct dd : Int) (does : Value) : Array Value := #[v, .int .i64 q, .int .i64 s, .bool dn, bp, .int .i64 ct, .int .i64 dd, does]
/-- the bound failure in memory -/
def BoundAt (w : World) (bp : Value) : Option (Nat × Nat) → Prop
  | none => bp = .pointer none
  | some (a, k) => ∃ f, bp = .pointer (some ⟨f, 0, none⟩) ∧ w.heap[f]? = some (.cells #[.int .i64 (a : Int), .int .i64 (k : Int)] 65 (0, 0))
def bpBlock : Value → Option Nat
  | .pointer (some a) => some a.block
  | _ => none
/-- the block g, the row v, the failure bp stand for the machine -/
def DvAt (w : World) (g : Nat) (v bp does : Value) (d : Dv) : Prop :=
  w.heap[g]? = some (.cells (dvCells v d.quota d.synced d.down bp d.counted d.deeds does) 62 (0, 0)) ∧ OwnL 5 w 0 v d.b ∧ BoundAt w bp d.bound
theorem BoundAt.keep {F : Nat → Prop} {w w' : World} {bp : Value} {o : Option (Nat × Nat)} (h : BoundAt w bp o) (ht : Touch F w w') (hF : ∀ k, bpBlock bp = some k → ¬ F k) : BoundAt w' bp o := by
  cases o with
  | none => exact h
  | some x =>
    obtain ⟨f, rfl, hf⟩ := h
    exact ⟨f, rfl, ht.obj hf (hF f rfl)⟩
theorem DvAt.keep {F : Nat → Prop} {w w' : World} {g : Nat} {v bp does : Value} {d : Dv} (h : DvAt w g v bp does d) (ht : Touch F w w') (hg : ¬ F g) (hv : ∀ k, blk v = some k → ¬ F k) (hF : ∀ k, bpBlock bp = some k → ¬ F k) : DvAt w' g v bp does d :=
  ⟨ht.obj h.1 hg, h.2.1.keep ht hv, h.2.2.keep ht hF⟩
theorem dv_cells {w : World} {g : Nat} {v bp does : Value} {q s ct dd : Int} {dn : Bool} (hg : w.heap[g]? = some (.cells (dvCells v q s dn bp ct dd does) 62 (0, 0))) :
    w.cell? ⟨g, 0, none⟩ = some v ∧ w.cell? ⟨g, 1, none⟩ = some (.int .i64 q) ∧ w.cell? ⟨g, 2, none⟩ = some (.int .i64 s) ∧ w.cell? ⟨g, 3, none⟩ = some (.bool dn) ∧ w.cell? ⟨g, 4, none⟩ = some bp ∧ w.cell? ⟨g, 5, none⟩ = some (.int .i64 ct) ∧ w.cell? ⟨g, 6, none⟩ = some (.int .i64 dd) ∧ w.cell? ⟨g, 7, none⟩ = some does ∧ ∀ i, w.frozen? ⟨g, i, none⟩ = false :=
  ⟨by rw [obj_cell hg]; rfl, by rw [obj_cell hg]; rfl, by rw [obj_cell hg]; rfl, by rw [obj_cell hg]; rfl, by rw [obj_cell hg]; rfl, by rw [obj_cell hg]; rfl, by rw [obj_cell hg]; rfl, by rw [obj_cell hg]; rfl, obj_frozen hg⟩
/-- a file of bytes at g, whose blocks lie in S -/
def DV (w : World) (S : Nat → Prop) (g : Nat) (d : Dv) : Prop :=
  ∃ v bp does, DvAt w g v bp does d ∧ S g ∧ (∀ k, blk v = some k → S k) ∧ (∀ k, bpBlock bp = some k → S k) ∧ does = .nilFunc
/-- these blocks, and new ones -/
def More (S : Nat → Prop) (w : World) : Nat → Prop := fun j => S j ∨ w.heap.size ≤ j
theorem BoundAt.lt {w : World} {bp : Value} {o : Option (Nat × Nat)} (h : BoundAt w bp o) (k : Nat) (hk : bpBlock bp = some k) : k < w.heap.size := by
  cases o with
  | none => rw [show bp = _ from h] at hk; simp [bpBlock] at hk
  | some x =>
    obtain ⟨f, rfl, hf⟩ := h
    simp only [bpBlock, Option.some.injEq] at hk
    rw [← hk]
    exact obj_lt hf
theorem DV.mono {w : World} {S T : Nat → Prop} {g : Nat} {d : Dv} (h : DV w S g d) (hS : ∀ k, k < w.heap.size → S k → T k) : DV w T g d := by
  obtain ⟨v, bp, does, hat, h1, h2, h3, h4⟩ := h
  exact ⟨v, bp, does, hat, hS g (obj_lt hat.1) h1, fun k hk => hS k ((hat.2.1.lt k hk).2) (h2 k hk), fun k hk => hS k (hat.2.2.lt k hk) (h3 k hk), h4⟩
theorem DV.self {w : World} {S : Nat → Prop} {g : Nat} {d : Dv} (h : DV w S g d) : S g := by
  obtain ⟨v, bp, does, hat, h1, h2, h3, h4⟩ := h
  exact h1
theorem DV.lt {w : World} {S : Nat → Prop} {g : Nat} {d : Dv} (h : DV w S g d) : g < w.heap.size := by
  obtain ⟨v, bp, does, hat, h1, h2, h3, h4⟩ := h
  exact obj_lt hat.1
theorem DV.keep {F S : Nat → Prop} {w w' : World} {g : Nat} {d : Dv} (h : DV w S g d) (ht : Touch F w w') (hF : ∀ k, k < w.heap.size → S k → ¬ F k) : DV w' S g d := by
  obtain ⟨v, bp, does, hat, h1, h2, h3, h4⟩ := h
  exact ⟨v, bp, does, hat.keep ht (hF g (obj_lt hat.1) h1) (fun k hk => hF k ((hat.2.1.lt k hk).2) (h2 k hk)) (fun k hk => hF k (hat.2.2.lt k hk) (h3 k hk)), h1, h2, h3, h4⟩
theorem DV.below {S : Nat → Prop} {w w' : World} {g : Nat} {d : Dv} (h : DV w S g d) (hb : Below w.heap.size w w') : DV w' S g d :=
  h.keep (F := fun _ => False) (Touch.of_below hb fun k hk hb => absurd hk (by omega)) fun _ _ _ h => h
/-- its blocks are there -/
theorem DV.here {w : World} {S : Nat → Prop} {g : Nat} {d : Dv} (h : DV w S g d) : DV w (fun k => S k ∧ k < w.heap.size) g d := h.mono fun _ hk hS => ⟨hS, hk⟩
end Go.Proofs.Ytnfefjlplipeiab
