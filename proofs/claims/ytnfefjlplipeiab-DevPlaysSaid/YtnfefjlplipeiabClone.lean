/-
  The walk of slices.Clone at a slice of bytes. Condition: the slice reads as a list of bytes.
-/
import Derived.Test.YtnfefjlplipeiabLoose
namespace Go.Proofs.Ytnfefjlplipeiab
open Go.RowKit
set_option linter.unusedVariables false
set_option linter.unusedSimpArgs false
theorem info_byte : (Try.prog.info? 5).map (fun i => (i.zero, i.size, i.bytes)) = some (some (.int .u8 0), 1, 1) := by kernel_rfl

set_option maxHeartbeats 1000000 in
theorem clone_bytes (A : Option Addr) (c : Nat) (l : List UInt8) (w : World) (hl : l.length ≤ 140737488355328) (hr : Reads w A l) :
    Calls Try.prog 48 #[.slice A l.length c] w fun e w' => ∃ v, e = .returned v ∧ OwnL 5 w' w.heap.size v l ∧ Keeps w w' := by
  cases A with
  | none =>
    have := hr.none
    subst this
    clear hr
    have heq := fun (w : World) => Lib.run_eql_slice_nil (P := Try.prog) w 22 5 none 0 c 0 0 Try.underlying22
    go_enter Try.func48, Try.ntmps48
    go_wp2
    go_ret
    exact ⟨_, rfl, OwnL.empty _ _ _ none, Keeps.refl w⟩
  | some a =>
    have HR := Lib.hid hr
    clear hr
    have heq := fun (w : World) => Lib.run_eql_slice_nil (P := Try.prog) w 22 5 (some a) l.length c 0 0 Try.underlying22
    go_enter Try.func48, Try.ntmps48
    go_wp2_with (at_builtin; refine wpList_append_loose w.heap.size rfl _ _ 22 5 rfl Try.underlying22 info_byte (.slice (some ⟨w.heap.size, 0, none⟩) 0 0) [] l rfl ?c0 (some a) c rfl ?c1 ?c2 ?c3 ?_)
    case c0 => exact OwnL.empty _ _ _ _
    case c1 => exact HR.out.below ((Below.refl _ w).alloc (Nat.le_refl _) _)
    case c2 => simpa using hl
    case c3 => simp
    intro v1 w1 hown hgr hat
    go_wp2
    go_ret
    refine ⟨_, rfl, by simpa using hown, ?_⟩
    exact (Keeps.refl w).trans (Touch.nothing (F := fun _ => False) (((Touch.refl _ w).alloc _).grown hgr fun i h _ => by rw [blk_empty] at h; cases h) fun _ _ h => h)
end Go.Proofs.Ytnfefjlplipeiab
