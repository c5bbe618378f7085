/-
  The statement DevFails. Condition: none beside the statement's own.
-/
import Derived.Test.YtnfefjlplipeiabRowKit
import Derived.Test.YtnfefjlplipeiabDevFails
import Derived.Test.YtnfefjlplipeiabOpens
namespace Go.Proofs.Ytnfefjlplipeiab.DevFails
open Go.RowKit Go.ChangeShapes Go.WideShapes Go.ChangeAt

theorem cellsByte : Try.prog.cellsOf 5 = 1 := by kernel_rfl
theorem bytesByte : Try.prog.bytesOf 5 = 1 := by kernel_rfl

theorem contract (H : Type) (enc : TypeId × Value → H) (W : World) (base : Nat) (args : Array Value) (ds gs : List (DataW H)) (before : List MemPlace)
    (hval : ∀ (j : Nat) t v, Try.f9.params[j]? = some t → args[j]? = some v → Value.okWide Try.prog W .any base t v)
    (hW : DataW.Whole enc Try.prog Try.f9.params.toList Rows.devFailsSpec.vars false W args.toList ds gs before) :
    Calls Try.prog 9 args W fun e W' => ∃ v, e = .returned v ∧ Rows.devFailsSpec.post enc Try.prog Try.f9 false true false false W args v W' := by
  have hW' := hW
  obtain ⟨p, q, hA0, hV, rfl, hfz, hnd⟩ := hW
  have hA : DataW.TrodAll enc Try.prog W 0 (fun _ => true) true Try.f9.params.toList args.toList ds p := hA0
  obtain ⟨rfl, rfl⟩ := trodVars_none hV
  rw [Try.params9] at hA hval
  obtain ⟨v0, vs0, d0, ds0, p0, q0, hargs, rfl, rfl, h0, r0⟩ := trodAll_cons hA
  obtain ⟨rfl, rfl, rfl⟩ := trodAll_nil r0
  obtain rfl : args = #[v0] := by cases args; simp_all
  obtain ⟨c0, c1, c2, c3, y0, y1, y2, y3, n0, rfl, rfl, rfl, k0, k1, k2, k3⟩ := Joins.open_agg4 Try.underlying33 (by kernel_rfl) (by kernel_rfl) (hval 0 33 v0 rfl rfl) h0
  obtain ⟨A0, q0, l0, rfl, hr0, _⟩ := open_bytes_at Try.underlying22 Try.underlying5 cellsByte k0
  obtain ⟨A1, q1, l1, rfl, hr1, hlc1, _⟩ := open_bytes_at Try.underlying22 Try.underlying5 cellsByte k1
  obtain ⟨a2, e2, _, wf2⟩ := DataW.trod_int Try.underlying3 k2
  obtain ⟨a3, e3, _, wf3⟩ := DataW.trod_int Try.underlying3 k3
  simp only [List.cons.injEq, and_true] at e2 e3
  subst e2 e3
  have bd2 : -9223372036854775808 ≤ a2 ∧ a2 ≤ 9223372036854775807 := by simpa [Lit.wf, IntKind.min, IntKind.max, IntKind.signed, IntKind.bits] using wf2
  have bd3 : -9223372036854775808 ≤ a3 ∧ a3 ≤ 9223372036854775807 := by simpa [Lit.wf, IntKind.min, IntKind.max, IntKind.signed, IntKind.bits] using wf3
  clear hA0
  have hcalls := fails_calls A0 A1 q0 q1 l0 l1 a2 a3 W hlc1 hr0 hr1 (by omega) (by omega)
  refine hcalls.mono fun e W' ⟨he, hb⟩ => ?_
  subst he
  exact ⟨_, rfl, post_law laidOut rfl (by kernel_rfl) Try.underlying4 (by kernel_rfl) hW' rfl hb⟩

set_option maxRecDepth 100000 in
theorem lifted (os : Os) (started : os.Started) (H : Type) (enc : TypeId × Value → H) :
    ReturnsInHanded {} Try.checked os 9 .any (Rows.devFailsSpec.pre6 enc Try.prog Try.f9 Rows.devFailsRow.domain false) (Rows.devFailsSpec.post enc Try.prog Try.f9 false true false false) := by
  refine returnsInHanded_of_change_sized (C := Try.checked) own started (by kernel_rfl) Try.func9
    (ChangeSpec.witness6 (enc := enc) (C := Try.checked) false ⟨#[], #[.agg #[.slice none 0 0, .slice none 0 0, .int .i64 0, .int .i64 0]], []⟩ 8 (by kernel_rfl) (by kernel_rfl) (by kernel_rfl) (by kernel_rfl)) ?_
  intro W base args ds gs before hval hW _ hsz _
  exact contract H enc W base args ds gs before hval hW

theorem said : Rows.DevFailsSaid :=
  OpenClaim.holds_of_wide 9 Try.f9 rfl rfl rfl rfl rfl rfl rfl ⟨rfl, rfl, rfl, rfl, rfl⟩ rfl rfl rfl rfl rfl (by kernel_rfl) Try.func9 (by kernel_rfl)
    (of_decide_eq_true (by kernel_rfl)) (by unfold Func.isWrapper; first | (rw [if_pos (by decide +kernel)]; kernel_rfl) | (rw [if_neg (by decide +kernel)]; exact ⟨rfl, rfl⟩))
    (fun os started H enc _ => lifted os started H enc)
end Go.Proofs.Ytnfefjlplipeiab.DevFails
namespace Go.Proofs.Ytnfefjlplipeiab
theorem devFails_said : Rows.DevFailsSaid := DevFails.said
#print axioms devFails_said
end Go.Proofs.Ytnfefjlplipeiab
