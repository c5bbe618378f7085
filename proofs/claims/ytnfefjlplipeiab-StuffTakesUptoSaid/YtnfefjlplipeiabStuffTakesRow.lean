/-
  The statement StuffTakes (second form: where what is read is of bulk at most 1048576). Condition: none beside the statement's own.
-/
import Derived.Test.YtnfefjlplipeiabRowKit
import Derived.Test.YtnfefjlplipeiabStuffLawE
import Derived.Test.YtnfefjlplipeiabBulk
import Derived.Deep.CondSized
namespace Go.Proofs.Ytnfefjlplipeiab.StuffTakesUpto
open Go.RowKit Go.ChangeShapes Go.WideShapes Go.ChangeAt

theorem cellsByte : Try.prog.cellsOf 5 = 1 := by kernel_rfl
theorem bytesByte : Try.prog.bytesOf 5 = 1 := by kernel_rfl

theorem contract (H : Type) (enc : TypeId × Value → H) (W : World) (base : Nat) (args : Array Value) (ds gs : List (DataW H)) (before : List MemPlace)
    (hval : ∀ (j : Nat) t v, Try.f5.params[j]? = some t → args[j]? = some v → Value.okWide Try.prog W .any base t v)
    (hW : DataW.Whole enc Try.prog Try.f5.params.toList Rows.stuffTakesSpec.vars false W args.toList ds gs before) (hsz : (DataW.weightsEach Try.prog (Try.f5.params.toList ++ (Rows.OpenSpec.upto Rows.stuffTakesSpec).bare.plain.varTypes Try.prog) (ds ++ gs)).all (· ≤ reachBytes) = true) (hk : Rows.uptoSmall H (ds ++ gs) = true) :
    Calls Try.prog 5 args W fun e W' => ∃ v, e = .returned v ∧ Rows.stuffTakesSpec.post enc Try.prog Try.f5 false true false false W args v W' := by
  have hW' := hW
  obtain ⟨p, q, hA0, hV, rfl, hfz, hnd⟩ := hW
  have hA : DataW.TrodAll enc Try.prog W 0 (fun _ => true) true Try.f5.params.toList args.toList ds p := hA0
  obtain ⟨rfl, rfl⟩ := trodVars_none hV
  rw [Try.params5] at hA hval hsz
  obtain ⟨v0, vs0, d0, ds0, p0, q0, hargs, rfl, rfl, h0, r0⟩ := trodAll_cons hA
  obtain ⟨rfl, rfl, rfl⟩ := trodAll_nil r0
  obtain rfl : args = #[v0] := by cases args; simp_all
  obtain ⟨A0, c0, l0, rfl, hr0, hlc0, hcm0, hd0⟩ := open_bytes Try.underlying22 Try.underlying5 cellsByte bytesByte (hval 0 22 v0 rfl rfl) h0 (j := 0) hsz rfl rfl
  clear hA0
  have hbulk : l0.length ≤ 1048576 := by
    have hb := of_decide_eq_true hk
    have each : ∀ (d : DataW H) (l : List UInt8), ((d = .nil ∧ l = []) ∨ ∃ xs ys, d = .slice xs ys ∧ xs.length = l.length) → l.length ≤ Rows.uptoBulk d := by
      intro d l hd
      rcases hd with ⟨rfl, rfl⟩ | ⟨xs, ys, rfl, hxs⟩
      · simp
      · have := bulk_length xs
        simp only [Rows.uptoBulk]
        omega
    have e0 := each d0 l0 hd0
    simp only [List.append_nil, Rows.uptoBulkAll] at hb
    omega
  have hcalls := takes_calls A0 c0 l0 W (by omega) hlc0 hr0
  refine hcalls.mono fun e W' ⟨he, hb⟩ => ?_
  subst he
  exact ⟨_, rfl, post_law laidOut rfl (by kernel_rfl) Try.underlying4 (by kernel_rfl) hW' rfl hb⟩

set_option maxRecDepth 100000 in
theorem lifted (os : Os) (started : os.Started) (H : Type) (enc : TypeId × Value → H) (F : Stop.Interp) :
    ReturnsInHanded {} Try.checked os 5 .any ((Rows.OpenSpec.upto Rows.stuffTakesSpec).pre6 enc Try.prog Try.f5 Rows.stuffTakesUptoRow.domain false) (((Rows.OpenSpec.upto Rows.stuffTakesSpec).at F).post enc Try.prog Try.f5 false true false false) := by
  refine returnsInHanded_of_cond_sized (C := Try.checked) (s := (Rows.OpenSpec.upto Rows.stuffTakesSpec)) (k := Rows.uptoSmall) rfl own started (by kernel_rfl) Try.func5
    (OpenSpec.witness (enc := enc) (C := Try.checked) (s := (Rows.OpenSpec.upto Rows.stuffTakesSpec)) (k := Rows.uptoSmall) rfl false ⟨#[], #[.slice none 0 0], []⟩ 8 (by kernel_rfl) (by kernel_rfl) (by kernel_rfl)
      (x := ([.nil], [], [])) (by kernel_rfl) rfl (by kernel_rfl)) ?_
  intro W base args ds gs before hval hW _ hk hsz _
  exact contract H enc W base args ds gs before hval hW hsz hk

theorem said : Rows.StuffTakesUptoSaid :=
  OpenClaim.holds_of_cond 5 Try.f5 rfl rfl rfl rfl rfl rfl rfl ⟨rfl, rfl, rfl, rfl, rfl⟩ rfl rfl rfl rfl rfl (by kernel_rfl) Try.func5 (by kernel_rfl)
    (of_decide_eq_true (by kernel_rfl)) (by unfold Func.isWrapper; first | (rw [if_pos (by decide +kernel)]; kernel_rfl) | (rw [if_neg (by decide +kernel)]; exact ⟨rfl, rfl⟩))
    (fun os started H enc _ F => lifted os started H enc F)
end Go.Proofs.Ytnfefjlplipeiab.StuffTakesUpto
namespace Go.Proofs.Ytnfefjlplipeiab
theorem stuffTakesUpto_said : Rows.StuffTakesUptoSaid := StuffTakesUpto.said
#print axioms stuffTakesUpto_said
end Go.Proofs.Ytnfefjlplipeiab
