/-
  The statement ScanPrefix. Condition: none beside the statement's own.
-/
import Derived.Test.YtihodcnnappkbaaGreatDoorCards
import Derived.Test.YtihodcnnappkbaaGreatDoorTie
import Derived.Test.YtihodcnnappkbaaGreatDoorG10
import Derived.Test.YtihodcnnappkbaaGreatDoorG28
namespace Go.Proofs.YtihodcnnappkbaaGreatDoor.ScanPrefix
open Go.RowKit Go.ChangeShapes Go.WideShapes Go.ChangeAt

theorem cellsByte : Tryz.prog.cellsOf 5 = 1 := by kernel_rfl
theorem bytesByte : Tryz.prog.bytesOf 5 = 1 := by kernel_rfl

set_option maxRecDepth 100000 in
theorem contract (H : Type) (enc : TypeId × Value → H) (W : World) (base : Nat) (args : Array Value) (ds gs : List (DataW H)) (before : List MemPlace)
    (hval : ∀ (j : Nat) t v, Tryz.f8.params[j]? = some t → args[j]? = some v → Value.okWide Tryz.prog W .any base t v)
    (hW : DataW.Whole enc Tryz.prog Tryz.f8.params.toList Rows.scanPrefixSpec.vars false W args.toList ds gs before) (hsz : (DataW.weightsEach Tryz.prog (Tryz.f8.params.toList ++ (OpenSpec.ofChange Rows.scanPrefixSpec).bare.plain.varTypes Tryz.prog) (ds ++ gs)).all (· ≤ reachBytes) = true) (hL : laidMetH Tryz.prog Rows.scanPrefixRow.laid W) :
    Calls Tryz.prog 8 args W fun e W' => ∃ v, e = .returned v ∧ Rows.scanPrefixSpec.post enc Tryz.prog Tryz.f8 false true false false W args v W' := by
  have hW' := hW
  obtain ⟨p, q, hA0, hV, rfl, hfz, hnd⟩ := hW
  have hA : DataW.TrodAll enc Tryz.prog W 0 (fun _ => true) true Tryz.f8.params.toList args.toList ds p := hA0
  obtain ⟨rfl, rfl⟩ := trodVars_none hV
  rw [Tryz.params8] at hA hval hsz
  obtain ⟨v0, vs0, d0, ds0, p0, q0, hargs, rfl, rfl, h0, r0⟩ := trodAll_cons hA
  obtain ⟨v1, vs1, d1, ds1, p1, q1, rfl, rfl, rfl, h1, r1⟩ := trodAll_cons r0
  obtain ⟨rfl, rfl, rfl⟩ := trodAll_nil r1
  obtain rfl : args = #[v0, v1] := by cases args; simp_all
  obtain ⟨A0, c0, l0, rfl, hr0, hlc0, hcm0, hd0⟩ := open_bytes Tryz.underlying31 Tryz.underlying5 cellsByte bytesByte (hval 0 31 v0 rfl rfl) h0 (j := 0) hsz rfl rfl
  obtain ⟨a1, rfl, rfl, rfl, wf1⟩ := open_int Tryz.underlying3 (hval 1 3 v1 rfl rfl) h1
  have bd1 : -9223372036854775808 ≤ a1 ∧ a1 ≤ 9223372036854775807 := by simpa [Lit.wf, IntKind.min, IntKind.max, IntKind.signed, IntKind.bits] using wf1
  clear hA0
  have hcalls := prefixL_calls A0 c0 l0 a1 W hr0 (by omega) hlc0 (by omega) bd1 (tables hL).1 (tables hL).2
  refine hcalls.mono fun e W' ⟨he, hb⟩ => ?_
  subst he
  exact ⟨_, rfl, post_law laidOut rfl (by kernel_rfl) Tryz.underlying4 (by kernel_rfl) hW' rfl hb⟩

theorem laidL_is : Rows.scanPrefixRow.laid = laidL := rfl
theorem laid_metR (os : Os) : laidMet Tryz.prog Rows.scanPrefixRow.laid ((laidWorld os).forCall (fun _ _ => 0) ⟨#[], #[.slice none 0 0, .int .i64 0], []⟩).memory := laid_met os _
theorem reads (os : Os) {H : Type} (enc : TypeId × Value → H) : ∃ places, DataW.whole enc Tryz.prog ((laidWorld os).forCall (fun _ _ => 0) ⟨#[], #[.slice none 0 0, .int .i64 0], []⟩).memory Tryz.f8.params.toList Rows.scanPrefixSpec.vars false (#[.slice none 0 0, .int .i64 0] : Array Value).toList 8 = some ([.nil, .lit (.int .i64 0)], [], places) :=
  ⟨[], by kernel_rfl⟩

set_option maxRecDepth 100000 in
theorem lifted (os : Os) (started : os.Started) (H : Type) (enc : TypeId × Value → H) (F : Stop.Interp) :
    ReturnsInHanded {} Tryz.checked os 8 .any ((OpenSpec.ofChange Rows.scanPrefixSpec).preRow enc Tryz.prog Tryz.f8 Rows.scanPrefixRow.domain false Rows.scanPrefixRow.laid) (((OpenSpec.ofChange Rows.scanPrefixSpec).at F).post enc Tryz.prog Tryz.f8 false true false false) := by
  obtain ⟨places, hx⟩ := reads os enc
  refine returnsInHanded_of_row (C := Tryz.checked) (s := (OpenSpec.ofChange Rows.scanPrefixSpec)) own started (by kernel_rfl) Tryz.func8
    (witness_row_at (enc := enc) (C := Tryz.checked) false (laidWorld os) #[.slice none 0 0, .int .i64 0] rfl (by kernel_rfl) (by kernel_rfl) (by kernel_rfl)
      (OpenSpec.preRow_of_cond 8 hx (by kernel_rfl) (fun k hk => by cases hk) (by kernel_rfl) (laid_metR os))) ?_
  intro W base args ds gs before hval hW _ hcond hsz hL _ _
  exact contract H enc W base args ds gs before hval hW hsz hL

theorem said : Rows.ScanPrefixSaid :=
  OpenClaim.holds_of_cond 8 Tryz.f8 rfl rfl rfl rfl rfl rfl rfl ⟨rfl, rfl, rfl, rfl, rfl⟩ rfl rfl rfl rfl rfl (by kernel_rfl) Tryz.func8 (by kernel_rfl)
    (of_decide_eq_true (by kernel_rfl)) (by unfold Func.isWrapper; first | (rw [if_pos (by decide +kernel)]; kernel_rfl) | (rw [if_neg (by decide +kernel)]; exact ⟨rfl, rfl⟩))
    (fun os started H enc _ F => by rw [OpenClaim.pre_eq_preRow]; exact lifted os started H enc F)

theorem plain (f : FuncId) (fn : Func) (hf : Tryz.pinned.checked.prog.funcNamed "gabion/gabionlaw14.ScanPrefix" = some f) (hfn : Tryz.pinned.checked.prog.funcs[f]? = some fn) :
    true = Tryz.pinned.checked.prog.looks [] ∧ ∀ (j : Nat) t, fn.params[j]? = some t → Tryz.pinned.checked.prog.wantsStandIn t = false := by
  obtain rfl : f = 8 := Option.some.inj ((show Tryz.prog.funcNamed "gabion/gabionlaw14.ScanPrefix" = some 8 by kernel_rfl).symm.trans hf) |>.symm
  obtain rfl : fn = Tryz.f8 := (Option.some.inj (Tryz.func8.symm.trans hfn)).symm
  refine ⟨by kernel_rfl, fun j t ht => ?_⟩
  rw [Tryz.params8] at ht
  have hall : ([31, 3].all fun u => !Tryz.prog.wantsStandIn u) = true := by kernel_rfl
  have hm : t ∈ [31, 3] := by simpa using Array.mem_of_getElem? ht
  exact (show Tryz.prog.wantsStandIn t = false by simpa using List.all_eq_true.1 hall t hm)

theorem card : Rows.ScanPrefixCardSaid :=
  Claim7.holds_tied_plain_at .later [] _ _ _ _ said (fun _ h => by cases h) (by kernel_rfl) (fun _ h => by cases h) scanPrefix_row_tie rfl ⟨rfl, rfl⟩ (by kernel_rfl) rfl plain (by kernel_rfl)
end Go.Proofs.YtihodcnnappkbaaGreatDoor.ScanPrefix
namespace Go.Proofs.YtihodcnnappkbaaGreatDoor
theorem scanPrefix_card : Rows.ScanPrefixCardSaid := ScanPrefix.card
#print axioms scanPrefix_card
end Go.Proofs.YtihodcnnappkbaaGreatDoor
