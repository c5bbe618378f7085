/-
  The statement CrcLinear. Condition: none beside the statement's own.
-/
import Derived.Test.YtnfefjlplipeiaaDoorCards
import Derived.Test.YtnfefjlplipeiaaDoorTie
import Derived.Test.YtnfefjlplipeiaaDoorRowKit
import Derived.Test.YtnfefjlplipeiaaDoorCrcLawC
import Derived.Lib.LaidTab
namespace Go.Proofs.YtnfefjlplipeiaaDoor.CrcLinear
open Go.RowKit Go.ChangeShapes Go.WideShapes Go.ChangeAt

theorem gTab : Tryd.prog.globalNamed "gabion/crc.halves" = some 0 := by kernel_rfl
theorem gTabType : (Tryd.prog.globals[0]?).map (·.type) = some 33 := by kernel_rfl
theorem cellsTab : Tryd.prog.cellsOf 33 = 16 := by kernel_rfl
theorem cellsElem : Tryd.prog.cellsOf 23 = 1 := by kernel_rfl
theorem table {W : World} (h : laidMetH Tryd.prog Rows.crcLinearRow.laid W) : Table W := by
  have ht : Lib.TabIs Tryd.prog W "gabion/crc.halves" .u32 (Crc.tab.map fun n : Nat => (n : Int)) := Lib.tabIs_of_head (rest := []) gTab gTabType Tryd.underlying33 Tryd.underlying23 cellsElem cellsTab h
  intro i hi
  have := ht.cell gTab i (by simpa [Crc.tab] using hi)
  have e : ∀ j, (Crc.tab.map fun n : Nat => (n : Int)).getD j 0 = ((Crc.tab.getD j 0 : Nat) : Int) := by
    intro j
    simp only [List.getD_eq_getElem?_getD, List.getElem?_map]
    cases Crc.tab[j]? <;> rfl
  rw [this, e]

theorem cellsByte : Tryd.prog.cellsOf 5 = 1 := by kernel_rfl
theorem bytesByte : Tryd.prog.bytesOf 5 = 1 := by kernel_rfl

theorem contract (H : Type) (enc : TypeId × Value → H) (W : World) (base : Nat) (args : Array Value) (ds gs : List (DataW H)) (before : List MemPlace)
    (hval : ∀ (j : Nat) t v, Tryd.f7.params[j]? = some t → args[j]? = some v → Value.okWide Tryd.prog W .any base t v)
    (hW : DataW.Whole enc Tryd.prog Tryd.f7.params.toList Rows.crcLinearSpec.vars false W args.toList ds gs before) (hsz : (DataW.weightsEach Tryd.prog (Tryd.f7.params.toList ++ (OpenSpec.ofChange Rows.crcLinearSpec).bare.plain.varTypes Tryd.prog) (ds ++ gs)).all (· ≤ reachBytes) = true) (hL : laidMetH Tryd.prog Rows.crcLinearRow.laid W) :
    Calls Tryd.prog 7 args W fun e W' => ∃ v, e = .returned v ∧ Rows.crcLinearSpec.post enc Tryd.prog Tryd.f7 false true false false W args v W' := by
  have hW' := hW
  obtain ⟨p, q, hA0, hV, rfl, hfz, hnd⟩ := hW
  have hA : DataW.TrodAll enc Tryd.prog W 0 (fun _ => true) true Tryd.f7.params.toList args.toList ds p := hA0
  obtain ⟨rfl, rfl⟩ := trodVars_none hV
  rw [Tryd.params7] at hA hval hsz
  obtain ⟨v0, vs0, d0, ds0, p0, q0, hargs, rfl, rfl, h0, r0⟩ := trodAll_cons hA
  obtain ⟨v1, vs1, d1, ds1, p1, q1, rfl, rfl, rfl, h1, r1⟩ := trodAll_cons r0
  obtain ⟨v2, vs2, d2, ds2, p2, q2, rfl, rfl, rfl, h2, r2⟩ := trodAll_cons r1
  obtain ⟨rfl, rfl, rfl⟩ := trodAll_nil r2
  obtain rfl : args = #[v0, v1, v2] := by cases args; simp_all
  obtain ⟨A0, c0, l0, rfl, hr0, hlc0, hcm0, hd0⟩ := open_bytes Tryd.underlying25 Tryd.underlying5 cellsByte bytesByte (hval 0 25 v0 rfl rfl) h0 (j := 0) hsz rfl rfl
  obtain ⟨A1, c1, l1, rfl, hr1, hlc1, hcm1, hd1⟩ := open_bytes Tryd.underlying25 Tryd.underlying5 cellsByte bytesByte (hval 1 25 v1 rfl rfl) h1 (j := 1) hsz rfl rfl
  obtain ⟨A2, c2, l2, rfl, hr2, hlc2, hcm2, hd2⟩ := open_bytes Tryd.underlying25 Tryd.underlying5 cellsByte bytesByte (hval 2 25 v2 rfl rfl) h2 (j := 2) hsz rfl rfl
  clear hA0
  have hcalls := linear_loop A0 A1 A2 c0 c1 c2 l0.length l1.length l2.length l0 l1 l2 W (Lib.hid rfl) (Lib.hid rfl) (Lib.hid rfl) (by omega) (by omega) (by omega) hlc0 hlc1 hlc2 (Lib.hid hr0) (Lib.hid hr1) (Lib.hid hr2) (Lib.hid (table hL))
  refine hcalls.mono fun e W' ⟨he, hb⟩ => ?_
  subst he
  exact ⟨_, rfl, post_law laidOut rfl (by kernel_rfl) Tryd.underlying4 (by kernel_rfl) hW' rfl hb⟩

noncomputable def laidWorld (os : Os) : World :=
  { World.holding Tryd.prog os ⟨#[], #[], []⟩ with heap := (World.holding Tryd.prog os ⟨#[], #[], []⟩).heap.modify 0 fun
      | .cells _ t frozen => .cells (Crc.tab.map fun n : Nat => Value.int .u32 (n : Int)).toArray t frozen
      | o => o }
theorem laid_met (os : Os) : laidMet Tryd.prog Rows.crcLinearRow.laid ((laidWorld os).forCall (fun _ _ => 0) ⟨#[], #[.slice none 0 0, .slice none 0 0, .slice none 0 0], []⟩).memory :=
  laidMet_of_run' 8 (by kernel_rfl) (by kernel_rfl)
theorem reads (os : Os) {H : Type} (enc : TypeId × Value → H) : ∃ places, DataW.whole enc Tryd.prog ((laidWorld os).forCall (fun _ _ => 0) ⟨#[], #[.slice none 0 0, .slice none 0 0, .slice none 0 0], []⟩).memory Tryd.f7.params.toList Rows.crcLinearSpec.vars false (#[.slice none 0 0, .slice none 0 0, .slice none 0 0] : Array Value).toList 8 = some ([.nil, .nil, .nil], [], places) :=
  ⟨[], by kernel_rfl⟩

set_option maxRecDepth 100000 in
theorem lifted (os : Os) (started : os.Started) (H : Type) (enc : TypeId × Value → H) (F : Stop.Interp) :
    ReturnsInHanded {} Tryd.checked os 7 .any ((OpenSpec.ofChange Rows.crcLinearSpec).preRow enc Tryd.prog Tryd.f7 Rows.crcLinearRow.domain false Rows.crcLinearRow.laid) (((OpenSpec.ofChange Rows.crcLinearSpec).at F).post enc Tryd.prog Tryd.f7 false true false false) := by
  obtain ⟨places, hx⟩ := reads os enc
  refine returnsInHanded_of_row (C := Tryd.checked) (s := (OpenSpec.ofChange Rows.crcLinearSpec)) own started (by kernel_rfl) Tryd.func7
    (witness_row_at (enc := enc) (C := Tryd.checked) false (laidWorld os) #[.slice none 0 0, .slice none 0 0, .slice none 0 0] rfl (by kernel_rfl) (by kernel_rfl) (by kernel_rfl)
      (OpenSpec.preRow_of_cond 8 hx (by kernel_rfl) (fun k hk => by cases hk) (by kernel_rfl) (laid_met os))) ?_
  intro W base args ds gs before hval hW _ hcond hsz hL _ _
  exact contract H enc W base args ds gs before hval hW hsz hL

theorem said : Rows.CrcLinearSaid :=
  OpenClaim.holds_of_cond 7 Tryd.f7 rfl rfl rfl rfl rfl rfl rfl ⟨rfl, rfl, rfl, rfl, rfl⟩ rfl rfl rfl rfl rfl (by kernel_rfl) Tryd.func7 (by kernel_rfl)
    (of_decide_eq_true (by kernel_rfl)) (by unfold Func.isWrapper; first | (rw [if_pos (by decide +kernel)]; kernel_rfl) | (rw [if_neg (by decide +kernel)]; exact ⟨rfl, rfl⟩))
    (fun os started H enc _ F => by rw [OpenClaim.pre_eq_preRow]; exact lifted os started H enc F)

theorem plain (f : FuncId) (fn : Func) (hf : Tryd.pinned.checked.prog.funcNamed "gabion/gabionlaw02.CrcLinear" = some f) (hfn : Tryd.pinned.checked.prog.funcs[f]? = some fn) :
    false = Tryd.pinned.checked.prog.looks [] ∧ ∀ (j : Nat) t, fn.params[j]? = some t → Tryd.pinned.checked.prog.wantsStandIn t = false := by
  obtain rfl : f = 7 := Option.some.inj ((show Tryd.prog.funcNamed "gabion/gabionlaw02.CrcLinear" = some 7 by kernel_rfl).symm.trans hf) |>.symm
  obtain rfl : fn = Tryd.f7 := (Option.some.inj (Tryd.func7.symm.trans hfn)).symm
  refine ⟨by kernel_rfl, fun j t ht => ?_⟩
  rw [Tryd.params7] at ht
  have hall : ([25, 25, 25].all fun u => !Tryd.prog.wantsStandIn u) = true := by kernel_rfl
  have hm : t ∈ [25, 25, 25] := by simpa using Array.mem_of_getElem? ht
  exact (show Tryd.prog.wantsStandIn t = false by simpa using List.all_eq_true.1 hall t hm)

theorem card : Rows.CrcLinearCardSaid :=
  Claim7.holds_tied_plain_at .later [] _ _ _ _ said (fun _ h => by cases h) (by kernel_rfl) (fun _ h => by cases h) crcLinear_row_tie rfl ⟨rfl, rfl⟩ (by kernel_rfl) rfl plain (by kernel_rfl)
end Go.Proofs.YtnfefjlplipeiaaDoor.CrcLinear
namespace Go.Proofs.YtnfefjlplipeiaaDoor
theorem crcLinear_card : Rows.CrcLinearCardSaid := CrcLinear.card
#print axioms crcLinear_card
end Go.Proofs.YtnfefjlplipeiaaDoor
