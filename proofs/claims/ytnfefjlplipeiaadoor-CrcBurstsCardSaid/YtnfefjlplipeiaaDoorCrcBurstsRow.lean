/-
  The statement CrcBursts. Condition: none beside the statement's own.
-/
import Derived.Test.YtnfefjlplipeiaaDoorCards
import Derived.Test.YtnfefjlplipeiaaDoorTie
import Derived.Test.YtnfefjlplipeiaaDoorRowKit
import Derived.Test.YtnfefjlplipeiaaDoorCrcLawD
import Derived.Lib.LaidTab
namespace Go.Proofs.YtnfefjlplipeiaaDoor.CrcBursts
open Go.RowKit Go.ChangeShapes Go.WideShapes Go.ChangeAt

theorem gTab : Tryd.prog.globalNamed "gabion/crc.halves" = some 0 := by kernel_rfl
theorem gTabType : (Tryd.prog.globals[0]?).map (·.type) = some 33 := by kernel_rfl
theorem cellsTab : Tryd.prog.cellsOf 33 = 16 := by kernel_rfl
theorem cellsElem : Tryd.prog.cellsOf 23 = 1 := by kernel_rfl
theorem table {W : World} (h : laidMetH Tryd.prog Rows.crcBurstsRow.laid W) : Table W := by
  have ht : Lib.TabIs Tryd.prog W "gabion/crc.halves" .u32 (Crc.tab.map fun n : Nat => (n : Int)) := Lib.tabIs_of_head (rest := []) gTab gTabType Tryd.underlying33 Tryd.underlying23 cellsElem cellsTab h
  intro i hi
  have := ht.cell gTab i (by simpa [Crc.tab] using hi)
  have e : ∀ j, (Crc.tab.map fun n : Nat => (n : Int)).getD j 0 = ((Crc.tab.getD j 0 : Nat) : Int) := by
    intro j
    simp only [List.getD_eq_getElem?_getD, List.getElem?_map]
    cases Crc.tab[j]? <;> rfl
  rw [this, e]

theorem cellsByte : Tryd.prog.cellsOf 5 = 1 := by kernel_rfl
theorem bytesByte : Tryd.prog.bytesOf 5 = 1 := by kernel_rfl

theorem contract (H : Type) (enc : TypeId × Value → H) (W : World) (base : Nat) (args : Array Value) (ds gs : List (DataW H)) (before : List MemPlace)
    (hval : ∀ (j : Nat) t v, Tryd.f8.params[j]? = some t → args[j]? = some v → Value.okWide Tryd.prog W .any base t v)
    (hW : DataW.Whole enc Tryd.prog Tryd.f8.params.toList Rows.crcBurstsSpec.vars false W args.toList ds gs before) (hsz : (DataW.weightsEach Tryd.prog (Tryd.f8.params.toList ++ (OpenSpec.ofChange Rows.crcBurstsSpec).bare.plain.varTypes Tryd.prog) (ds ++ gs)).all (· ≤ reachBytes) = true) (hL : laidMetH Tryd.prog Rows.crcBurstsRow.laid W) :
    Calls Tryd.prog 8 args W fun e W' => ∃ v, e = .returned v ∧ Rows.crcBurstsSpec.post enc Tryd.prog Tryd.f8 false true false false W args v W' := by
  have hW' := hW
  obtain ⟨p, q, hA0, hV, rfl, hfz, hnd⟩ := hW
  have hA : DataW.TrodAll enc Tryd.prog W 0 (fun _ => true) true Tryd.f8.params.toList args.toList ds p := hA0
  obtain ⟨rfl, rfl⟩ := trodVars_none hV
  rw [Tryd.params8] at hA hval hsz
  obtain ⟨v0, vs0, d0, ds0, p0, q0, hargs, rfl, rfl, h0, r0⟩ := trodAll_cons hA
  obtain ⟨v1, vs1, d1, ds1, p1, q1, rfl, rfl, rfl, h1, r1⟩ := trodAll_cons r0
  obtain ⟨v2, vs2, d2, ds2, p2, q2, rfl, rfl, rfl, h2, r2⟩ := trodAll_cons r1
  obtain ⟨rfl, rfl, rfl⟩ := trodAll_nil r2
  obtain rfl : args = #[v0, v1, v2] := by cases args; simp_all
  obtain ⟨A0, c0, l0, rfl, hr0, hlc0, hcm0, hd0⟩ := open_bytes Tryd.underlying25 Tryd.underlying5 cellsByte bytesByte (hval 0 25 v0 rfl rfl) h0 (j := 0) hsz rfl rfl
  obtain ⟨a1, rfl, rfl, rfl, wf1⟩ := open_int Tryd.underlying3 (hval 1 3 v1 rfl rfl) h1
  have bd1 : -9223372036854775808 ≤ a1 ∧ a1 ≤ 9223372036854775807 := by simpa [Lit.wf, IntKind.min, IntKind.max, IntKind.signed, IntKind.bits] using wf1
  obtain ⟨a2, rfl, rfl, rfl, wf2⟩ := open_int Tryd.underlying23 (hval 2 23 v2 rfl rfl) h2
  have bd2 : 0 ≤ a2 ∧ a2 ≤ 4294967295 := by simpa [Lit.wf, IntKind.min, IntKind.max, IntKind.signed, IntKind.bits] using wf2
  clear hA0
  obtain ⟨s, rfl⟩ := Int.eq_ofNat_of_zero_le bd2.1
  have hcalls := bursts_calls A0 c0 l0 a1 s W (by omega) hr0 (table hL)
  refine hcalls.mono fun e W' ⟨he, hb⟩ => ?_
  subst he
  exact ⟨_, rfl, post_law laidOut rfl (by kernel_rfl) Tryd.underlying4 (by kernel_rfl) hW' rfl hb⟩

noncomputable def laidWorld (os : Os) : World :=
  { World.holding Tryd.prog os ⟨#[], #[], []⟩ with heap := (World.holding Tryd.prog os ⟨#[], #[], []⟩).heap.modify 0 fun
      | .cells _ t frozen => .cells (Crc.tab.map fun n : Nat => Value.int .u32 (n : Int)).toArray t frozen
      | o => o }
theorem laid_met (os : Os) : laidMet Tryd.prog Rows.crcBurstsRow.laid ((laidWorld os).forCall (fun _ _ => 0) ⟨#[], #[.slice none 0 0, .int .i64 0, .int .u32 0], []⟩).memory :=
  laidMet_of_run' 8 (by kernel_rfl) (by kernel_rfl)
theorem reads (os : Os) {H : Type} (enc : TypeId × Value → H) : ∃ places, DataW.whole enc Tryd.prog ((laidWorld os).forCall (fun _ _ => 0) ⟨#[], #[.slice none 0 0, .int .i64 0, .int .u32 0], []⟩).memory Tryd.f8.params.toList Rows.crcBurstsSpec.vars false (#[.slice none 0 0, .int .i64 0, .int .u32 0] : Array Value).toList 8 = some ([.nil, .lit (.int .i64 0), .lit (.int .u32 0)], [], places) :=
  ⟨[], by kernel_rfl⟩

set_option maxRecDepth 100000 in
theorem lifted (os : Os) (started : os.Started) (H : Type) (enc : TypeId × Value → H) (F : Stop.Interp) :
    ReturnsInHanded {} Tryd.checked os 8 .any ((OpenSpec.ofChange Rows.crcBurstsSpec).preRow enc Tryd.prog Tryd.f8 Rows.crcBurstsRow.domain false Rows.crcBurstsRow.laid) (((OpenSpec.ofChange Rows.crcBurstsSpec).at F).post enc Tryd.prog Tryd.f8 false true false false) := by
  obtain ⟨places, hx⟩ := reads os enc
  refine returnsInHanded_of_row (C := Tryd.checked) (s := (OpenSpec.ofChange Rows.crcBurstsSpec)) own started (by kernel_rfl) Tryd.func8
    (witness_row_at (enc := enc) (C := Tryd.checked) false (laidWorld os) #[.slice none 0 0, .int .i64 0, .int .u32 0] rfl (by kernel_rfl) (by kernel_rfl) (by kernel_rfl)
      (OpenSpec.preRow_of_cond 8 hx (by kernel_rfl) (fun k hk => by cases hk) (by kernel_rfl) (laid_met os))) ?_
  intro W base args ds gs before hval hW _ hcond hsz hL _ _
  exact contract H enc W base args ds gs before hval hW hsz hL

theorem said : Rows.CrcBurstsSaid :=
  OpenClaim.holds_of_cond 8 Tryd.f8 rfl rfl rfl rfl rfl rfl rfl ⟨rfl, rfl, rfl, rfl, rfl⟩ rfl rfl rfl rfl rfl (by kernel_rfl) Tryd.func8 (by kernel_rfl)
    (of_decide_eq_true (by kernel_rfl)) (by unfold Func.isWrapper; first | (rw [if_pos (by decide +kernel)]; kernel_rfl) | (rw [if_neg (by decide +kernel)]; exact ⟨rfl, rfl⟩))
    (fun os started H enc _ F => by rw [OpenClaim.pre_eq_preRow]; exact lifted os started H enc F)

theorem plain (f : FuncId) (fn : Func) (hf : Tryd.pinned.checked.prog.funcNamed "gabion/gabionlaw02.CrcBursts" = some f) (hfn : Tryd.pinned.checked.prog.funcs[f]? = some fn) :
    false = Tryd.pinned.checked.prog.looks [] ∧ ∀ (j : Nat) t, fn.params[j]? = some t → Tryd.pinned.checked.prog.wantsStandIn t = false := by
  obtain rfl : f = 8 := Option.some.inj ((show Tryd.prog.funcNamed "gabion/gabionlaw02.CrcBursts" = some 8 by kernel_rfl).symm.trans hf) |>.symm
  obtain rfl : fn = Tryd.f8 := (Option.some.inj (Tryd.func8.symm.trans hfn)).symm
  refine ⟨by kernel_rfl, fun j t ht => ?_⟩
  rw [Tryd.params8] at ht
  have hall : ([25, 3, 23].all fun u => !Tryd.prog.wantsStandIn u) = true := by kernel_rfl
  have hm : t ∈ [25, 3, 23] := by simpa using Array.mem_of_getElem? ht
  exact (show Tryd.prog.wantsStandIn t = false by simpa using List.all_eq_true.1 hall t hm)

theorem card : Rows.CrcBurstsCardSaid :=
  Claim7.holds_tied_plain_at .later [] _ _ _ _ said (fun _ h => by cases h) (by kernel_rfl) (fun _ h => by cases h) crcBursts_row_tie rfl ⟨rfl, rfl⟩ (by kernel_rfl) rfl plain (by kernel_rfl)
end Go.Proofs.YtnfefjlplipeiaaDoor.CrcBursts
namespace Go.Proofs.YtnfefjlplipeiaaDoor
theorem crcBursts_card : Rows.CrcBurstsCardSaid := CrcBursts.card
#print axioms crcBursts_card
end Go.Proofs.YtnfefjlplipeiaaDoor
