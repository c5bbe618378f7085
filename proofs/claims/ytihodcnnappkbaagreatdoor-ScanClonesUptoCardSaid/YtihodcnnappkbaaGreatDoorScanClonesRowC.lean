/-
  The statement ScanClones (second form: where what is read is of bulk at most 1048576). Condition: none beside the statement's own.
-/
import Derived.Test.YtihodcnnappkbaaGreatDoorCards
import Derived.Test.YtihodcnnappkbaaGreatDoorTie
import Derived.Test.YtihodcnnappkbaaGreatDoorG10
import Derived.Test.YtihodcnnappkbaaGreatDoorG29
import Derived.Test.YtihodcnnappkbaaGreatDoorG28
import Derived.Deep.CondSized
namespace Go.Proofs.YtihodcnnappkbaaGreatDoor.ScanClonesUpto
open Go.RowKit Go.ChangeShapes Go.WideShapes Go.ChangeAt
set_option maxRecDepth 100000 in
theorem contract (H:Type) (enc:TypeId×Value→H) (W:World) (base:Nat) (args:Array Value) (ds gs:List (DataW H)) (before:List MemPlace)
 (a0:∀ (j:Nat) t v,Tryz.f5.params[j]? = some t→args[j]? = some v→Value.okWide Tryz.prog W .any base t v)
 (hW:DataW.Whole enc Tryz.prog Tryz.f5.params.toList Rows.scanClonesSpec.vars false W args.toList ds gs before) (hL:laidMetH Tryz.prog Rows.scanClonesUptoRow.laid W) (hk:Rows.uptoSmall H (ds++gs)=true) :
 Calls Tryz.prog 5 args W fun e W'=>∃ v,e=.returned v∧Rows.scanClonesSpec.post enc Tryz.prog Tryz.f5 false true false false W args v W':=by
 have ah:=hW
 obtain ⟨p,q,a5,hV,rfl,ai,aj⟩:=hW
 have hA:DataW.TrodAll enc Tryz.prog W 0 (fun _=>true) true Tryz.f5.params.toList args.toList ds p:=a5
 obtain ⟨rfl,rfl⟩:=trodVars_none hV
 rw [Tryz.params5] at hA a0
 obtain ⟨v0,vs0,d0,ds0,p0,q0,a6,rfl,rfl,h0,r0⟩:=trodAll_cons hA
 obtain ⟨v1,vs1,d1,ds1,p1,q1,rfl,rfl,rfl,h1,r1⟩:=trodAll_cons r0
 obtain ⟨v2,vs2,d2,ds2,p2,q2,rfl,rfl,rfl,h2,r2⟩:=trodAll_cons r1
 obtain ⟨rfl,rfl,rfl⟩:=trodAll_nil r2
 obtain rfl:args=#[v0,v1,v2]:=by cases args;simp_all
 have a1:=of_decide_eq_true hk
 simp only [List.append_nil,Rows.uptoBulkAll] at a1
 obtain ⟨A0,c0,l0,rfl,af,ab,a7⟩:=open_steps (N:=1048576) (by omega) (a0 0 22 v0 rfl rfl) h0 (by omega)
 clear a1
 have a1:=of_decide_eq_true hk
 simp only [List.append_nil,Rows.uptoBulkAll] at a1
 obtain ⟨A1,c1,l1,rfl,a8,ac,aa⟩:=open_steps (N:=1048576) (by omega) (a0 1 22 v1 rfl rfl) h1 (by omega)
 clear a1
 have a1:=of_decide_eq_true hk
 simp only [List.append_nil,Rows.uptoBulkAll] at a1
 obtain ⟨A2,c2,l2,rfl,ad,a9,ag⟩:=open_steps (N:=1048576) (by omega) (a0 2 22 v2 rfl rfl) h2 (by omega)
 clear a1
 clear a5
 have a2:=clonesL_calls A0 A1 A2 c0 c1 c2 l0 l1 l2 W ab ac a9 a7 aa ag (tables hL).1 (tables hL).2
 refine a2.mono fun e W' ⟨he,hb⟩=>?_
 subst he
 exact ⟨_,rfl,post_law laidOut rfl (by kernel_rfl) Tryz.underlying4 (by kernel_rfl) ah rfl hb⟩
theorem laidL_is:Rows.scanClonesUptoRow.laid=laidL:=rfl
theorem laid_metR (os:Os):laidMet Tryz.prog Rows.scanClonesUptoRow.laid ((laidWorld os).forCall (fun _ _=>0) ⟨#[],#[.slice none 0 0,.slice none 0 0,.slice none 0 0],[]⟩).memory:=laid_met os _
theorem reads (os:Os) {H:Type} (enc:TypeId×Value→H):∃ places,DataW.whole enc Tryz.prog ((laidWorld os).forCall (fun _ _=>0) ⟨#[],#[.slice none 0 0,.slice none 0 0,.slice none 0 0],[]⟩).memory Tryz.f5.params.toList Rows.scanClonesSpec.vars false (#[.slice none 0 0,.slice none 0 0,.slice none 0 0]:Array Value).toList 8=some ([.nil,.nil,.nil],[],places):=
 ⟨[],by kernel_rfl⟩
set_option maxRecDepth 100000 in
theorem lifted (os:Os) (started:os.Started) (H:Type) (enc:TypeId×Value→H) (F:Stop.Interp) :
 ReturnsInHanded {} Tryz.checked os 5 .any ((Rows.OpenSpec.upto Rows.scanClonesSpec).preRow enc Tryz.prog Tryz.f5 Rows.scanClonesUptoRow.domain false Rows.scanClonesUptoRow.laid) (((Rows.OpenSpec.upto Rows.scanClonesSpec).at F).post enc Tryz.prog Tryz.f5 false true false false):=by
 obtain ⟨places,hx⟩:=reads os enc
 refine returnsInHanded_of_row (C:=Tryz.checked) (s:=(Rows.OpenSpec.upto Rows.scanClonesSpec)) own started (by kernel_rfl) Tryz.func5
  (witness_row_at (enc:=enc) (C:=Tryz.checked) false (laidWorld os) #[.slice none 0 0,.slice none 0 0,.slice none 0 0] rfl (by kernel_rfl) (by kernel_rfl) (by kernel_rfl)
    (OpenSpec.preRow_of_cond 8 hx (by kernel_rfl) (fun k hk=>by cases hk;kernel_rfl) (by kernel_rfl) (laid_metR os))) ?_
 intro W base args ds gs before a0 hW _ a3 ak hL _ _
 exact contract H enc W base args ds gs before a0 hW hL (a3 _ rfl)
theorem said:Rows.ScanClonesUptoSaid:=
 OpenClaim.holds_of_cond 5 Tryz.f5 rfl rfl rfl rfl rfl rfl rfl ⟨rfl,rfl,rfl,rfl,rfl⟩ rfl rfl rfl rfl rfl (by kernel_rfl) Tryz.func5 (by kernel_rfl)
  (of_decide_eq_true (by kernel_rfl)) (by unfold Func.isWrapper;first | (rw [if_pos (by decide +kernel)];kernel_rfl) | (rw [if_neg (by decide +kernel)];exact ⟨rfl,rfl⟩))
  (fun os started H enc _ F=>by rw [OpenClaim.pre_eq_preRow];exact lifted os started H enc F)
theorem plain (f:FuncId) (fn:Func) (hf:Tryz.pinned.checked.prog.funcNamed "gabion/gabionlaw14.ScanClones" = some f) (ae:Tryz.pinned.checked.prog.funcs[f]? = some fn) :
 true=Tryz.pinned.checked.prog.looks []∧∀ (j:Nat) t,fn.params[j]? = some t→Tryz.pinned.checked.prog.wantsStandIn t=false:=by
 obtain rfl:f=5:=Option.some.inj ((show Tryz.prog.funcNamed "gabion/gabionlaw14.ScanClones" = some 5 by kernel_rfl).symm.trans hf) |>.symm
 obtain rfl:fn=Tryz.f5:=(Option.some.inj (Tryz.func5.symm.trans ae)).symm
 refine ⟨by kernel_rfl,fun j t ht=>?_⟩
 rw [Tryz.params5] at ht
 have a4:([22,22,22].all fun u=>!Tryz.prog.wantsStandIn u)=true:=by kernel_rfl
 have hm:t∈[22,22,22]:=by simpa using Array.mem_of_getElem? ht
 exact (show Tryz.prog.wantsStandIn t=false by simpa using List.all_eq_true.1 a4 t hm)
theorem card:Rows.ScanClonesUptoCardSaid:=
 Claim7.holds_tied_plain_at .later [] _ _ _ _ said (fun _ h=>by cases h) (by kernel_rfl) (fun _ h=>by cases h) scanClonesUpto_row_tie rfl ⟨rfl,rfl⟩ (by kernel_rfl) rfl plain (by kernel_rfl)
end Go.Proofs.YtihodcnnappkbaaGreatDoor.ScanClonesUpto
namespace Go.Proofs.YtihodcnnappkbaaGreatDoor
theorem scanClonesUpto_card:Rows.ScanClonesUptoCardSaid:=ScanClonesUpto.card
#print axioms scanClonesUpto_card
end Go.Proofs.YtihodcnnappkbaaGreatDoor
