/-
  The statement ScanResumes (second form: where what is read is of bulk at most 1048576). Condition: none beside the statement's own.
-/
import Derived.Test.YtihodcnnappkbaaGreatDoorCards
import Derived.Test.YtihodcnnappkbaaGreatDoorTie
import Derived.Test.YtihodcnnappkbaaGreatDoorG10
import Derived.Test.YtihodcnnappkbaaGreatDoorG29
import Derived.Test.YtihodcnnappkbaaGreatDoorG28
import Derived.Deep.CondSized
namespace Go.Proofs.YtihodcnnappkbaaGreatDoor.ScanResumesUpto
open Go.RowKit Go.ChangeShapes Go.WideShapes Go.ChangeAt
set_option maxRecDepth 100000 in
theorem contract (H:Type) (enc:TypeId×Value→H) (W:World) (base:Nat) (args:Array Value) (ds gs:List (DataW H)) (before:List MemPlace)
 (a0:∀ (j:Nat) t v,Tryz.f6.params[j]? = some t→args[j]? = some v→Value.okWide Tryz.prog W .any base t v)
 (hW:DataW.Whole enc Tryz.prog Tryz.f6.params.toList Rows.scanResumesSpec.vars false W args.toList ds gs before) (hL:laidMetH Tryz.prog Rows.scanResumesUptoRow.laid W) (hk:Rows.uptoSmall H (ds++gs)=true) :
 Calls Tryz.prog 6 args W fun e W'=>∃ v,e=.returned v∧Rows.scanResumesSpec.post enc Tryz.prog Tryz.f6 false true false false W args v W':=by
 have ah:=hW
 obtain ⟨p,q,aa,hV,rfl,am,ak⟩:=hW
 have hA:DataW.TrodAll enc Tryz.prog W 0 (fun _=>true) true Tryz.f6.params.toList args.toList ds p:=aa
 obtain ⟨rfl,rfl⟩:=trodVars_none hV
 rw [Tryz.params6] at hA a0
 obtain ⟨v0,vs0,d0,ds0,p0,q0,ab,rfl,rfl,h0,r0⟩:=trodAll_cons hA
 obtain ⟨v1,vs1,d1,ds1,p1,q1,rfl,rfl,rfl,h1,r1⟩:=trodAll_cons r0
 obtain ⟨v2,vs2,d2,ds2,p2,q2,rfl,rfl,rfl,h2,r2⟩:=trodAll_cons r1
 obtain ⟨v3,vs3,d3,ds3,p3,q3,rfl,rfl,rfl,h3,r3⟩:=trodAll_cons r2
 obtain ⟨rfl,rfl,rfl⟩:=trodAll_nil r3
 obtain rfl:args=#[v0,v1,v2,v3]:=by cases args;simp_all
 have a2:=of_decide_eq_true hk
 simp only [List.append_nil,Rows.uptoBulkAll] at a2
 obtain ⟨x0,y0,z0,A0,c0,l0,rfl,ai,ac,a7⟩:=open_index (N:=1048576) (a0 0 34 v0 rfl rfl) h0 (by omega)
 clear a2
 obtain ⟨a1,rfl,rfl,rfl,wf1⟩:=open_int Tryz.underlying3 (a0 1 3 v1 rfl rfl) h1
 have bd1:-9223372036854775808≤a1∧a1≤9223372036854775807:=by simpa [Lit.wf,IntKind.min,IntKind.max,IntKind.signed,IntKind.bits] using wf1
 have a2:=of_decide_eq_true hk
 simp only [List.append_nil,Rows.uptoBulkAll] at a2
 obtain ⟨n2,A2,c2,l2,rfl,af,a4,a8,a6⟩:=open_numbered (N:=1048576) (by omega) (a0 2 56 v2 rfl rfl) h2 (by omega)
 clear a2
 have a2:=of_decide_eq_true hk
 simp only [List.append_nil,Rows.uptoBulkAll] at a2
 obtain ⟨A3,c3,l3,rfl,ad,ag,aj⟩:=open_steps (N:=1048576) (by omega) (a0 3 22 v3 rfl rfl) h3 (by omega)
 clear a2
 clear aa
 have a3:=resumesL_calls A0 c0 x0 y0 z0 l0 a1 n2 A2 c2 l2 A3 c3 l3 W ai a7 ac af a8 (fun y hy=>by have:=a6 y hy;omega) a4 ag aj (tables hL).1 (tables hL).2
 refine a3.mono fun e W' ⟨he,hb⟩=>?_
 subst he
 exact ⟨_,rfl,post_law laidOut rfl (by kernel_rfl) Tryz.underlying4 (by kernel_rfl) ah rfl hb⟩
theorem laidL_is:Rows.scanResumesUptoRow.laid=laidL:=rfl
theorem laid_metR (os:Os):laidMet Tryz.prog Rows.scanResumesUptoRow.laid ((laidWorld os).forCall (fun _ _=>0) ⟨#[],#[.agg #[.int .i64 0,.int .i64 0,.int .i64 0,.slice none 0 0],.int .i64 0,.agg #[.int .i64 0,.slice none 0 0],.slice none 0 0],[]⟩).memory:=laid_met os _
theorem reads (os:Os) {H:Type} (enc:TypeId×Value→H):∃ places,DataW.whole enc Tryz.prog ((laidWorld os).forCall (fun _ _=>0) ⟨#[],#[.agg #[.int .i64 0,.int .i64 0,.int .i64 0,.slice none 0 0],.int .i64 0,.agg #[.int .i64 0,.slice none 0 0],.slice none 0 0],[]⟩).memory Tryz.f6.params.toList Rows.scanResumesSpec.vars false (#[.agg #[.int .i64 0,.int .i64 0,.int .i64 0,.slice none 0 0],.int .i64 0,.agg #[.int .i64 0,.slice none 0 0],.slice none 0 0]:Array Value).toList 8=some ([.agg [.lit (.int .i64 0),.lit (.int .i64 0),.lit (.int .i64 0),.nil],.lit (.int .i64 0),.agg [.lit (.int .i64 0),.agg [.nil]],.nil],[],places):=
 ⟨[],by kernel_rfl⟩
set_option maxRecDepth 100000 in
theorem lifted (os:Os) (started:os.Started) (H:Type) (enc:TypeId×Value→H) (F:Stop.Interp) :
 ReturnsInHanded {} Tryz.checked os 6 .any ((Rows.OpenSpec.upto Rows.scanResumesSpec).preRow enc Tryz.prog Tryz.f6 Rows.scanResumesUptoRow.domain false Rows.scanResumesUptoRow.laid) (((Rows.OpenSpec.upto Rows.scanResumesSpec).at F).post enc Tryz.prog Tryz.f6 false true false false):=by
 obtain ⟨places,hx⟩:=reads os enc
 refine returnsInHanded_of_row (C:=Tryz.checked) (s:=(Rows.OpenSpec.upto Rows.scanResumesSpec)) own started (by kernel_rfl) Tryz.func6
  (witness_row_at (enc:=enc) (C:=Tryz.checked) false (laidWorld os) #[.agg #[.int .i64 0,.int .i64 0,.int .i64 0,.slice none 0 0],.int .i64 0,.agg #[.int .i64 0,.slice none 0 0],.slice none 0 0] rfl (by kernel_rfl) (by kernel_rfl) (by kernel_rfl)
    (OpenSpec.preRow_of_cond 8 hx (by kernel_rfl) (fun k hk=>by cases hk;kernel_rfl) (by kernel_rfl) (laid_metR os))) ?_
 intro W base args ds gs before a0 hW _ a5 al hL _ _
 exact contract H enc W base args ds gs before a0 hW hL (a5 _ rfl)
theorem said:Rows.ScanResumesUptoSaid:=
 OpenClaim.holds_of_cond 6 Tryz.f6 rfl rfl rfl rfl rfl rfl rfl ⟨rfl,rfl,rfl,rfl,rfl⟩ rfl rfl rfl rfl rfl (by kernel_rfl) Tryz.func6 (by kernel_rfl)
  (of_decide_eq_true (by kernel_rfl)) (by unfold Func.isWrapper;first | (rw [if_pos (by decide +kernel)];kernel_rfl) | (rw [if_neg (by decide +kernel)];exact ⟨rfl,rfl⟩))
  (fun os started H enc _ F=>by rw [OpenClaim.pre_eq_preRow];exact lifted os started H enc F)
theorem plain (f:FuncId) (fn:Func) (hf:Tryz.pinned.checked.prog.funcNamed "gabion/gabionlaw14.ScanResumes" = some f) (ae:Tryz.pinned.checked.prog.funcs[f]? = some fn) :
 true=Tryz.pinned.checked.prog.looks []∧∀ (j:Nat) t,fn.params[j]? = some t→Tryz.pinned.checked.prog.wantsStandIn t=false:=by
 obtain rfl:f=6:=Option.some.inj ((show Tryz.prog.funcNamed "gabion/gabionlaw14.ScanResumes" = some 6 by kernel_rfl).symm.trans hf) |>.symm
 obtain rfl:fn=Tryz.f6:=(Option.some.inj (Tryz.func6.symm.trans ae)).symm
 refine ⟨by kernel_rfl,fun j t ht=>?_⟩
 rw [Tryz.params6] at ht
 have a9:([34,3,56,22].all fun u=>!Tryz.prog.wantsStandIn u)=true:=by kernel_rfl
 have hm:t∈[34,3,56,22]:=by simpa using Array.mem_of_getElem? ht
 exact (show Tryz.prog.wantsStandIn t=false by simpa using List.all_eq_true.1 a9 t hm)
theorem card:Rows.ScanResumesUptoCardSaid:=
 Claim7.holds_tied_plain_at .later [] _ _ _ _ said (fun _ h=>by cases h) (by kernel_rfl) (fun _ h=>by cases h) scanResumesUpto_row_tie rfl ⟨rfl,rfl⟩ (by kernel_rfl) rfl plain (by kernel_rfl)
end Go.Proofs.YtihodcnnappkbaaGreatDoor.ScanResumesUpto
namespace Go.Proofs.YtihodcnnappkbaaGreatDoor
theorem scanResumesUpto_card:Rows.ScanResumesUptoCardSaid:=ScanResumesUpto.card
#print axioms scanResumesUpto_card
end Go.Proofs.YtihodcnnappkbaaGreatDoor
