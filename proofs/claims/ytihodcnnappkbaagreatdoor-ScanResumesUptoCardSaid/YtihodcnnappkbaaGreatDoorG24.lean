/-
  Sameness of schemas is transitive: plain. No condition. The walk of the reference's SameEntries. Condition: both rows read. A region that draws its order, with loads of a cell that its last operation writes: the loads may be taken first all the same, since the last operation waits for them. No condition. The reference's walk over frames in memory: lists of frames with their places. No condition. The walks of Frames and Rows of the reference's walk. Condition: it stands for its lists. The walk of schemas of the reference's walk. Condition: it stands for its lists. The walk of Place of the reference's walk. Condition: it stands for its lists. The walks of Since and New of the reference's walk. Condition: it stands for its lists. The walk of Closed of the reference's walk. Condition: it stands for its lists. The walk of Number of the reference's walk. Condition: it stands for its lists. The walk of Schema of the reference's walk. Condition: it stands for its lists. The walk of the reference's follows at a schema frame. Condition: the walk stands for its lists; the frame reads. The walk of Entries of the reference's walk. Condition: it stands for its lists.
-/
import Derived.Test.YtihodcnnappkbaaGreatDoorG11
import Derived.Test.YtihodcnnappkbaaGreatDoorG8
import Derived.Deep.RegionHeld
import Derived.Test.YtihodcnnappkbaaGreatDoorG14
import Derived.Test.YtihodcnnappkbaaGreatDoorG10
import Derived.BigRegion
set_option linter.unusedVariables false
set_option linter.unusedSimpArgs false
set_option maxHeartbeats 8000000
set_option maxRecDepth 20000
namespace Go.Proofs.YtihodcnnappkbaaGreatDoor
mutual
theorem Va.same_trans:∀ (a b c:Va),Va.same a b=true→Va.same b c=true→Va.same a c=true
 | .mk k i f t l,.mk k1 i1 f1 t1 l1,.mk k2 i2 f2 t2 l2,h,h2=>by
   simp only [Va.same,Bool.and_eq_true,decide_eq_true_eq] at h h2 ⊢
   exact ⟨⟨⟨⟨h.1.1.1.1.trans h2.1.1.1.1,h.1.1.1.2.trans h2.1.1.1.2⟩,h.1.1.2.trans h2.1.1.2⟩,h.1.2.trans h2.1.2⟩,Va.sames_trans l l1 l2 h.2 h2.2⟩
theorem Va.sames_trans:∀ (a b c:List Va),Va.sames a b=true→Va.sames b c=true→Va.sames a c=true
 | [],[],[],_,_=>rfl
 | [],[],_ :: _,_,h=>by simp [Va.sames] at h
 | [],_ :: _,_,h,_=>by simp [Va.sames] at h
 | _ :: _,[],_,h,_=>by simp [Va.sames] at h
 | _ :: _,_ :: _,[],_,h=>by simp [Va.sames] at h
 | a :: l,b :: m,c :: n,h,h2=>by
   simp only [Va.sames,Bool.and_eq_true] at h h2 ⊢
   exact ⟨Va.same_trans a b c h.1 h2.1,Va.sames_trans l m n h.2 h2.2⟩
end
mutual
theorem Ty.same_trans:∀ (a b c:Ty),Ty.same a b=true→Ty.same b c=true→Ty.same a c=true
 | .mk k l,.mk k1 l1,.mk k2 l2,h,h2=>by
   simp only [Ty.same,Bool.and_eq_true,decide_eq_true_eq] at h h2 ⊢
   exact ⟨h.1.trans h2.1,Ty.sames_trans l l1 l2 h.2 h2.2⟩
theorem Ty.sames_trans:∀ (a b c:List Ty),Ty.sames a b=true→Ty.sames b c=true→Ty.sames a c=true
 | [],[],[],_,_=>rfl
 | [],[],_ :: _,_,h=>by simp [Ty.sames] at h
 | [],_ :: _,_,h,_=>by simp [Ty.sames] at h
 | _ :: _,[],_,h,_=>by simp [Ty.sames] at h
 | _ :: _,_ :: _,[],_,h=>by simp [Ty.sames] at h
 | a :: l,b :: m,c :: n,h,h2=>by
   simp only [Ty.sames,Bool.and_eq_true] at h h2 ⊢
   exact ⟨Ty.same_trans a b c h.1 h2.1,Ty.sames_trans l m n h.2 h2.2⟩
end
theorem Col.same_trans {a b c:Col} (h:Col.same a b=true) (h2:Col.same b c=true):Col.same a c=true:=by
 simp only [Col.same,Bool.and_eq_true,decide_eq_true_eq] at h h2 ⊢
 exact ⟨⟨⟨h.1.1.1.trans h2.1.1.1,h.1.1.2.trans h2.1.1.2⟩,Ty.same_trans _ _ _ h.1.2 h2.1.2⟩,Va.same_trans _ _ _ h.2 h2.2⟩
theorem sameCols_trans:∀ {a b c:List Col},sameCols a b=true→sameCols b c=true→sameCols a c=true
 | [],[],[],_,_=>rfl
 | [],[],_ :: _,_,h=>by simp [sameCols] at h
 | [],_ :: _,_,h,_=>by simp [sameCols] at h
 | _ :: _,[],_,h,_=>by simp [sameCols] at h
 | _ :: _,_ :: _,[],_,h=>by simp [sameCols] at h
 | a :: l,b :: m,c :: n,h,h2=>by
   simp only [sameCols,Bool.and_eq_true] at h h2 ⊢
   exact ⟨Col.same_trans h.1 h2.1,sameCols_trans h.2 h2.2⟩
theorem sameCols_cong {a b c:List Col} (h:sameCols a b=true):sameCols a c=sameCols b c:=by
 rw [Bool.eq_iff_iff]
 exact ⟨fun h2=>sameCols_trans (by rw [sameCols_comm];exact h) h2,fun h2=>sameCols_trans h h2⟩
section
open Go.RowKit Go.BigFrame
theorem sameEntries_calls (A B:Option Addr) (c d:Nat) (l m:List Ent) (w:World) (hl:l.length≤17179869184) (hm:m.length≤17179869184) (hr:RowAt w A (entCells l)) (hs:RowAt w B (entCells m)) :
 Calls Tryz.prog 33 #[.slice A l.length c,.slice B m.length d] w fun e w'=>e=.returned (.bool (decide (l=m)))∧Keeps w w':=by
 by_cases ap:l.length=m.length
 · obtain ⟨R,hR⟩:∃ R,R=decide (l=m):=⟨_,rfl⟩
   rw [← hR]
   have h0:R=decide (l.drop 0=m.drop 0):=by simpa using hR
   rw [← ap]
   have HR:=Hi hr
   have HS:=Hi hs
   have H0:=Hi h0
   clear hr hs hR h0 hm
   generalize hN:l.length=N at hl ap ⊢
   have HN:=Hi hN
   have HM:=Hi ap
   clear hN ap
   have cw:Tryz.prog.eqGuardType Tryz.prog.depth 78=false:=by kernel_rfl
   go_enter Tryz.func33,Tryz.ntmps33
   go_wp2_with fail
   go_loopw [13] (fun i wr=>∃ j:Nat,j≤N∧i=.int .i64 (j:Int)∧R=decide (l.drop j=m.drop j)∧Keeps w wr) (fun i _=>N-(intOf i).toNat)
   case atStart=>exact ⟨0,by omega,rfl,H0.out,Keeps.refl w⟩
   case round=>
    obtain ⟨j,hj,rfl,a0,a4⟩:=hrel
    by_cases aa:j<N
    · have a5:j<l.length:=by rw [HN.out];exact aa
      have bm:j<m.length:=by rw [← HM.out];exact aa
      obtain ⟨a1,rfl,p0,p1,p2⟩:=row_ent (HR.out.below a4.below) j a5
      obtain ⟨a2,rfl,q0,q1,q2⟩:=row_ent (HS.out.below a4.below) j bm
      rw [List.drop_eq_getElem_cons a5,List.drop_eq_getElem_cons bm] at a0
      generalize l[j]'a5=x at p0 p1 p2 a0
      generalize m[j]'bm=y at q0 q1 q2 a0
      obtain ⟨x1,x2,x3⟩:=x
      obtain ⟨y1,y2,y3⟩:=y
      simp only at p0 p1 p2 q0 q1 q2
      have a3:=Hi a0
      have HK:=Hi a4
      clear a0 a4 H0
      by_cases aY:(⟨x1,x2,x3⟩:Ent)=⟨y1,y2,y3⟩
      · injection aY with h1 h2 h3
        subst h1 h2 h3
        have a0:=a3.out
        have e9:decide ((⟨x1,x2,x3⟩:Ent) :: l.drop (j+1)=⟨x1,x2,x3⟩ :: m.drop (j+1))=decide (l.drop (j+1)=m.drop (j+1)):=by simp
        rw [e9] at a0
        have aV:=Hi a0
        clear a0 e9 a3
        go_wp2_with fail
        go_quiet (fail)
        go_wp2
        first
         | exact ⟨⟨j+1,by omega,by go_num,aV.out,HK.out.trans (Keeps.drewN wr nq)⟩,by simp [intOf];omega⟩
         | (go_roundw
            case rel=>exact ⟨j+1,by omega,by go_num,aV.out,HK.out.trans (Keeps.drewN wr nq)⟩
            case measure=>simp [intOf];omega)
      · have a0:=a3.out
        have e9:decide ((⟨x1,x2,x3⟩:Ent) :: l.drop (j+1)=⟨y1,y2,y3⟩ :: m.drop (j+1))=false:=by
         rw [decide_eq_false_iff_not]
         intro h
         injection h with h _
         exact aY h
        rw [e9] at a0
        have aV:=Hi a0
        clear a0 e9 a3
        by_cases h1:x1=y1
        · by_cases h2:x2=y2
          · have h3:¬x3=y3:=fun h3=>aY (by rw [h1,h2,h3])
            subst h1 h2
            clear aY
            go_wp2_with fail
            go_quiet (fail)
            go_wp2
            go_ret
            exact ⟨by rw [aV.out];rfl,HK.out.trans (Keeps.drewN wr nq)⟩
          · subst h1
            clear aY
            go_wp2_with fail
            go_quiet (fail)
            go_wp2
            go_ret
            exact ⟨by rw [aV.out];rfl,HK.out.trans (Keeps.drewN wr nq)⟩
        · clear aY
          go_wp2_with fail
          go_quiet (fail)
          go_wp2
          go_ret
          exact ⟨by rw [aV.out];rfl,HK.out.trans (Keeps.drewN wr nq)⟩
    · have e1:l.drop j=[]:=List.drop_eq_nil_of_le (by rw [HN.out];omega)
      have e2:m.drop j=[]:=List.drop_eq_nil_of_le (by rw [← HM.out];omega)
      rw [e1,e2] at a0
      have a3:=Hi a0
      clear a0 e1 e2 H0
      go_wp2
      go_ret
      exact ⟨by rw [a3.out];rfl,a4⟩
 · have e:decide (l=m)=false:=by
    rw [decide_eq_false_iff_not]
    intro h
    exact ap (by rw [h])
   rw [e]
   clear e hr hs
   have hq:¬((l.length:Nat):Int)=((m.length:Nat):Int):=by omega
   generalize l.length=N at *
   generalize m.length=M at *
   go_enter Tryz.func33,Tryz.ntmps33
   go_wp2
   go_ret
   exact ⟨rfl,Keeps.refl w⟩
end
section
open Go
section
variable {P:Program} {ops:Array Oper} {Q:Exit→Act→World→Prop} {md:Region.Mode} {S:World→Prop} {z:Nat}
def waitsB (md:Region.Mode) (ops:Array Oper):Nat→Nat→Nat→Bool
 | 0,_,_=>false
 | n+1,k,i=>match ops[k]? with
   | none=>false
   | some o=>o.after.any fun e=>Region.binds md e&&(e.on==i||waitsB md ops n e.on i)
def closedB (md:Region.Mode) (ops:Array Oper) (listed:Array Bool):Bool:=
 (List.range ops.size).all fun k=>match ops[k]? with
   | none=>true
   | some o=>!listed.getD k false||o.after.all fun e=>!Region.binds md e||listed.getD e.on false
def Closed (md:Region.Mode) (ops:Array Oper) (listed:Array Bool):Prop:=
 ∀ k o,ops[k]? = some o→listed.getD k false=true→∀ e∈o.after,Region.binds md e=true→listed.getD e.on false=true
theorem closedB_spec {listed:Array Bool} (h:closedB md ops listed=true):Closed md ops listed:=fun k o ho hk e he hb=>by
 have aa:k<ops.size:=(Array.getElem?_eq_some_iff.1 ho).1
 have h1:=List.all_eq_true.1 h k (List.mem_range.2 aa)
 rw [ho] at h1
 simp only [hk,Bool.not_true,Bool.false_or] at h1
 obtain ⟨q,hq,ce⟩:=Array.mem_iff_getElem.1 he
 have h2:=Array.all_eq_true.1 h1 q hq
 rw [ce] at h2
 simpa [hb] using h2
theorem Closed.set {listed:Array Bool} (h:Closed md ops listed) {j:Nat} (hj:j∈Region.ready md ops listed):Closed md ops (listed.setIfInBounds j true):=fun k o ho hk e he hb=>by
 by_cases b8:j=k
 · subst b8
   obtain ⟨_,o',ay,ae⟩:=mem_ready.1 hj
   rw [ho] at ay
   cases ay
   exact getD_set_true (ae e he hb)
 · rw [getD_set_ne false b8] at hk
   exact getD_set_true (h k o ho hk e he hb)
theorem waits_listed {listed:Array Bool} (h:Closed md ops listed) {i:Nat}:∀ (n k:Nat),waitsB md ops n k i=true→(∀ o,ops[k]? = some o→∀ e∈o.after,Region.binds md e=true→listed.getD e.on false=true)→listed.getD i false=true
 | 0,k,hw,_=>by cases hw
 | n+1,k,hw,hk=>by
   unfold waitsB at hw
   cases ho:ops[k]? with
   | none=>rw [ho] at hw;cases hw
   | some o=>
     rw [ho] at hw
     obtain ⟨q,hq,h1⟩:=Array.any_eq_true.1 hw
     have he:o.after[q]∈o.after:=Array.getElem_mem hq
     generalize o.after[q]=e at *
     simp only [Bool.and_eq_true,Bool.or_eq_true,beq_iff_eq] at h1
     obtain ⟨hb,h2⟩:=h1
     have h3:=hk o ho e he hb
     rcases h2 with h2 | h2
     · rw [← h2];exact h3
     · exact waits_listed h n e.on h2 fun o' ay e' c5 cq=>h e.on o' ay h3 e' c5 cq
def wpAnyZ (P:Program) (md:Region.Mode) (ops:Array Oper) (Q:Exit→Act→World→Prop) (S:World→Prop) (z:Nat):Nat→Array Bool→Act→World→Prop
 | 0,listed,a,w=>Region.ready md ops listed=[]∧Q .normal a w
 | fuel+1,listed,a,w=>
   (Region.ready md ops listed=[]→Q .normal a w) ∧
   ∀ i∈Region.ready md ops listed,wpOp P ops Q i (fun a' w'=>(i≠z→S w')∧wpAnyZ P md ops Q S z fuel (listed.setIfInBounds i true) a' w') a w
theorem wpAny_of_heldZ:∀ (fuel:Nat) (listed:Array Bool) (a:Act) (w:World),wpAnyZ P md ops Q S z fuel listed a w→wpAny P md ops Q fuel listed a w
 | 0,_,_,_,h=>h
 | fuel+1,_,_,_,h=>⟨h.1,fun i hi=>wpOp_mono (fun a' w' h'=>wpAny_of_heldZ fuel _ a' w' h'.2) (h.2 i hi)⟩
theorem wpAnyZ_first {i:Nat} {oi:Oper} {v:Value} (hi:ops[i]? = some oi) (b2:∀ (j:Nat) (o:Oper) cs b,ops[j]? = some o→o.op≠.select cs b)
 (hQ:∀ c a w,Q (.panic c) (a.put oi.dst v) w→Q (.panic c) a w) (n:Nat) (hw:waitsB md ops n z i=true) :
 ∀ (fuel:Nat) (listed:Array Bool) (a:Act) (w:World),Closed md ops listed →
   (∀ j oj,ops[j]? = some oj→j≠i→listed.getD j true=false→(∀ e∈oj.after,Region.binds md e=true→e.on≠i)→oi.apart ops oj=true) →
   i∈Region.ready md ops listed→YieldsIf P ops S oi v a→S w →
   wpAnyZ P md ops Q S z fuel (listed.setIfInBounds i true) (a.put oi.dst v) w→wpAnyZ P md ops Q S z (fuel+1) listed a w:=by
 intro fuel
 have bj:∀ listed:Array Bool,Closed md ops listed→i∈Region.ready md ops listed→z∈Region.ready md ops listed→False:=fun listed hc hr hz=>by
  obtain ⟨_,o,ho,ae⟩:=mem_ready.1 hz
  have h1:=waits_listed hc _ _ hw fun o' ay e he hb=>by rw [ho] at ay;cases ay;exact ae e he hb
  have h0:=(mem_ready.1 hr).1
  rcases Nat.lt_or_ge i listed.size with h' | h'
  · simp [h'] at h0 h1;rw [h0] at h1;cases h1
  · simp [Array.getElem?_eq_none h'] at h1
 induction fuel with
 | zero=>
   intro listed a w hc _ hr hy hS H
   refine ⟨fun h=>(by rw [h] at hr;cases hr),fun j hj=>?_⟩
   by_cases aD:j=i
   · subst aD;exact hy.wpOp hi hS ⟨fun _=>hS,H⟩
   · have:=ready_mono hj aD
     rw [H.1] at this
     cases this
 | succ fuel ih=>
   intro listed a w hc aF hr hy hS H
   refine ⟨fun h=>(by rw [h] at hr;cases hr),fun j hj=>?_⟩
   by_cases aD:j=i
   · subst aD;exact hy.wpOp hi hS ⟨fun _=>hS,H⟩
   · have cl:j≠z:=fun e=>bj listed hc hr (e▸hj)
     have h1:=H.2 j (ready_mono hj aD)
     obtain ⟨b6,oj,bn,ae⟩:=mem_ready.1 hj
     have bv:∀ e∈oj.after,Region.binds md e=true→e.on≠i:=fun e he hb heq=>by
      have h1:=ae e he hb
      have h0:=(mem_ready.1 hr).1
      rw [heq] at h1
      rcases Nat.lt_or_ge i listed.size with h' | h'
      · simp [h'] at h0 h1;rw [h0] at h1;cases h1
      · simp [Array.getElem?_eq_none h'] at h1
     have h2:=wpOp_putIf bn (aF j oj bn aD b6 bv) (fun cs b=>b2 i oi cs b hi) (fun cs b=>b2 j oj cs b bn) hQ hy h1
     have aM:∀ k ok,ops[k]? = some ok→k≠i→(listed.setIfInBounds j true).getD k true=false →
      (∀ e∈ok.after,Region.binds md e=true→e.on≠i)→oi.apart ops ok=true:=fun k ok hk ci bj c9=>by
      refine aF k ok hk ci ?_ c9
      by_cases b8:j=k
      · subst b8;exact b6
      · rw [getD_set_ne true b8] at bj;exact bj
     refine wpOp_mono (fun a' w' h3=>⟨h3.2.1,ih (listed.setIfInBounds j true) a' w' (hc.set hj) aM (ready_mono hr (Ne.symm aD)) h3.1 (h3.2.1 cl) ?_⟩) h2
     rw [Array.setIfInBounds_comm _ _ aD]
     exact h3.2.2
theorem toList_op {i:Nat} {o:Oper} (h:ops.toList[i]? = some o):ops[i]? = some o:=by rw [← Array.getElem?_toList];exact h
theorem wpAnyZ_take (i n:Nat) {oi:Oper} {v:Value} {fuel:Nat} {listed:Array Bool} {a:Act} {w:World} (hi:ops.toList[i]? = some oi)
 (hs:Region.noSelect ops=true) (hf:Region.free md ops listed i=true) (hr:(Region.ready md ops listed).contains i=true)
 (hQ:∀ c a w,Q (.panic c) (a.put oi.dst v) w→Q (.panic c) a w) (hw:waitsB md ops n z i=true) (hc:closedB md ops listed=true) (hy:YieldsIf P ops S oi v a) (hS:S w)
 (h:wpAnyZ P md ops Q S z fuel (listed.setIfInBounds i true) (a.put oi.dst v) w):wpAnyZ P md ops Q S z (fuel+1) listed a w:=
 wpAnyZ_first (toList_op hi) (Region.noSelect_spec hs) hQ n hw fuel listed a w (closedB_spec hc) (Region.free_spec (toList_op hi) hf) (by simpa using hr) hy hS h
theorem wpAnyZ_next (i:Nat) {o:Oper} {fuel:Nat} {listed:Array Bool} {a:Act} {w:World} (hr:Region.ready md ops listed=[i]) (ho:ops.toList[i]? = some o)
 (h:∀ K':Act→World→Prop,Shut (∀ a w,S w→(S w→wpAnyZ P md ops Q S z fuel (listed.setIfInBounds i true) a w)→K' a w)→if Region.wanted o (yielded ops a.tmps)=true then Oper.wp P o a w K' Q else K' (a.put o.dst undef) w) :
 wpAnyZ P md ops Q S z (fuel+1) listed a w:=
 ⟨fun h0=>(by rw [hr] at h0;cases h0),fun j hj=>by
  rw [hr] at hj
  obtain rfl:=List.mem_singleton.1 hj
  exact wpOp_step (toList_op ho) fun K' hK=>h K' fun a w hS hW=>hK a w ⟨fun _=>hS,hW hS⟩⟩
theorem wpAnyZ_last {o:Oper} {fuel:Nat} {listed:Array Bool} {a:Act} {w:World} (hr:Region.ready md ops listed=[z]) (bK:Region.ready md ops (listed.setIfInBounds z true)=[]) (ho:ops.toList[z]? = some o)
 (h:∀ K':Act→World→Prop,Shut (∀ a w,Q .normal a w→K' a w)→if Region.wanted o (yielded ops a.tmps)=true then Oper.wp P o a w K' Q else K' (a.put o.dst undef) w) :
 wpAnyZ P md ops Q S z (fuel+1) listed a w:=
 ⟨fun h0=>(by rw [hr] at h0;cases h0),fun j hj=>by
  rw [hr] at hj
  obtain rfl:=List.mem_singleton.1 hj
  refine wpOp_step (toList_op ho) fun K' hK=>h K' fun a w hN=>hK a w ⟨fun h=>absurd rfl h, ?_⟩
  cases fuel with
  | zero=>exact ⟨bK,hN⟩
  | succ n=>exact ⟨fun _=>hN,by rw [bK];simp⟩⟩
theorem takeH (i:Nat) {oi:Oper} {v:Value} {fuel:Nat} {listed:Array Bool} {a:Act} {w:World} (hi:ops.toList[i]? = some oi)
 (hs:Region.noSelect ops=true) (hf:Region.free md ops listed i=true) (hr:(Region.ready md ops listed).contains i=true)
 (hQ:∀ c a w,Q (.panic c) (a.put oi.dst v) w→Q (.panic c) a w) (hy:YieldsIf P ops S oi v a) (hS:S w)
 (h:wpAnyH P md ops Q S fuel (listed.setIfInBounds i true) (a.put oi.dst v) w):wpAnyH P md ops Q S (fuel+1) listed a w:=
 wpAnyH_take (toList_op hi) hs hf hr hQ hy hS h
theorem nextH (i:Nat) {o:Oper} {fuel:Nat} {listed:Array Bool} {a:Act} {w:World} (hr:Region.ready md ops listed=[i]) (ho:ops.toList[i]? = some o)
 (h:∀ K':Act→World→Prop,Shut (∀ a w,S w→(S w→wpAnyH P md ops Q S fuel (listed.setIfInBounds i true) a w)→K' a w)→if Region.wanted o (yielded ops a.tmps)=true then Oper.wp P o a w K' Q else K' (a.put o.dst undef) w) :
 wpAnyH P md ops Q S (fuel+1) listed a w:=
 wpAnyH_ready hr (by simp) (AllReadyH.cons (toList_op ho) h AllReadyH.nil)
theorem next2H (i j:Nat) {o o':Oper} {fuel:Nat} {listed:Array Bool} {a:Act} {w:World} (hr:Region.ready md ops listed=[i,j]) (ho:ops.toList[i]? = some o) (ay:ops.toList[j]? = some o')
 (h:∀ K':Act→World→Prop,Shut (∀ a w,S w→(S w→wpAnyH P md ops Q S fuel (listed.setIfInBounds i true) a w)→K' a w)→if Region.wanted o (yielded ops a.tmps)=true then Oper.wp P o a w K' Q else K' (a.put o.dst undef) w)
 (h':∀ K':Act→World→Prop,Shut (∀ a w,S w→(S w→wpAnyH P md ops Q S fuel (listed.setIfInBounds j true) a w)→K' a w)→if Region.wanted o' (yielded ops a.tmps)=true then Oper.wp P o' a w K' Q else K' (a.put o'.dst undef) w) :
 wpAnyH P md ops Q S (fuel+1) listed a w:=
 wpAnyH_ready hr (by simp) (AllReadyH.cons (toList_op ho) h (AllReadyH.cons (toList_op ay) h' AllReadyH.nil))
theorem wp_region_heldZ (z:Nat) {id:Nat} {a:Act} {w:World} (hm:P.follows .mixedOrders=true) (hS:S w.drew)
 (h:S w.drew→wpAnyZ P .any ops Q S z ops.size (Array.replicate ops.size false) a w.drew):(Code.region id ops true).wp P Q a w:=
 wp_region_any hm (wpAny_of_heldZ _ _ _ _ (h hS))
end
end
section
open Go.RowKit Go.BigFrame
structure Rk where
 L:List (Fr×Int)
 f0:Int
 r0:Int
 E0:List Ent
 S0:List (Fr×Int)
def plCells (A:Option Addr) (c:Nat) (B:Option Addr) (d:Nat) (E:Option Addr) (m:Nat) (p:Fr×Int):List Value:=
 [.int .i64 p.1.kind,.int .i64 p.1.number,.slice A p.1.cols.length c,.int .i64 p.1.seq,.int .i64 p.1.first,.int .i64 p.1.rows,.slice B p.1.block.length d,.int .i64 p.1.spot,.int .i64 p.1.frames,.int .i64 p.1.irows,.slice E p.1.ents.length m,.int .i64 p.2]
def PlR (w:World) (S:Nat→Prop) (cs:List Value) (p:Fr×Int):Prop:=∃ A c B d E m,cs=plCells A c B d E m p∧FrS w S A B E p.1
theorem PlR.length {w:World} {S:Nat→Prop} {cs:List Value} {p:Fr×Int} (h:PlR w S cs p):cs.length=12:=by
 obtain ⟨A,c,B,d,E,m,rfl,_⟩:=h
 rfl
theorem PlR.mono {w:World} {S T:Nat→Prop} {cs:List Value} {p:Fr×Int} (h:PlR w S cs p) (hS:∀ k,k<w.heap.size→S k→T k):PlR w T cs p:=by
 obtain ⟨A,c,B,d,E,m,h1,h2⟩:=h
 exact ⟨A,c,B,d,E,m,h1,h2.mono hS⟩
theorem PlR.touch {F S:Nat→Prop} {w w':World} {cs:List Value} {p:Fr×Int} (h:PlR w S cs p) (ht:Touch F w w') (hF:∀ k,S k→¬F k):PlR w' S cs p:=by
 obtain ⟨A,c,B,d,E,m,h1,h2⟩:=h
 exact ⟨A,c,B,d,E,m,h1,h2.touch ht hF⟩
structure Places (w:World) (S:Nat→Prop) (A:Option Addr) (l:List (Fr×Int)):Prop where
 ex:∃ rows:List (List Value),rows.length=l.length∧(∀ (i:Nat) (cs:List Value) (p:Fr×Int),rows[i]? = some cs→l[i]? = some p→PlR w S cs p)∧RowAt w A rows.flatten
 blk:∀ a,A=some a→l≠[]→S a.block
theorem rows_get:∀ {rows:List (List Value)} {n:Nat},(∀ cs∈rows,cs.length=n)→∀ {i r:Nat} {cs:List Value},rows[i]? = some cs→r<n→rows.flatten[n*i+r]? = cs[r]?
 | [],n,h,i,r,cs,hi,hr=>by simp at hi
 | x :: rows,n,h,0,r,cs,hi,hr=>by
   simp only [List.getElem?_cons_zero,Option.some.injEq] at hi
   subst hi
   have hx:=h x (List.mem_cons_self ..)
   rw [List.flatten_cons,Nat.mul_zero,Nat.zero_add,List.getElem?_append_left (by omega)]
 | x :: rows,n,h,i+1,r,cs,hi,hr=>by
   have hx:=h x (List.mem_cons_self ..)
   rw [List.flatten_cons,List.getElem?_append_right (by rw [hx,Nat.mul_add];omega),hx,show n*(i+1)+r-n=n*i+r by rw [Nat.mul_add];omega]
   exact rows_get (fun cs hc=>h cs (List.mem_cons_of_mem _ hc)) (by simpa using hi) hr
theorem Places.all {w:World} {S:Nat→Prop} {l:List (Fr×Int)} {rows:List (List Value)} (hl:rows.length=l.length) (h:∀ (i:Nat) (cs:List Value) (p:Fr×Int),rows[i]? = some cs→l[i]? = some p→PlR w S cs p):∀ cs∈rows,cs.length=12:=fun cs hc=>by
 obtain ⟨i,hi,rfl⟩:=List.getElem_of_mem hc
 exact (h i _ (l[i]'(by omega)) (List.getElem?_eq_getElem hi) (List.getElem?_eq_getElem (by omega))).length
theorem Places.mono {w:World} {S T:Nat→Prop} {A:Option Addr} {l:List (Fr×Int)} (h:Places w S A l) (hS:∀ k,k<w.heap.size→S k→T k):Places w T A l:=by
 obtain ⟨⟨rows,h1,h2,h3⟩,h4⟩:=h
 refine ⟨⟨rows,h1,fun i cs p hi hp=>(h2 i cs p hi hp).mono hS,h3⟩,fun a e hn=>?_⟩
 have hp:0<l.length:=List.length_pos_iff.2 hn
 obtain ⟨cs,a9⟩:∃ cs,rows[0]? = some cs:=⟨_,List.getElem?_eq_getElem (by omega)⟩
 have hr:=h2 0 cs (l[0]'hp) a9 (List.getElem?_eq_getElem hp)
 obtain ⟨A1,c,B,d,E,m,rfl,_⟩:=hr
 have hg:=rows_get (Places.all h1 h2) a9 (show 0<12 by omega)
 obtain ⟨ad,e1,ah⟩:=h3 (12*0+0) _ hg
 rw [e] at e1
 cases e1
 have:=World.block_lt_of_cell? w _ ah
 rw [addr_add_block] at this
 exact hS _ this (h4 _ e hn)
theorem Places.touch {F S:Nat→Prop} {w w':World} {A:Option Addr} {l:List (Fr×Int)} (h:Places w S A l) (ht:Touch F w w') (hF:∀ k,S k→¬F k):Places w' S A l:=by
 obtain ⟨⟨rows,h1,h2,h3⟩,h4⟩:=h
 refine ⟨⟨rows,h1,fun i cs p hi hp=>(h2 i cs p hi hp).touch ht hF,ht.row h3 fun a e hn=>hF _ (h4 a e fun e2=>hn ?_)⟩,h4⟩
 have:rows=[]:=List.eq_nil_of_length_eq_zero (by rw [h1,e2];rfl)
 rw [this]
 rfl
theorem Places.nil (w:World) (S:Nat→Prop) (A:Option Addr):Places w S A []:=⟨⟨[],rfl,fun i cs p h=>by simp at h,RowAt.nil _ _⟩,fun _ _ h=>absurd rfl h⟩
theorem Places.here {w:World} {S:Nat→Prop} {A:Option Addr} {l:List (Fr×Int)} (h:Places w S A l):Places w (fun j=>S j∧j<w.heap.size) A l:=h.mono fun _ hk hS=>⟨hS,hk⟩
theorem Places.keep {F S:Nat→Prop} {w w':World} {A:Option Addr} {l:List (Fr×Int)} (h:Places w S A l) (ht:Touch F w w') (hF:∀ j,j<w.heap.size→S j→¬F j):Places w' S A l:=
 (h.here.touch ht fun j hj=>hF j hj.2 hj.1).mono fun _ _ h=>h.1
theorem Places.below {S:Nat→Prop} {w w':World} {A:Option Addr} {l:List (Fr×Int)} (h:Places w S A l) (hb:Below w.heap.size w w'):Places w' S A l:=
 h.keep (Touch.of_below (F:=fun j=>w.heap.size≤j) hb fun _ _ h=>h) fun j hj _ e=>by omega
theorem Places.at {w:World} {S:Nat→Prop} {A:Option Addr} {l:List (Fr×Int)} (h:Places w S A l) (j:Nat) (hj:j<l.length) :
 ∃ ad,A=some ad∧∃ A1 c B d E m,FrS w S A1 B E (l[j]'hj).1∧w.cell? (ad.add (j*12))=some (.int .i64 (l[j]'hj).1.kind)∧w.cell? ⟨(ad.add (j*12)).block,(ad.add (j*12)).off+1,none⟩=some (.int .i64 (l[j]'hj).1.number) ∧
   w.cell? ⟨(ad.add (j*12)).block,(ad.add (j*12)).off+2,none⟩=some (.slice A1 (l[j]'hj).1.cols.length c)∧w.cell? ⟨(ad.add (j*12)).block,(ad.add (j*12)).off+3,none⟩=some (.int .i64 (l[j]'hj).1.seq) ∧
   w.cell? ⟨(ad.add (j*12)).block,(ad.add (j*12)).off+4,none⟩=some (.int .i64 (l[j]'hj).1.first)∧w.cell? ⟨(ad.add (j*12)).block,(ad.add (j*12)).off+5,none⟩=some (.int .i64 (l[j]'hj).1.rows) ∧
   w.cell? ⟨(ad.add (j*12)).block,(ad.add (j*12)).off+6,none⟩=some (.slice B (l[j]'hj).1.block.length d)∧w.cell? ⟨(ad.add (j*12)).block,(ad.add (j*12)).off+7,none⟩=some (.int .i64 (l[j]'hj).1.spot) ∧
   w.cell? ⟨(ad.add (j*12)).block,(ad.add (j*12)).off+8,none⟩=some (.int .i64 (l[j]'hj).1.frames)∧w.cell? ⟨(ad.add (j*12)).block,(ad.add (j*12)).off+9,none⟩=some (.int .i64 (l[j]'hj).1.irows) ∧
   w.cell? ⟨(ad.add (j*12)).block,(ad.add (j*12)).off+10,none⟩=some (.slice E (l[j]'hj).1.ents.length m)∧w.cell? ⟨(ad.add (j*12)).block,(ad.add (j*12)).off+11,none⟩=some (.int .i64 (l[j]'hj).2):=by
 obtain ⟨⟨rows,h1,h2,h3⟩,h4⟩:=h
 obtain ⟨cs,a9⟩:∃ cs,rows[j]? = some cs:=⟨_,List.getElem?_eq_getElem (by omega)⟩
 have hr:=h2 j cs (l[j]'hj) a9 (List.getElem?_eq_getElem hj)
 obtain ⟨A1,c,B,d,E,m,rfl,hf⟩:=hr
 have hg:=fun r hr=>rows_get (Places.all h1 h2) a9 (r:=r) hr
 obtain ⟨ad,e1,ah⟩:=h3 (12*j+0) _ (hg 0 (by omega))
 have hc:∀ r u,0<r→r<12→(plCells A1 c B d E m (l[j]'hj))[r]? = some u→w.cell? ⟨(ad.add (j*12)).block,(ad.add (j*12)).off+r,none⟩=some u:=fun r u cj hr hu=>by
  obtain ⟨ad',e,cg⟩:=h3 (12*j+r) u ((hg r hr).trans hu)
  rw [e1] at e
  cases e
  rw [← addr_add_pos _ _ cj,addr_add_add,Nat.mul_comm j 12]
  exact cg
 refine ⟨ad,e1,A1,c,B,d,E,m,hf, ?_,hc 1 _ (by omega) (by omega) rfl,hc 2 _ (by omega) (by omega) rfl,hc 3 _ (by omega) (by omega) rfl,hc 4 _ (by omega) (by omega) rfl,hc 5 _ (by omega) (by omega) rfl,hc 6 _ (by omega) (by omega) rfl,hc 7 _ (by omega) (by omega) rfl,hc 8 _ (by omega) (by omega) rfl,hc 9 _ (by omega) (by omega) rfl,hc 10 _ (by omega) (by omega) rfl,hc 11 _ (by omega) (by omega) rfl⟩
 rw [Nat.mul_comm]
 exact ah
structure RkV (w:World) (S:Nat→Prop) (g:Nat) (r:Rk):Prop where
 ex:∃ A c E d B m,w.heap[g]? = some (.cells #[.slice A r.L.length c,.int .i64 r.f0,.int .i64 r.r0,.slice E r.E0.length d,.slice B r.S0.length m] 85 (0,0))∧r.L.length≤c ∧
  Places w (fun j=>S j∧j≠g) A r.L∧(RowAt w E (entCells r.E0)∧∀ a,E=some a→r.E0≠[]→S a.block∧a.block≠g)∧Places w (fun j=>S j∧j≠g) B r.S0
 self:S g
 small:r.L.length≤1048576∧r.S0.length≤1048576∧r.E0.length≤1048576
theorem RkV.lt {w:World} {S:Nat→Prop} {g:Nat} {r:Rk} (h:RkV w S g r):g<w.heap.size:=by
 obtain ⟨⟨A,c,E,d,B,m,hg,_⟩,_⟩:=h
 exact obj_lt hg
theorem RkV.mono {w:World} {S T:Nat→Prop} {g:Nat} {r:Rk} (h:RkV w S g r) (hS:∀ k,k<w.heap.size→S k→T k):RkV w T g r:=by
 have hl:=h.lt
 obtain ⟨⟨A,c,E,d,B,m,hg,hc,h1,⟨h2,h3⟩,h4⟩,h5,h6⟩:=h
 refine ⟨⟨A,c,E,d,B,m,hg,hc,h1.mono fun k hk h=>⟨hS k hk h.1,h.2⟩,⟨h2,fun a e hn=>?_⟩,h4.mono fun k hk h=>⟨hS k hk h.1,h.2⟩⟩,hS _ hl h5,h6⟩
 have hp:0<r.E0.length:=List.length_pos_iff.2 hn
 obtain ⟨ad,e1,ah⟩:=h2 _ _ (entCells_get r.E0 0 hp).1
 rw [e] at e1
 cases e1
 have:=World.block_lt_of_cell? w _ ah
 rw [addr_add_block] at this
 exact ⟨hS _ this (h3 _ e hn).1,(h3 _ e hn).2⟩
theorem RkV.here {w:World} {S:Nat→Prop} {g:Nat} {r:Rk} (h:RkV w S g r):RkV w (fun j=>S j∧j<w.heap.size) g r:=h.mono fun _ hk hS=>⟨hS,hk⟩
theorem RkV.touch {F S:Nat→Prop} {w w':World} {g:Nat} {r:Rk} (h:RkV w S g r) (ht:Touch F w w') (hF:∀ j,S j→¬F j):RkV w' S g r:=by
 obtain ⟨⟨A,c,E,d,B,m,hg,hc,h1,⟨h2,h3⟩,h4⟩,h5,h6⟩:=h
 refine ⟨⟨A,c,E,d,B,m,ht.obj hg (hF g h5),hc,h1.touch ht fun j hj=>hF j hj.1,⟨ht.row h2 fun a e hn=>hF _ (h3 a e fun e2=>hn (by rw [e2];rfl)).1,h3⟩,h4.touch ht fun j hj=>hF j hj.1⟩,h5,h6⟩
theorem RkV.keep {F S:Nat→Prop} {w w':World} {g:Nat} {r:Rk} (h:RkV w S g r) (ht:Touch F w w') (hF:∀ j,j<w.heap.size→S j→¬F j):RkV w' S g r:=
 (h.here.touch ht fun j hj=>hF j hj.2 hj.1).mono fun _ _ h=>h.1
theorem RkV.below {S:Nat→Prop} {w w':World} {g:Nat} {r:Rk} (h:RkV w S g r) (hb:Below w.heap.size w w'):RkV w' S g r:=
 h.keep (Touch.of_below (F:=fun j=>w.heap.size≤j) hb fun _ _ h=>h) fun j hj _ e=>by omega
theorem rk_cells {w:World} {g:Nat} {a b c d e:Value} {t:TypeId} (hg:w.heap[g]? = some (.cells #[a,b,c,d,e] t (0,0))) :
 w.cell? ⟨g,0,none⟩=some a∧w.cell? ⟨g,1,none⟩=some b∧w.cell? ⟨g,2,none⟩=some c∧w.cell? ⟨g,3,none⟩=some d∧w.cell? ⟨g,4,none⟩=some e∧∀ i,w.frozen? ⟨g,i,none⟩=false:=
 ⟨by rw [obj_cell hg];rfl,by rw [obj_cell hg];rfl,by rw [obj_cell hg];rfl,by rw [obj_cell hg];rfl,by rw [obj_cell hg];rfl,obj_frozen hg⟩
end
section
open Go.RowKit Go.BigFrame
attribute [local go_sem] run_storeF
structure Rk.ok (r:Rk):Prop where
 f0:0≤r.f0∧r.f0≤1125899906842624
 r0:0≤r.r0∧r.r0≤1125899906842624
 rows:∀ p∈r.L,p.1.kind=2→0≤p.1.rows∧p.1.rows≤64
def framesFrom:Int→List (Fr×Int)→Int
 | n,[]=>n
 | n,p :: l=>framesFrom (if p.1.kind=2 then n+1 else n) l
def rowsFrom:Int→List (Fr×Int)→Int
 | n,[]=>n
 | n,p :: l=>rowsFrom (if p.1.kind=2 then n+p.1.rows else n) l
theorem rkFrames_calls (g:Nat) (S:Nat→Prop) (r:Rk) (w:World) (hr:RkV w S g r) (ao:r.ok) :
 Calls Tryz.prog 46 #[.pointer (some ⟨g,0,none⟩)] w fun e w'=>e=.returned (.int .i64 (framesFrom r.f0 r.L))∧Keeps w w':=by
 obtain ⟨⟨A,c,E,d,B,m,hg,hc,hL,_,_⟩,_,ai,_,_⟩:=hr
 obtain ⟨c0,c1,c2,c3,c4,fz⟩:=rk_cells hg
 obtain ⟨R,hR⟩:∃ R,R=framesFrom r.f0 r.L:=⟨_,rfl⟩
 rw [← hR]
 have b3:=obj_lt hg
 have hb:=ao.f0
 have ba:=Hi ao.rows
 have HL:=Hi hL
 have H0:Hid (R=framesFrom r.f0 (r.L.drop 0)):=Hi (by simpa using hR)
 clear hg hL hR ao
 generalize hN:r.L.length=N at *
 have HN:=Hi hN
 clear hN
 generalize r.f0=f0 at *
 generalize r.r0=r0 at *
 have aT:(N:Int)≤(c:Int):=by omega
 go_enter Tryz.func46,Tryz.ntmps46
 go_wp2_with fail
 go_loopw [3,15] (fun n i wr=>∃ (j:Nat) (v:Int),j≤N∧n=.int .i64 v∧i=.int .i64 (j:Int)∧R=framesFrom v (r.L.drop j)∧0≤v∧v≤1125899906842624+(j:Int)*64∧Keeps w wr) (fun _ i _=>N-(intOf i).toNat)
 case atStart=>exact ⟨0,f0,by omega,rfl,rfl,H0.out,hb.1,by omega,Keeps.refl w⟩
 case round=>
  obtain ⟨j,v,hj,rfl,rfl,a0,bH,bJ,a4⟩:=hrel
  by_cases aa:j<N
  · have a5:j<r.L.length:=by rw [HN.out];exact aa
    obtain ⟨ad,rfl,A1,c1',B1,d1,E1,m1,_,p0,p1,p2,p3,p4,p5,p6,p7,p8,p9,p10,p11⟩:=(HL.out.below a4.below).at j a5
    have an:=ba.out (r.L[j]'a5) (List.getElem_mem a5)
    rw [List.drop_eq_getElem_cons a5] at a0
    generalize r.L[j]'a5=x at *
    obtain ⟨f,a⟩:=x
    simp only at p0 p1 p2 p3 p4 p5 p6 p7 p8 p9 p10 p11 an
    rw [framesFrom] at a0
    have HK:=Hi a4
    have ag:(j:Int)<(N:Int):=by omega
    have aI:(0:Int)≤(j:Int):=by omega
    generalize f.cols.length=y1 at *
    generalize f.block.length=y2 at *
    generalize f.ents.length=y3 at *
    by_cases a8:f.kind=2
    · simp only [a8,if_true] at a0 p0
      have an:=an a8
      have a3:=Hi a0
      clear a0 a4 H0
      go_wp2
      exact ⟨⟨j+1,v+1,by omega,rfl,by go_num,a3.out,by omega,by omega,(HK.out.alloc _)⟩,by simp [intOf];omega⟩
    · have q2:(f.kind==2)=false:=by simpa using a8
      simp only [a8,if_false] at a0
      have a3:=Hi a0
      clear a0 a4 H0 an
      go_wp2
      exact ⟨⟨j+1,v,by omega,rfl,by go_num,a3.out,by omega,by omega,(HK.out.alloc _)⟩,by simp [intOf];omega⟩
  · have ag:¬(j:Int)<(N:Int):=by omega
    have hd:r.L.drop j=[]:=by rw [List.drop_eq_nil_iff,HN.out];omega
    rw [hd] at a0
    have a3:Hid (R=v):=Hi a0
    have HK:=Hi a4
    clear a0 a4 H0 hd
    go_wp2
    go_ret
    exact ⟨by rw [a3.out];rfl,HK.out⟩
theorem rkRows_calls (g:Nat) (S:Nat→Prop) (r:Rk) (w:World) (hr:RkV w S g r) (ao:r.ok) :
 Calls Tryz.prog 47 #[.pointer (some ⟨g,0,none⟩)] w fun e w'=>e=.returned (.int .i64 (rowsFrom r.r0 r.L))∧Keeps w w':=by
 obtain ⟨⟨A,c,E,d,B,m,hg,hc,hL,_,_⟩,_,ai,_,_⟩:=hr
 obtain ⟨c0,c1,c2,c3,c4,fz⟩:=rk_cells hg
 obtain ⟨R,hR⟩:∃ R,R=rowsFrom r.r0 r.L:=⟨_,rfl⟩
 rw [← hR]
 have b3:=obj_lt hg
 have hb:=ao.r0
 have ba:=Hi ao.rows
 have HL:=Hi hL
 have H0:Hid (R=rowsFrom r.r0 (r.L.drop 0)):=Hi (by simpa using hR)
 clear hg hL hR ao
 generalize hN:r.L.length=N at *
 have HN:=Hi hN
 clear hN
 generalize r.f0=f0 at *
 generalize r.r0=r0 at *
 have aT:(N:Int)≤(c:Int):=by omega
 go_enter Tryz.func47,Tryz.ntmps47
 go_wp2_with fail
 go_loopw [3,15] (fun n i wr=>∃ (j:Nat) (v:Int),j≤N∧n=.int .i64 v∧i=.int .i64 (j:Int)∧R=rowsFrom v (r.L.drop j)∧0≤v∧v≤1125899906842624+(j:Int)*64∧Keeps w wr) (fun _ i _=>N-(intOf i).toNat)
 case atStart=>exact ⟨0,r0,by omega,rfl,rfl,H0.out,hb.1,by omega,Keeps.refl w⟩
 case round=>
  obtain ⟨j,v,hj,rfl,rfl,a0,bH,bJ,a4⟩:=hrel
  by_cases aa:j<N
  · have a5:j<r.L.length:=by rw [HN.out];exact aa
    obtain ⟨ad,rfl,A1,c1',B1,d1,E1,m1,_,p0,p1,p2,p3,p4,p5,p6,p7,p8,p9,p10,p11⟩:=(HL.out.below a4.below).at j a5
    have an:=ba.out (r.L[j]'a5) (List.getElem_mem a5)
    rw [List.drop_eq_getElem_cons a5] at a0
    generalize r.L[j]'a5=x at *
    obtain ⟨f,a⟩:=x
    simp only at p0 p1 p2 p3 p4 p5 p6 p7 p8 p9 p10 p11 an
    rw [rowsFrom] at a0
    have HK:=Hi a4
    have ag:(j:Int)<(N:Int):=by omega
    have aI:(0:Int)≤(j:Int):=by omega
    generalize f.cols.length=y1 at *
    generalize f.block.length=y2 at *
    generalize f.ents.length=y3 at *
    by_cases a8:f.kind=2
    · simp only [a8,if_true] at a0 p0
      have an:=an a8
      have a3:=Hi a0
      clear a0 a4 H0
      go_wp2
      exact ⟨⟨j+1,v+f.rows,by omega,rfl,by go_num,a3.out,by omega,by omega,(HK.out.alloc _)⟩,by simp [intOf];omega⟩
    · have q2:(f.kind==2)=false:=by simpa using a8
      simp only [a8,if_false] at a0
      have a3:=Hi a0
      clear a0 a4 H0 an
      go_wp2
      exact ⟨⟨j+1,v,by omega,rfl,by go_num,a3.out,by omega,by omega,(HK.out.alloc _)⟩,by simp [intOf];omega⟩
  · have ag:¬(j:Int)<(N:Int):=by omega
    have hd:r.L.drop j=[]:=by rw [List.drop_eq_nil_iff,HN.out];omega
    rw [hd] at a0
    have a3:Hid (R=v):=Hi a0
    have HK:=Hi a4
    clear a0 a4 H0 hd
    go_wp2
    go_ret
    exact ⟨by rw [a3.out];rfl,HK.out⟩
theorem info_place:(Tryz.prog.info? 91).map (fun i=>(i.zero,i.size,i.bytes))=some (some (.agg #[.int .i64 0,.int .i64 0,.slice none 0 0,.int .i64 0,.int .i64 0,.int .i64 0,.slice none 0 0,.int .i64 0,.int .i64 0,.int .i64 0,.slice none 0 0,.int .i64 0]),12,144):=by kernel_rfl
def PlL (w:World) (base:Nat) (S:Nat→Prop) (v:Value) (l:List (Fr×Int)):Prop:=
 ∃ rows:List (List Value),rows.length=l.length∧(∀ (i:Nat) (cs:List Value) (p:Fr×Int),rows[i]? = some cs→l[i]? = some p→PlR w S cs p)∧Loose w base 91 12 v l.length rows.flatten
theorem PlL.form {w:World} {base:Nat} {S:Nat→Prop} {v:Value} {l:List (Fr×Int)} (h:PlL w base S v l):∃ A c,v=.slice A l.length c∧l.length≤c∧Places w (fun j=>S j∨base≤j) A l:=by
 obtain ⟨rows,h1,h2,h3⟩:=h
 obtain ⟨A,c,rfl,aP,bz,_⟩:=h3.form
 refine ⟨A,c,rfl,aP,⟨rows,h1,fun i cs p hi hp=>(h2 i cs p hi hp).mono fun _ _ h=>.inl h,bz⟩,fun a e hn=>.inr ?_⟩
 have hp:0<l.length:=List.length_pos_iff.2 hn
 subst e
 exact (h3.lt a.block (blk_of a _ _ (by omega))).1
theorem PlL.below {w w':World} {base:Nat} {S:Nat→Prop} {v:Value} {l:List (Fr×Int)} (h:PlL w base S v l) (hS:∀ j,S j→j<w.heap.size) (hb:Below w.heap.size w w'):PlL w' base S v l:=by
 obtain ⟨rows,h1,h2,h3⟩:=h
 exact ⟨rows,h1,fun i cs p hi hp=>(h2 i cs p hi hp).touch (F:=fun j=>w.heap.size≤j) (Touch.of_below hb fun _ _ h=>h) fun k hk e=>by have:=hS k hk;omega,h3.below hb⟩
theorem PlL.snoc {w w':World} {base:Nat} {S:Nat→Prop} {v':Value} {l:List (Fr×Int)} {rows:List (List Value)} {cs:List Value} {p:Fr×Int} (h1:rows.length=l.length) (h2:∀ (i:Nat) (cs:List Value) (p:Fr×Int),rows[i]? = some cs→l[i]? = some p→PlR w S cs p) (a9:PlR w S cs p)
 (hv:Loose w' base 91 12 v' (l.length+1) (rows.flatten++cs)) {F:Nat→Prop} (ht:Touch F w w') (hF:∀ k,S k→¬F k):PlL w' base S v' (l++[p]):=by
 refine ⟨rows++[cs],by simp [h1],fun i cs' p' hi hp=>?_,by simpa using hv⟩
 rcases Nat.lt_trichotomy i rows.length with h | h | h
 · rw [List.getElem?_append_left h] at hi
   rw [List.getElem?_append_left (by omega)] at hp
   exact (h2 i cs' p' hi hp).touch ht hF
 · rw [List.getElem?_append_right (by omega),h,Nat.sub_self] at hi
   rw [List.getElem?_append_right (by omega),show i-l.length=0 by omega] at hp
   simp only [List.getElem?_cons_zero,Option.some.injEq] at hi hp
   subst hi hp
   exact a9.touch ht hF
 · rw [List.getElem?_eq_none (by simp;omega)] at hi
   cases hi
def isSch (p:Fr×Int):Bool:=decide (p.1.kind=1)
def Rk.schemas (r:Rk):List (Fr×Int):=r.S0++r.L.filter isSch
theorem rkSchemas_low (g:Nat) (S:Nat→Prop) (r:Rk) (w:World) (hr:RkV w S g r) (bb:∀ j,S j→j<w.heap.size) :
 Calls Tryz.prog 89 #[.pointer (some ⟨g,0,none⟩)] w fun e w'=>∃ v,e=.returned v∧PlL w' w.heap.size S v r.schemas∧Keeps w w':=by
 obtain ⟨⟨A,c,E,d,B,m,hg,hc,hL,_,hB⟩,_,ai,bB,_⟩:=hr
 obtain ⟨c0,c1,c2,c3,c4,fz⟩:=rk_cells hg
 have b3:=obj_lt hg
 obtain ⟨rows0,r1,r2,r3⟩:=hB.ex
 have ae:=Places.all r1 r2
 have aJ:rows0.flatten.length=r.S0.length*12:=by
  rw [← r1]
  clear r1 r2 r3
  induction rows0 with
  | nil=>rfl
  | cons x rows ih=>
    rw [List.flatten_cons,List.length_append,ih fun cs a9=>ae cs (List.mem_cons_of_mem _ a9),ae x (List.mem_cons_self ..),List.length_cons]
    omega
 have aG:∀ u∈rows0.flatten,u.oneCell'=true:=fun u hu=>by
  obtain ⟨cs,a9,hu⟩:=List.mem_flatten.1 hu
  obtain ⟨i,hi,rfl⟩:=List.getElem_of_mem a9
  obtain ⟨A1,c1',B1,d1,E1,m1,e,_⟩:=r2 i _ (r.S0[i]'(by omega)) (List.getElem?_eq_getElem hi) (List.getElem?_eq_getElem (by omega))
  rw [e] at hu
  simp only [plCells,List.mem_cons,List.not_mem_nil,or_false] at hu
  rcases hu with rfl | rfl | rfl | rfl | rfl | rfl | rfl | rfl | rfl | rfl | rfl | rfl <;> rfl
 have HL:=Hi hL
 have ck:=Hi r2
 have cb:=Hi r3
 have bd:=Hi aJ
 have b7:=Hi aG
 have bY:=Hi r1
 have b5:=Hi bb
 clear hg hL hB ae aJ aG r1 r2 r3 bb
 generalize hN:r.L.length=N at *
 have HN:=Hi hN
 clear hN
 generalize hM:r.S0.length=M at *
 have HM:=Hi hM
 clear hM
 go_enter Tryz.func89,Tryz.ntmps89
 go_wp2_with (at_builtin;refine wpList_append_rows w.heap.size (by rfl) _ _ 83 91 (.agg #[.int .i64 0,.int .i64 0,.slice none 0 0,.int .i64 0,.int .i64 0,.int .i64 0,.slice none 0 0,.int .i64 0,.int .i64 0,.int .i64 0,.slice none 0 0,.int .i64 0]) 12 144 (by rfl) Tryz.underlying83 info_place rfl (by omega) (.slice none 0 0) 0 [] (by rfl) (Loose.empty _ _ _ _ _) B M m rows0.flatten (by rfl) bd.out cb.out b7.out (by simp only [maxLen];omega) (by omega) (Nat.le_refl _) ?_)
 intro v0 w0 b9 au _
 have aj:Keeps w w0:=Touch.nothing (F:=fun _=>False) (Touch.of_grown au fun k hk=>by simp [blk] at hk) fun _ _ h=>h
 have bL:PlL w0 w.heap.size S v0 r.S0:=⟨rows0,by rw [bY.out,HM.out],fun i cs p hi hp=>((ck.out i cs p hi hp).mono fun _ _ h=>h.1).touch (F:=fun j=>w.heap.size≤j) (Touch.of_below aj.below fun _ _ h=>h) fun k hk e=>by have:=b5.out k hk;omega,by rw [HM.out];simpa using b9⟩
 have aE:∃ j,j≤N∧Value.int .i64 0=.int .i64 ((j:Nat):Int)∧PlL w0 w.heap.size S v0 (r.S0++(r.L.take j).filter isSch)∧Keeps w w0:=⟨0,by omega,rfl,by simpa using bL,aj⟩
 have a7:=Hi aE
 have g0:=aj.below.cell (World.block_lt_of_cell? w _ c0)
 rw [c0] at g0
 clear b9 au aj bL aE
 go_wp2_with fail
 go_loopw [3,16] (fun out i wr=>∃ j,j≤N∧i=.int .i64 ((j:Nat):Int)∧PlL wr w.heap.size S out (r.S0++(r.L.take j).filter isSch)∧Keeps w wr) (fun _ i _=>N-(intOf i).toNat)
 case atStart=>exact a7.out
 case round=>
  obtain ⟨j,hj,rfl,⟨rows,h1,h2,h3⟩,a4⟩:=hrel
  obtain ⟨Ao,co,rfl,aw,_,_⟩:=h3.form
  by_cases aa:j<N
  · have a5:j<r.L.length:=by rw [HN.out];exact aa
    obtain ⟨ad,rfl,A1,c1',B1,d1,E1,m1,ab,p0,p1,p2,p3,p4,p5,p6,p7,p8,p9,p10,p11⟩:=(HL.out.below a4.below).at j a5
    have bP:r.L.take (j+1)=r.L.take j++[r.L[j]'a5]:=List.take_succ_eq_append_getElem a5
    have c6:(r.S0++(r.L.take j).filter isSch).length≤M+j:=by
     have:=List.length_filter_le isSch (r.L.take j)
     rw [List.length_append,HM.out]
     rw [List.length_take] at this
     omega
    generalize hx:r.L[j]'a5=x at *
    obtain ⟨f,a⟩:=x
    simp only at p0 p1 p2 p3 p4 p5 p6 p7 p8 p9 p10 p11 ab
    obtain ⟨lo,ax⟩:∃ lo,lo=r.S0++(r.L.take j).filter isSch:=⟨_,rfl⟩
    rw [← ax] at h1 h2 h3 aw c6
    have aZ:r.S0++(r.L.take (j+1)).filter isSch=lo++(if f.kind=1 then [(f,a)] else []):=by
     rw [bP,List.filter_append,← List.append_assoc,← ax]
     by_cases hk:f.kind=1 <;> simp [isSch,hk]
    have az:=Hi aZ
    have H1:=Hi h1
    have H2:=Hi h2
    have H3:=Hi h3
    have HK:=Hi a4
    have aW:=Hi ab
    have ag:(j:Int)<(N:Int):=by omega
    have aI:(0:Int)≤(j:Int):=by omega
    rw [← ax]
    clear h1 h2 h3 a4 ab bP aZ hx ax a7
    generalize hn:lo.length=n at *
    have aQ:=Hi hn
    clear hn
    have a9:PlR wr S (plCells A1 c1' B1 d1 E1 m1 (f,a)) (f,a):=⟨A1,c1',B1,d1,E1,m1,rfl,aW.out.mono fun _ _ h=>h.1⟩
    unfold plCells at a9
    simp only at a9
    have av:=Hi a9
    clear a9 aW
    generalize f.cols.length=y1 at *
    generalize f.block.length=y2 at *
    generalize f.ents.length=y3 at *
    by_cases a6:f.kind=1
    · rw [if_pos a6] at az
      rw [a6] at p0 av
      obtain ⟨W2,al⟩:∃ W2,W2=(wr.alloc (.cells #[.int .i64 1,.int .i64 f.number,.slice A1 y1 c1',.int .i64 f.seq,.int .i64 f.first,.int .i64 f.rows,.slice B1 y2 d1,.int .i64 f.spot,.int .i64 f.frames,.int .i64 f.irows,.slice E1 y3 m1,.int .i64 a] 91)).alloc (.cells #[.int .i64 1,.int .i64 f.number,.slice A1 y1 c1',.int .i64 f.seq,.int .i64 f.first,.int .i64 f.rows,.slice B1 y2 d1,.int .i64 f.spot,.int .i64 f.frames,.int .i64 f.irows,.slice E1 y3 m1,.int .i64 a] 91):=⟨_,rfl⟩
      have a8:Keeps wr W2:=by rw [al];exact ((Keeps.refl wr).alloc _).alloc _
      have af:RowAt W2 (some ⟨wr.heap.size+1,0,none⟩) [.int .i64 1,.int .i64 f.number,.slice A1 y1 c1',.int .i64 f.seq,.int .i64 f.first,.int .i64 f.rows,.slice B1 y2 d1,.int .i64 f.spot,.int .i64 f.frames,.int .i64 f.irows,.slice E1 y3 m1,.int .i64 a]:=by rw [al];exact RowAt.new_at _ _ _ _ _ rfl _ (by simp)
      have ar:=Hi af
      have aH:=Hi a8
      have bA:=HK.out.size
      clear af a8
      go_wp2_with (at_builtin;rw [← al];refine wpList_append_rows w.heap.size (by rfl) _ _ 83 91 (.agg #[.int .i64 0,.int .i64 0,.slice none 0 0,.int .i64 0,.int .i64 0,.int .i64 0,.slice none 0 0,.int .i64 0,.int .i64 0,.int .i64 0,.slice none 0 0,.int .i64 0]) 12 144 (by rfl) Tryz.underlying83 info_place rfl (by omega) (.slice Ao n co) n rows.flatten (by rfl) (H3.out.below aH.out.below) (some ⟨wr.heap.size+1,0,none⟩) 1 1 [.int .i64 1,.int .i64 f.number,.slice A1 y1 c1',.int .i64 f.seq,.int .i64 f.first,.int .i64 f.rows,.slice B1 y2 d1,.int .i64 f.spot,.int .i64 f.frames,.int .i64 f.irows,.slice E1 y3 m1,.int .i64 a] (by rfl) (by rfl) ar.out (by simp [Value.oneCell']) (by simp only [maxLen];omega) (by omega) (Nat.le_trans bA aH.out.size) ?_)
      intro v4 w4 aX ac _
      try rw [← al] at ac
      have ak:∀ k,blk (.slice Ao n co)=some k→w.heap.size≤k:=fun k hk=>(H3.out.lt k hk).1
      have aS:Keeps w w4:=Keeps.trans' (HK.out.trans aH.out) ac ak
      have bE:Touch (fun k=>blk (.slice Ao n co)=some k) wr w4:=(Touch.of_below aH.out.below fun k hk h=>absurd hk (by omega)).grown ac fun k e _=>e
      rw [← aQ.out] at aX
      have bM:PlL w4 w.heap.size S v4 (lo++[(f,a)]):=PlL.snoc (by rw [H1.out,aQ.out]) H2.out av.out aX bE fun k hk h=>by have:=b5.out k hk;have:=ak k h;omega
      have bC:=Hi bM
      have bs:=Hi aS
      clear aX ac ak aS bE bM al
      go_wp2
      exact ⟨⟨j+1,by omega,by go_num,by rw [az.out];exact bC.out,bs.out⟩,by simp [intOf];omega⟩
    · have q1:(f.kind==1)=false:=by simpa using a6
      rw [if_neg a6,List.append_nil] at az
      go_wp2
      exact ⟨⟨j+1,by omega,by go_num,by rw [az.out];exact PlL.below ⟨rows,by rw [H1.out,aQ.out],H2.out,by rw [aQ.out];exact H3.out⟩ (fun j hj=>Nat.lt_of_lt_of_le (b5.out j hj) HK.out.size) ((Keeps.refl wr).alloc _).below,HK.out.alloc _⟩,by simp [intOf];omega⟩
  · have ag:¬(j:Int)<(N:Int):=by omega
    have hd:r.L.take j=r.L:=List.take_of_length_le (by rw [HN.out];omega)
    have bC:Hid (PlL wr w.heap.size S (.slice Ao (r.S0++(r.L.take j).filter isSch).length co) r.schemas):=Hi (by
     have h4:PlL wr w.heap.size S (.slice Ao (r.S0++(r.L.take j).filter isSch).length co) (r.S0++(r.L.take j).filter isSch):=⟨rows,h1,h2,h3⟩
     have h5:r.S0++(r.L.take j).filter isSch=r.schemas:=by rw [hd];rfl
     rw [← h5]
     exact h4)
    have HK:=Hi a4
    generalize (r.S0++(r.L.take j).filter isSch).length=n at *
    clear h1 h2 h3 a4 hd a7
    go_wp2
    go_ret
    exact ⟨_,rfl,bC.out,HK.out⟩
theorem rkSchemas_calls (g:Nat) (S:Nat→Prop) (r:Rk) (w:World) (hr:RkV w S g r) :
 Calls Tryz.prog 89 #[.pointer (some ⟨g,0,none⟩)] w fun e w'=>∃ A c,e=.returned (.slice A r.schemas.length c)∧r.schemas.length≤c∧Places w' (fun j=>S j∨w.heap.size≤j) A r.schemas∧Keeps w w':=
 (rkSchemas_low g (fun j=>S j∧j<w.heap.size) r w hr.here fun j h=>h.2).mono fun e w' ⟨v,h1,h2,h3⟩=>by
   obtain ⟨A,c,rfl,aP,hp⟩:=h2.form
   exact ⟨A,c,h1,aP,hp.mono fun _ _ h=>h.imp (fun h=>h.1) id,h3⟩
def placeFrom (n:Int):Int×Bool→List (Fr×Int)→Int×Bool
 | v,[]=>v
 | v,p :: l=>placeFrom n (if p.1.number=n then (p.2,true) else v) l
def Rk.place (r:Rk) (n:Int):Int×Bool:=placeFrom n (0,false) r.schemas
theorem rkPlace_calls (g:Nat) (S:Nat→Prop) (r:Rk) (nn:Int) (w:World) (hr:RkV w S g r) :
 Calls Tryz.prog 54 #[.pointer (some ⟨g,0,none⟩),.int .i64 nn] w fun e w'=>e=.returned (.tuple #[.int .i64 (r.place nn).1,.bool (r.place nn).2])∧Keeps w w':=by
 have ai:=hr.small
 have bV:r.schemas.length≤2097152:=by
  have:=List.length_filter_le isSch r.L
  unfold Rk.schemas
  rw [List.length_append]
  omega
 have a9:=rkSchemas_calls g S r w hr
 have av:=Hi a9
 obtain ⟨R,hR⟩:∃ R,R=r.place nn:=⟨_,rfl⟩
 rw [← hR]
 unfold Rk.place at hR
 have H0:Hid (R=placeFrom nn (0,false) (r.schemas.drop 0)):=Hi (by simpa using hR)
 clear hR
 clear hr a9 ai
 generalize hs:r.schemas=sl at *
 clear hs
 go_enter Tryz.func54,Tryz.ntmps54
 go_wp2_with fail
 refine av.out.mono ?_
 rintro e w1 ⟨A,c,rfl,aP,hL,a6⟩
 have HL:=Hi hL
 have am:=Hi a6
 clear hL a6 av
 generalize hN:sl.length=N at *
 have HN:=Hi hN
 clear hN
 have aT:(N:Int)≤(c:Int):=by omega
 go_wp2_with fail
 go_loopw [6,7,13] (fun n b i wr=>∃ (j:Nat) (v:Int) (q:Bool),j≤N∧n=.int .i64 v∧b=.bool q∧i=.int .i64 (j:Int)∧R=placeFrom nn (v,q) (sl.drop j)∧Keeps w1 wr) (fun _ _ i _=>N-(intOf i).toNat)
 case atStart=>exact ⟨0,0,false,by omega,rfl,rfl,rfl,H0.out,Keeps.refl w1⟩
 case round=>
  obtain ⟨j,v,q,hj,rfl,rfl,rfl,a0,a4⟩:=hrel
  by_cases aa:j<N
  · have a5:j<sl.length:=by rw [HN.out];exact aa
    obtain ⟨ad,rfl,A1,c1',B1,d1,E1,m1,ab,p0,p1,p2,p3,p4,p5,p6,p7,p8,p9,p10,p11⟩:=(HL.out.below a4.below).at j a5
    rw [List.drop_eq_getElem_cons a5] at a0
    generalize sl[j]'a5=x at *
    obtain ⟨f,a⟩:=x
    simp only at p0 p1 p2 p3 p4 p5 p6 p7 p8 p9 p10 p11 ab
    have HK:=Hi a4
    have aW:=Hi ab
    have ag:(j:Int)<(N:Int):=by omega
    have aI:(0:Int)≤(j:Int):=by omega
    rw [placeFrom] at a0
    generalize f.cols.length=y1 at *
    generalize f.block.length=y2 at *
    generalize f.ents.length=y3 at *
    by_cases hv:f.number=nn
    · simp only [hv,if_true] at a0 p1
      have a3:=Hi a0
      clear a0 a4 H0 ab
      go_wp2
      exact ⟨⟨j+1,a,true,by omega,rfl,rfl,by go_num,a3.out,(HK.out.alloc _)⟩,by simp [intOf];omega⟩
    · have q1:(f.number==nn)=false:=by simpa using hv
      simp only [hv,if_false] at a0
      have a3:=Hi a0
      clear a0 a4 H0 ab
      go_wp2
      exact ⟨⟨j+1,v,q,by omega,rfl,rfl,by go_num,a3.out,(HK.out.alloc _)⟩,by simp [intOf];omega⟩
  · have ag:¬(j:Int)<(N:Int):=by omega
    have hd:sl.drop j=[]:=by rw [List.drop_eq_nil_iff,HN.out];omega
    rw [hd] at a0
    have a3:Hid (R=(v,q)):=Hi a0
    have HK:=Hi (am.out.trans a4)
    clear a0 a4 H0 hd
    go_wp2
    go_ret2
    exact ⟨by rw [a3.out];rfl,HK.out⟩
def sinceFrom:Int×Bool→List (Fr×Int)→Int×Bool
 | v,[]=>v
 | v,p :: l=>sinceFrom (if p.1.kind=1 then (0,true) else if p.1.kind=2 then (v.1+1,v.2) else v) l
def Rk.since (r:Rk):Int:=if (sinceFrom (0,decide (0<r.S0.length)) r.L).2 then (sinceFrom (0,decide (0<r.S0.length)) r.L).1 else 0
theorem rkSince_calls (g:Nat) (S:Nat→Prop) (r:Rk) (w:World) (hr:RkV w S g r) :
 Calls Tryz.prog 49 #[.pointer (some ⟨g,0,none⟩)] w fun e w'=>e=.returned (.int .i64 r.since)∧Keeps w w':=by
 obtain ⟨⟨A,c,E,d,B,m,hg,hc,hL,_,_⟩,_,ai,_,_⟩:=hr
 obtain ⟨c0,c1,c2,c3,c4,fz⟩:=rk_cells hg
 obtain ⟨R,hR⟩:∃ R,R=r.since:=⟨_,rfl⟩
 rw [← hR]
 unfold Rk.since at hR
 have b3:=obj_lt hg
 have HL:=Hi hL
 obtain ⟨Q,hQ⟩:∃ Q,Q=sinceFrom (0,decide (0<r.S0.length)) r.L:=⟨_,rfl⟩
 rw [← hQ] at hR
 have HR:=Hi hR
 generalize r.S0.length=M at *
 have H0:Hid (Q=sinceFrom (0,decide (0<M)) (r.L.drop 0)):=Hi (by simpa using hQ)
 clear hg hL hR hQ
 generalize hN:r.L.length=N at *
 have HN:=Hi hN
 clear hN
 have aT:(N:Int)≤(c:Int):=by omega
 go_enter Tryz.func49,Tryz.ntmps49
 go_wp2_with fail
 go_loopw [3,4,18] (fun n b i wr=>∃ (j:Nat) (v:Int) (q:Bool),j≤N∧n=.int .i64 v∧b=.bool q∧i=.int .i64 (j:Int)∧Q=sinceFrom (v,q) (r.L.drop j)∧0≤v∧v≤(j:Int)∧Keeps w wr) (fun _ _ i _=>N-(intOf i).toNat)
 case atStart=>exact ⟨0,0,decide (0<M),by omega,rfl,by simp,rfl,H0.out,by omega,by omega,Keeps.refl w⟩
 case round=>
  obtain ⟨j,v,q,hj,rfl,rfl,rfl,a0,bH,bJ,a4⟩:=hrel
  by_cases aa:j<N
  · have a5:j<r.L.length:=by rw [HN.out];exact aa
    obtain ⟨ad,rfl,A1,c1',B1,d1,E1,m1,_,p0,p1,p2,p3,p4,p5,p6,p7,p8,p9,p10,p11⟩:=(HL.out.below a4.below).at j a5
    rw [List.drop_eq_getElem_cons a5] at a0
    generalize r.L[j]'a5=x at *
    obtain ⟨f,a⟩:=x
    simp only at p0 p1 p2 p3 p4 p5 p6 p7 p8 p9 p10 p11
    rw [sinceFrom] at a0
    have HK:=Hi a4
    have ag:(j:Int)<(N:Int):=by omega
    have aI:(0:Int)≤(j:Int):=by omega
    generalize f.cols.length=y1 at *
    generalize f.block.length=y2 at *
    generalize f.ents.length=y3 at *
    by_cases a6:f.kind=1
    · simp only [a6,if_true] at a0 p0
      have a3:=Hi a0
      clear a0 a4 H0
      go_wp2
      exact ⟨⟨j+1,0,true,by omega,rfl,rfl,by go_num,a3.out,by omega,by omega,(HK.out.alloc _)⟩,by simp [intOf];omega⟩
    have q1:(f.kind==1)=false:=by simpa using a6
    by_cases a8:f.kind=2
    · simp only [a8,if_true,show ¬(2:Int)=1 by omega,if_false] at a0 p0
      have a3:=Hi a0
      clear a0 a4 H0
      go_wp2
      exact ⟨⟨j+1,v+1,q,by omega,by go_num,rfl,by go_num,a3.out,by omega,by omega,(HK.out.alloc _)⟩,by simp [intOf];omega⟩
    · have q2:(f.kind==2)=false:=by simpa using a8
      simp only [a6,a8,if_false] at a0
      have a3:=Hi a0
      clear a0 a4 H0
      go_wp2
      exact ⟨⟨j+1,v,q,by omega,rfl,rfl,by go_num,a3.out,by omega,by omega,(HK.out.alloc _)⟩,by simp [intOf];omega⟩
  · have ag:¬(j:Int)<(N:Int):=by omega
    have hd:r.L.drop j=[]:=by rw [List.drop_eq_nil_iff,HN.out];omega
    rw [hd] at a0
    have hq:Q=(v,q):=a0
    have HK:=Hi a4
    have bh:=HR.out
    rw [hq] at bh
    cases q with
    | true=>
      have a3:Hid (R=v):=Hi bh
      clear a0 a4 H0 hd hq bh HR
      go_wp2
      go_ret
      exact ⟨by rw [a3.out];rfl,HK.out⟩
    | false=>
      have a3:Hid (R=0):=Hi bh
      clear a0 a4 H0 hd hq bh HR
      go_wp2
      go_ret
      exact ⟨by rw [a3.out];rfl,HK.out⟩
def Rk.closed (r:Rk):Bool:=match r.L[r.L.length-1]? with | some p=>decide (p.1.kind=3) | none=>false
theorem rkClosed_calls (g:Nat) (S:Nat→Prop) (r:Rk) (w:World) (hr:RkV w S g r) :
 Calls Tryz.prog 50 #[.pointer (some ⟨g,0,none⟩)] w fun e w'=>e=.returned (.bool r.closed)∧Keeps w w':=by
 obtain ⟨⟨A,c,E,d,B,m,hg,hc,hL,_,_⟩,_,ai,_,_⟩:=hr
 obtain ⟨c0,c1,c2,c3,c4,fz⟩:=rk_cells hg
 have b3:=obj_lt hg
 obtain ⟨R,hR⟩:∃ R,R=r.closed:=⟨_,rfl⟩
 rw [← hR]
 unfold Rk.closed at hR
 by_cases h0:r.L.length=0
 · rw [List.getElem?_eq_none (by omega)] at hR
   have HR:=Hi hR
   rw [h0] at c0
   clear hg hL hR h0
   go_enter Tryz.func50,Tryz.ntmps50
   go_wp2_with fail
   go_region
   all_goals
    go_wp2
    go_ret
    exact ⟨by rw [HR.out];rfl,Keeps.drew _⟩
 · have a5:r.L.length-1<r.L.length:=by omega
   rw [List.getElem?_eq_getElem a5] at hR
   obtain ⟨ad,rfl,A1,c1',B1,d1,E1,m1,_,p0,p1,p2,p3,p4,p5,p6,p7,p8,p9,p10,p11⟩:=hL.at (r.L.length-1) a5
   generalize r.L[r.L.length-1]'a5=x at *
   obtain ⟨f,a⟩:=x
   simp only at p0 hR
   clear p1 p2 p3 p4 p5 p6 p7 p8 p9 p10 p11 hg hL a5
   obtain ⟨n,hn⟩:∃ n,n=r.L.length-1:=⟨_,rfl⟩
   rw [← hn] at p0
   have hN:r.L.length=n+1:=by omega
   rw [hN] at c0 hc ai
   clear hn hN h0
   have c7:IntKind.i64.wrap (((n+1:Nat):Int)-1)=(n:Int):=by rw [IntWalk.i64_in _ (by omega)];omega
   have cy:IntKind.i64.wrap ((n:Int)+1-1)=(n:Int):=by rw [IntWalk.i64_in _ (by omega)];omega
   have cr:(0:Int)<((n+1:Nat):Int):=by omega
   have cu:(0:Int)≤(n:Int):=by omega
   have cv:(n:Int)<((n+1:Nat):Int):=by omega
   by_cases hk:f.kind=3
   · simp only [hk,decide_true] at hR p0
     have HR:=Hi hR
     clear hR
     go_enter Tryz.func50,Tryz.ntmps50
     go_wp2_with fail
     go_region
     all_goals
      go_wp2
      go_ret
      exact ⟨by rw [HR.out];rfl,Keeps.drew _⟩
   · have q3:(f.kind==3)=false:=by simpa using hk
     simp only [hk,decide_false] at hR
     have HR:=Hi hR
     clear hR
     go_enter Tryz.func50,Tryz.ntmps50
     go_wp2_with fail
     go_region
     all_goals
      go_wp2
      go_ret
      exact ⟨by rw [HR.out];rfl,Keeps.drew _⟩
def numberFrom:Int→List (Fr×Int)→Int
 | v,[]=>v
 | v,p :: l=>numberFrom (if v<p.1.number then p.1.number else v) l
def Rk.number (r:Rk):Int:=numberFrom (-1) r.schemas
theorem rkNumber_calls (g:Nat) (S:Nat→Prop) (r:Rk) (w:World) (hr:RkV w S g r) :
 Calls Tryz.prog 48 #[.pointer (some ⟨g,0,none⟩)] w fun e w'=>e=.returned (.int .i64 r.number)∧Keeps w w':=by
 have ai:=hr.small
 have bV:r.schemas.length≤2097152:=by
  have:=List.length_filter_le isSch r.L
  unfold Rk.schemas
  rw [List.length_append]
  omega
 have a9:=rkSchemas_calls g S r w hr
 have av:=Hi a9
 obtain ⟨R,hR⟩:∃ R,R=r.number:=⟨_,rfl⟩
 rw [← hR]
 unfold Rk.number at hR
 have H0:Hid (R=numberFrom (-1) (r.schemas.drop 0)):=Hi (by simpa using hR)
 clear hR
 clear hr a9 ai
 generalize hs:r.schemas=sl at *
 clear hs
 go_enter Tryz.func48,Tryz.ntmps48
 go_wp2_with fail
 refine av.out.mono ?_
 rintro e w1 ⟨A,c,rfl,aP,hL,a6⟩
 have HL:=Hi hL
 have am:=Hi a6
 clear hL a6 av
 generalize hN:sl.length=N at *
 have HN:=Hi hN
 clear hN
 have aT:(N:Int)≤(c:Int):=by omega
 go_wp2_with fail
 go_loopw [3,9] (fun n i wr=>∃ (j:Nat) (v:Int),j≤N∧n=.int .i64 v∧i=.int .i64 (j:Int)∧R=numberFrom v (sl.drop j)∧Keeps w1 wr) (fun _ i _=>N-(intOf i).toNat)
 case atStart=>exact ⟨0,-1,by omega,rfl,rfl,H0.out,Keeps.refl w1⟩
 case round=>
  obtain ⟨j,v,hj,rfl,rfl,a0,a4⟩:=hrel
  by_cases aa:j<N
  · have a5:j<sl.length:=by rw [HN.out];exact aa
    obtain ⟨ad,rfl,A1,c1',B1,d1,E1,m1,ab,p0,p1,p2,p3,p4,p5,p6,p7,p8,p9,p10,p11⟩:=(HL.out.below a4.below).at j a5
    rw [List.drop_eq_getElem_cons a5] at a0
    generalize sl[j]'a5=x at *
    obtain ⟨f,a⟩:=x
    simp only at p0 p1 p2 p3 p4 p5 p6 p7 p8 p9 p10 p11 ab
    have HK:=Hi a4
    have aW:=Hi ab
    have ag:(j:Int)<(N:Int):=by omega
    have aI:(0:Int)≤(j:Int):=by omega
    rw [numberFrom] at a0
    generalize f.cols.length=y1 at *
    generalize f.block.length=y2 at *
    generalize f.ents.length=y3 at *
    by_cases hv:v<f.number
    · simp only [hv,if_true] at a0
      have a3:=Hi a0
      clear a0 a4 H0 ab
      go_wp2
      exact ⟨⟨j+1,f.number,by omega,rfl,by go_num,a3.out,(HK.out.alloc _)⟩,by simp [intOf];omega⟩
    · simp only [hv,if_false] at a0
      have a3:=Hi a0
      clear a0 a4 H0 ab
      go_wp2
      exact ⟨⟨j+1,v,by omega,rfl,by go_num,a3.out,(HK.out.alloc _)⟩,by simp [intOf];omega⟩
  · have ag:¬(j:Int)<(N:Int):=by omega
    have hd:sl.drop j=[]:=by rw [List.drop_eq_nil_iff,HN.out];omega
    rw [hd] at a0
    have a3:Hid (R=v):=Hi a0
    have HK:=Hi (am.out.trans a4)
    clear a0 a4 H0 hd
    go_wp2
    go_ret
    exact ⟨by rw [a3.out];rfl,HK.out⟩
def schemaFrom (n:Int):List (Fr×Int)→Option (List Col)
 | []=>none
 | p :: l=>if p.1.number=n then some p.1.cols else schemaFrom n l
def Rk.schema (r:Rk) (n:Int):Option (List Col):=schemaFrom n r.schemas
def colsIn (o:Option (List Col)):List Col:=match o with | some l=>l | none=>[]
theorem rkSchema_low (g:Nat) (S:Nat→Prop) (r:Rk) (nn:Int) (w:World) (hr:RkV w S g r) (bb:∀ j,S j→j<w.heap.size) :
 Calls Tryz.prog 52 #[.pointer (some ⟨g,0,none⟩),.int .i64 nn] w fun e w'=>∃ A c,e=.returned (.tuple #[.agg #[.slice A (colsIn (r.schema nn)).length c],.bool (r.schema nn).isSome])∧SchS w' (fun j=>S j∨w.heap.size≤j) A (colsIn (r.schema nn))∧Keeps w w':=by
 have ai:=hr.small
 have bV:r.schemas.length≤2097152:=by
  have:=List.length_filter_le isSch r.L
  unfold Rk.schemas
  rw [List.length_append]
  omega
 have a9:=rkSchemas_calls g S r (w.alloc (.cells #[.slice none 0 0] 30)) (hr.below ((Keeps.refl w).alloc _).below)
 have av:=Hi a9
 obtain ⟨R,hR⟩:∃ R,R=r.schema nn:=⟨_,rfl⟩
 rw [← hR]
 unfold Rk.schema at hR
 have H0:Hid (R=schemaFrom nn (r.schemas.drop 0)):=Hi (by simpa using hR)
 have b5:=Hi bb
 clear hR bb
 clear hr a9 ai
 generalize hs:r.schemas=sl at *
 clear hs
 go_enter Tryz.func52,Tryz.ntmps52
 go_wp2_with fail
 refine av.out.mono ?_
 rintro e w1 ⟨A,c,rfl,aP,hL,a6⟩
 have aB:Hid (Keeps w (w.alloc (.cells #[.slice none 0 0] 30))):=Hi ((Keeps.refl w).alloc _)
 have HB:Hid (w1.heap[w.heap.size]? = some (.cells #[.slice none 0 0] 30 (0,0))):=Hi ((a6.below.block _ (by simp)).trans (obj_new w _))
 have HL:=Hi hL
 have am:=Hi a6
 clear hL a6 av
 generalize hN:sl.length=N at *
 have HN:=Hi hN
 clear hN
 have aT:(N:Int)≤(c:Int):=by omega
 go_wp2_with fail
 go_loopw [11] (fun i wr=>∃ (j:Nat),j≤N∧i=.int .i64 (j:Int)∧R=schemaFrom nn (sl.drop j)∧Keeps w1 wr) (fun i _=>N-(intOf i).toNat)
 case atStart=>exact ⟨0,by omega,rfl,H0.out,Keeps.refl w1⟩
 case round=>
  obtain ⟨j,hj,rfl,a0,a4⟩:=hrel
  by_cases aa:j<N
  · have a5:j<sl.length:=by rw [HN.out];exact aa
    obtain ⟨ad,rfl,A1,c1',B1,d1,E1,m1,ab,p0,p1,p2,p3,p4,p5,p6,p7,p8,p9,p10,p11⟩:=(HL.out.below a4.below).at j a5
    rw [List.drop_eq_getElem_cons a5] at a0
    generalize sl[j]'a5=x at *
    obtain ⟨f,a⟩:=x
    simp only at p0 p1 p2 p3 p4 p5 p6 p7 p8 p9 p10 p11 ab
    have HK:=Hi a4
    have aW:=Hi ab
    have ag:(j:Int)<(N:Int):=by omega
    have aI:(0:Int)≤(j:Int):=by omega
    rw [schemaFrom] at a0
    have hb:=(a4.below.block _ (obj_lt HB.out)).trans HB.out
    obtain ⟨d0,e0⟩:=cells1 hb
    have cf:=obj_lt hb
    by_cases hv:f.number=nn
    · simp only [hv,if_true] at a0 p1
      have a3:=Hi a0
      obtain ⟨Y1,bD⟩:∃ Y1,Y1=f.cols.length:=⟨_,rfl⟩
      have cm:=Hi bD
      rw [← bD] at p2
      generalize f.block.length=y2 at *
      generalize f.ents.length=y3 at *
      have cx:=am.out.size
      have ct:=a4.size
      clear a0 a4 H0 ab hb bD
      go_wp2
      refine bodyPost_ret (v:=.tuple #[.agg #[.slice A1 Y1 c1'],.bool true]) (by simp [results,Tryz.results52,go_sem, *]) rfl ?_
      rw [a3.out]
      have hT:=fun o v=>((Touch.refl (At w.heap.size) wr).setCell ⟨w.heap.size,0,none⟩ v fun _=>At.self _).alloc o
      refine ⟨A1,c1',by rw [cm.out];rfl, ?_,new_keeps (aB.out.trans (am.out.trans HK.out)) (hT _ _) (Nat.le_refl _)⟩
      refine (aW.out.sch.touch (hT _ _) (fun j hj e=>?_)).mono fun j _ h=>?_
      · rw [At] at e
        rcases hj with h | h
        · have:=b5.out j h;omega
        · simp at h;omega
      · rcases h with h | h
        · exact .inl h
        · refine .inr ?_
          simp at h
          omega
    · have q1:(f.number==nn)=false:=by simpa using hv
      simp only [hv,if_false] at a0
      generalize f.cols.length=y1 at *
      generalize f.block.length=y2 at *
      generalize f.ents.length=y3 at *
      have a3:=Hi a0
      clear a0 a4 H0 ab hb
      go_wp2
      exact ⟨⟨j+1,by omega,by go_num,a3.out,(HK.out.alloc _)⟩,by simp [intOf];omega⟩
  · have ag:¬(j:Int)<(N:Int):=by omega
    have hd:sl.drop j=[]:=by rw [List.drop_eq_nil_iff,HN.out];omega
    rw [hd] at a0
    have a3:Hid (R=none):=Hi a0
    have hb:=(a4.below.block _ (obj_lt HB.out)).trans HB.out
    obtain ⟨d0,e0⟩:=cells1 hb
    have cf:=obj_lt hb
    have HK:=Hi (aB.out.trans (am.out.trans a4))
    clear a0 a4 H0 hd hb
    go_wp2
    refine bodyPost_ret (v:=.tuple #[.agg #[.slice none 0 0],.bool false]) (by simp [results,Tryz.results52,go_sem, *]) rfl ?_
    rw [a3.out]
    have bI:=new_keeps HK.out ((Touch.refl (At w.heap.size) wr).setCell ⟨w.heap.size,0,none⟩ (.slice none 0 0) fun _=>At.self _) (Nat.le_refl _)
    first | exact ⟨none,0,rfl,SchS.nil _ _ _,bI⟩ | exact ⟨none,⟨0,rfl⟩,SchS.nil _ _ _,bI⟩
theorem rkSchema_calls (g:Nat) (S:Nat→Prop) (r:Rk) (nn:Int) (w:World) (hr:RkV w S g r) :
 Calls Tryz.prog 52 #[.pointer (some ⟨g,0,none⟩),.int .i64 nn] w fun e w'=>∃ A c,e=.returned (.tuple #[.agg #[.slice A (colsIn (r.schema nn)).length c],.bool (r.schema nn).isSome])∧SchS w' (fun j=>S j∨w.heap.size≤j) A (colsIn (r.schema nn))∧Keeps w w':=
 (rkSchema_low g (fun j=>S j∧j<w.heap.size) r nn w hr.here fun j h=>h.2).mono fun e w' ⟨A,c,h1,h2,h3⟩=>⟨A,c,h1,h2.mono fun _ _ h=>h.imp (fun h=>h.1) id,h3⟩
def Rk.fol1 (r:Rk) (f:Fr):Bool:=
 if f.number=r.number+1 then true else match r.schema f.number with | some l=>decide (f.number=r.number)&&sameCols l f.cols | none=>false
theorem rkFollows_schema (g:Nat) (S T:Nat→Prop) (r:Rk) (A B E:Option Addr) (c d m:Nat) (f:Fr) (a:Int) (w:World) (hr:RkV w S g r) (hn:-1≤r.number∧r.number<2147483648) (hs:SchS w T A f.cols) (h1:f.kind=1) :
 Calls Tryz.prog 45 #[.pointer (some ⟨g,0,none⟩),.agg (frCells A c B d E m f),.int .i64 a] w fun e w'=>e=.returned (.bool (r.fol1 f))∧Keeps w w':=by
 obtain ⟨W,hW⟩:∃ W,W=w.alloc (.cells (frCells A c B d E m f) 36):=⟨_,rfl⟩
 have aj:Keeps w W:=by rw [hW];exact (Keeps.refl w).alloc _
 have be:W.heap[w.heap.size]? = some (.cells (frCells A c B d E m f) 36 (0,0)):=by rw [hW];exact obj_new _ _
 have bf:=rkNumber_calls g S r W (hr.below aj.below)
 obtain ⟨R,hR⟩:∃ R,R=r.fol1 f:=⟨_,rfl⟩
 rw [← hR]
 unfold Rk.fol1 at hR
 have HR:=Hi hr
 have HS:=Hi hs
 have aN:=Hi bf
 have aB:=Hi aj
 have ch:∃ n1,n1=f.cols.length:=⟨_,rfl⟩
 obtain ⟨n1,bw⟩:=ch
 have cn:=Hi bw
 unfold frCells at *
 rw [h1] at hW be ⊢
 rw [← bw] at hW be ⊢
 have aU:=Hi be
 clear hr hs bf aj be bw
 generalize f.block.length=n2 at *
 generalize f.ents.length=n3 at *
 generalize cd:r.number=rn at *
 clear cd
 have c7:IntKind.i64.wrap (rn+1)=rn+1:=IntWalk.i64_in _ (by omega)
 by_cases q1:f.number=rn+1
 · rw [if_pos q1] at hR
   have HT:=Hi hR
   rw [q1] at hW aU ⊢
   clear hR
   go_enter Tryz.func45,Tryz.ntmps45
   go_wp2_with fail
   rw [← hW]
   clear hW
   refine aN.out.mono ?_
   rintro e w1 ⟨rfl,a6⟩
   have aK:=(a6.below.block _ (obj_lt aU.out)).trans aU.out
   obtain ⟨⟨d0,d1,d2,d3,d4,d5,d6,d7,d8,d9,d10⟩,_⟩:=cells11 aK
   have am:=Hi (aB.out.trans a6)
   clear a6 aK
   go_wp2
   go_ret
   exact ⟨by rw [HT.out];rfl,am.out⟩
 rw [if_neg q1] at hR
 have p1:(f.number==rn+1)=false:=by simpa using q1
 go_enter Tryz.func45,Tryz.ntmps45
 go_wp2_with fail
 rw [← hW]
 clear hW
 refine aN.out.mono ?_
 rintro e w1 ⟨rfl,a6⟩
 have aK:=(a6.below.block _ (obj_lt aU.out)).trans aU.out
 obtain ⟨⟨d0,d1,d2,d3,d4,d5,d6,d7,d8,d9,d10⟩,_⟩:=cells11 aK
 have bq:=Hi aK
 have am:=Hi (aB.out.trans a6)
 have bR:=rkSchema_calls g S r f.number w1 (HR.out.below am.out.below)
 have bG:=Hi bR
 clear a6 aK bR aN aU aB
 go_wp2_with fail
 refine bG.out.mono ?_
 rintro e w2 ⟨A2,c2,rfl,bo,a8⟩
 obtain ⟨o,ho⟩:∃ o,o=r.schema f.number:=⟨_,rfl⟩
 rw [← ho] at bo hR ⊢
 clear ho bG
 obtain ⟨W3,aO⟩:∃ W3,W3=w2.alloc (.cells #[.slice A2 (colsIn o).length c2] 30):=⟨_,rfl⟩
 have aA:Keeps w2 W3:=by rw [aO];exact (Keeps.refl w2).alloc _
 have bF:W3.heap[w2.heap.size]? = some (.cells #[.slice A2 (colsIn o).length c2] 30 (0,0)):=by rw [aO];exact obj_new _ _
 have bU:=((a8.trans aA).below.block _ (obj_lt bq.out)).trans bq.out
 have bl:=Hi (am.out.trans (a8.trans aA))
 have ai:=refSchSame_calls A2 A c2 c _ _ (colsIn o) f.cols W3 (bo.later aA.below) (HS.out.later bl.out.below)
 rw [← cn.out] at ai
 obtain ⟨v0,vf⟩:=cells1 bF
 obtain ⟨⟨e0,e1,e2,e3,e4,e5,e6,e7,e8,e9,e10⟩,_⟩:=cells11 bU
 have br:=Hi ai
 clear bo a8 aA bF bU ai bq am d0 d1 d2 d3 d4 d5 d6 d7 d8 d9 d10
 rw [aO] at v0 e0 e1 e2 e3 e4 e5 e6 e7 e8 e9 e10
 cases o with
 | none=>
   have HT:Hid (R=false):=Hi hR
   simp only [colsIn,Option.isSome,List.length_nil] at *
   clear hR br
   go_wp2_with fail
   go_ret
   exact ⟨by rw [HT.out];rfl,by rw [← aO];exact bl.out⟩
 | some l=>
   simp only [colsIn,Option.isSome] at *
   generalize l.length=ll at *
   by_cases q2:f.number=rn
   · rw [q2] at hR e1 ⊢
     simp only [decide_true,Bool.true_and] at hR
     have HT:=Hi hR
     clear hR
     go_wp2_with fail
     rw [← aO]
     clear aO
     refine br.out.mono ?_
     rintro e w4 ⟨rfl,aS⟩
     go_wp2
     go_ret
     exact ⟨by rw [HT.out];rfl,bl.out.trans aS⟩
   · have p2:(f.number==rn)=false:=by simpa using q2
     simp only [q2,decide_false,Bool.false_and] at hR
     have HT:=Hi hR
     clear hR br
     go_wp2_with fail
     go_ret
     exact ⟨by rw [HT.out];rfl,by rw [← aO];exact bl.out⟩
structure Es where
 out:List Ent
 fr:Int
 rw:Int
 last:Int
def Es.step (s:Es) (p:Fr×Int):Es:=
 if p.1.kind=1 then { s with last:=p.2 }
 else if p.1.kind=2 then ⟨if s.fr.tmod 4=0∧s.out.length<64 then s.out++[⟨p.2,s.rw,s.last⟩] else s.out,s.fr+1,s.rw+p.1.rows,s.last⟩
 else s
def entsFrom:Es→List (Fr×Int)→Es
 | s,[]=>s
 | s,p :: l=>entsFrom (s.step p) l
def lastFrom:Int→List (Fr×Int)→Int
 | v,[]=>v
 | _,p :: l=>lastFrom p.2 l
def Rk.entries (r:Rk):List Ent:=(entsFrom ⟨r.E0,r.f0,r.r0,lastFrom 0 r.S0⟩ r.L).out
theorem rkEntries_calls (g:Nat) (S:Nat→Prop) (r:Rk) (w:World) (hr:RkV w S g r) (ao:r.ok) :
 Calls Tryz.prog 51 #[.pointer (some ⟨g,0,none⟩)] w fun e w'=>∃ v,e=.returned v∧Loose w' w.heap.size 78 3 v r.entries.length (entCells r.entries)∧Keeps w w':=by
 obtain ⟨⟨A,c,E,d,B,m,hg,hc,hL,⟨hE,_⟩,hB⟩,_,ai,bB,bZ⟩:=hr
 obtain ⟨c0,c1,c2,c3,c4,fz⟩:=rk_cells hg
 obtain ⟨Q,hQ⟩:∃ Q,Q=entsFrom ⟨r.E0,r.f0,r.r0,lastFrom 0 r.S0⟩ r.L:=⟨_,rfl⟩
 have hR:r.entries=Q.out:=by rw [hQ];rfl
 rw [hR]
 have b3:=obj_lt hg
 have be:=ao.f0
 have aK:=ao.r0
 have ba:=Hi ao.rows
 have HL:=Hi hL
 have HB:=Hi hB
 have HE:=Hi hE
 have bp:=Hi (entCells_one r.E0)
 have b1:=Hi (entCells_length r.E0)
 obtain ⟨LA,bx⟩:∃ LA,LA=lastFrom 0 r.S0:=⟨_,rfl⟩
 rw [← bx] at hQ
 have HQ:=Hi hQ
 have H0:Hid (LA=lastFrom 0 (r.S0.drop 0)):=Hi (by simpa using bx)
 clear hg hL hB hE ao hQ hR bx
 generalize hN:r.L.length=N at *
 have HN:=Hi hN
 clear hN
 generalize hM:r.S0.length=M at *
 have HM:=Hi hM
 clear hM
 generalize r.f0=f0 at *
 generalize r.r0=r0 at *
 generalize r.E0=E0 at *
 generalize hK:E0.length=K at *
 have aB:=Hi hK
 clear hK
 have aT:(N:Int)≤(c:Int):=by omega
 go_enter Tryz.func51,Tryz.ntmps51
 go_wp2_with (at_builtin;refine wpList_append_rows w.heap.size (by rfl) _ _ 32 78 (.agg #[.int .i64 0,.int .i64 0,.int .i64 0]) 3 24 (by rfl) Tryz.underlying32 info_entry rfl (by omega) (.slice none 0 0) 0 [] (by rfl) (Loose.empty _ _ _ _ _) E K d (entCells E0) (by rfl) (by have:=b1.out;omega) HE.out bp.out (by simp only [maxLen];omega) (by omega) (Nat.le_refl _) ?_)
 intro v0 w0 b9 au _
 have aj:Keeps w w0:=Touch.nothing (F:=fun _=>False) (Touch.of_grown au fun k hk=>by simp [blk] at hk) fun _ _ h=>h
 have g0:=(aj.below.cell (World.block_lt_of_cell? w _ c0)).trans c0
 have g1:=(aj.below.cell (World.block_lt_of_cell? w _ c1)).trans c1
 have g2:=(aj.below.cell (World.block_lt_of_cell? w _ c2)).trans c2
 have g4:=(aj.below.cell (World.block_lt_of_cell? w _ c4)).trans c4
 have bW:Hid (Loose w0 w.heap.size 78 3 v0 K (entCells E0)):=Hi (by simpa using b9)
 have aR:=Hi aj
 clear b9 au aj
 go_wp2_with fail
 go_loopw [6,29] (fun la i wr=>∃ (j:Nat) (v:Int),j≤M∧la=.int .i64 v∧i=.int .i64 (j:Int)∧LA=lastFrom v (r.S0.drop j)∧Keeps w0 wr) (fun _ i _=>M-(intOf i).toNat)
 case atStart=>exact ⟨0,0,by omega,rfl,rfl,H0.out,Keeps.refl w0⟩
 case round=>
  obtain ⟨j,v,hj,rfl,rfl,a0,a4⟩:=hrel
  by_cases aa:j<M
  · have a5:j<r.S0.length:=by rw [HM.out];exact aa
    obtain ⟨ad,rfl,A1,c1',B1,d1,E1,m1,_,p0,p1,p2,p3,p4,p5,p6,p7,p8,p9,p10,p11⟩:=(HB.out.below (aR.out.trans a4).below).at j a5
    rw [List.drop_eq_getElem_cons a5] at a0
    generalize r.S0[j]'a5=x at *
    obtain ⟨f,a⟩:=x
    simp only at p0 p1 p2 p3 p4 p5 p6 p7 p8 p9 p10 p11
    rw [lastFrom] at a0
    have a3:=Hi a0
    have HK:=Hi a4
    have ag:(j:Int)<(M:Int):=by omega
    have aI:(0:Int)≤(j:Int):=by omega
    generalize f.cols.length=y1 at *
    generalize f.block.length=y2 at *
    generalize f.ents.length=y3 at *
    clear a0 a4 H0
    go_wp2
    exact ⟨⟨j+1,a,by omega,rfl,by go_num,a3.out,(HK.out.alloc _)⟩,by simp [intOf];omega⟩
  · have ag:¬(j:Int)<(M:Int):=by omega
    have hd:r.S0.drop j=[]:=by rw [List.drop_eq_nil_iff,HM.out];omega
    rw [hd] at a0
    have hv:LA=v:=a0
    subst hv
    have bS:=Hi (aR.out.trans a4)
    have bO:=Hi (bW.out.below a4.below)
    have g0:=(a4.below.cell (World.block_lt_of_cell? w0 _ g0)).trans g0
    have a7:Hid (∃ (j:Nat) (s:Es),j≤N∧Loose wr w.heap.size 78 3 v0 s.out.length (entCells s.out)∧Value.int .i64 f0=.int .i64 s.fr∧Value.int .i64 r0=.int .i64 s.rw∧Value.int .i64 LA=.int .i64 s.last∧Value.int .i64 0=.int .i64 (j:Int)∧Q=entsFrom s (r.L.drop j)∧(0≤s.fr∧s.fr≤1125899906842624+(j:Int))∧(0≤s.rw∧s.rw≤1125899906842624+(j:Int)*64)∧s.out.length≤1048640∧Keeps w wr):=
     Hi ⟨0,⟨E0,f0,r0,LA⟩,by omega,by rw [aB.out];exact bO.out,rfl,rfl,rfl,rfl,by simpa using HQ.out,by simp only;omega,by simp only;omega,by simp only [aB.out];omega,bS.out⟩
    clear a0 a4 H0 hd bO bS bW aR
    go_wp2_with fail
    go_loopw [3,4,5,6,41] (fun out fr rw' la i wr=>∃ (j:Nat) (s:Es),j≤N∧Loose wr w.heap.size 78 3 out s.out.length (entCells s.out)∧fr=.int .i64 s.fr∧rw'=.int .i64 s.rw∧la=.int .i64 s.last∧i=.int .i64 (j:Int)∧Q=entsFrom s (r.L.drop j)∧(0≤s.fr∧s.fr≤1125899906842624+(j:Int))∧(0≤s.rw∧s.rw≤1125899906842624+(j:Int)*64)∧s.out.length≤1048640∧Keeps w wr) (fun _ _ _ _ i _=>N-(intOf i).toNat)
    case atStart=>exact a7.out
    case round=>
     obtain ⟨j,s,hj,aw,rfl,rfl,rfl,rfl,a0,ab,an,bi,a4⟩:=hrel
     obtain ⟨Ao,co,rfl,aP,_,_⟩:=aw.form
     by_cases aa:j<N
     · have a5:j<r.L.length:=by rw [HN.out];exact aa
       obtain ⟨ad,rfl,A1,c1',B1,d1,E1,m1,_,p0,p1,p2,p3,p4,p5,p6,p7,p8,p9,p10,p11⟩:=(HL.out.below a4.below).at j a5
       have bg:=ba.out (r.L[j]'a5) (List.getElem_mem a5)
       rw [List.drop_eq_getElem_cons a5] at a0
       generalize r.L[j]'a5=x at *
       obtain ⟨f,a⟩:=x
       simp only at p0 p1 p2 p3 p4 p5 p6 p7 p8 p9 p10 p11 bg
       rw [entsFrom] at a0
       have HK:=Hi a4
       have aC:=Hi aw
       have ag:(j:Int)<(N:Int):=by omega
       have aI:(0:Int)≤(j:Int):=by omega
       have aL:=ab.1
       have cc:=ab.2
       have bX:=an.1
       have cp:=an.2
       generalize f.cols.length=y1 at *
       generalize f.block.length=y2 at *
       generalize f.ents.length=y3 at *
       by_cases a6:f.kind=1
       · have aq:s.step (f,a) = { s with last:=a }:=by unfold Es.step;rw [if_pos a6]
         rw [aq] at a0
         rw [a6] at p0
         have a3:=Hi a0
         clear a0 a4 aw aq a7 bg
         go_wp2
         exact ⟨⟨j+1,{ s with last:=a },by omega,aC.out.below ((Keeps.refl _).alloc _).below,rfl,rfl,rfl,by go_num,a3.out,by simp only;omega,by simp only;omega,bi,HK.out.alloc _⟩,by simp [intOf];omega⟩
       have q1:(f.kind==1)=false:=by simpa using a6
       by_cases a8:f.kind=2
       case neg=>
        have q2:(f.kind==2)=false:=by simpa using a8
        have aq:s.step (f,a)=s:=by unfold Es.step;rw [if_neg a6,if_neg a8]
        rw [aq] at a0
        have a3:=Hi a0
        clear a0 a4 aw aq a7 bg
        go_wp2
        exact ⟨⟨j+1,s,by omega,aC.out.below ((Keeps.refl _).alloc _).below,rfl,rfl,rfl,by go_num,a3.out,by omega,by omega,bi,HK.out.alloc _⟩,by simp [intOf];omega⟩
       case pos=>
       have bg:=bg a8
       rw [a8] at p0
       by_cases hm:s.fr.tmod 4=0∧s.out.length<64
       · have aq:s.step (f,a)=⟨s.out++[(⟨a,s.rw,s.last⟩:Ent)],s.fr+1,s.rw+f.rows,s.last⟩:=by unfold Es.step;rw [if_neg a6,if_pos a8,if_pos hm]
         rw [aq] at a0
         have bt:s.fr % 4=0:=by rw [← Int.tmod_eq_emod_of_nonneg aL];exact hm.1
         have b4:(s.out.length:Int)<64:=by omega
         have c8:s.out.length<64:=hm.2
         have a3:=Hi a0
         clear a0 a4 aw aq a7 hm
         obtain ⟨W2,al⟩:∃ W2,W2=(wr.alloc (.cells #[.int .i64 2,.int .i64 f.number,.slice A1 y1 c1',.int .i64 f.seq,.int .i64 f.first,.int .i64 f.rows,.slice B1 y2 d1,.int .i64 f.spot,.int .i64 f.frames,.int .i64 f.irows,.slice E1 y3 m1,.int .i64 a] 91)).alloc (.cells #[.int .i64 a,.int .i64 s.rw,.int .i64 s.last] 78):=⟨_,rfl⟩
         have b0:Keeps wr W2:=by rw [al];exact ((Keeps.refl wr).alloc _).alloc _
         have bT:W2.heap[wr.heap.size]? = some (.cells #[.int .i64 2,.int .i64 f.number,.slice A1 y1 c1',.int .i64 f.seq,.int .i64 f.first,.int .i64 f.rows,.slice B1 y2 d1,.int .i64 f.spot,.int .i64 f.frames,.int .i64 f.irows,.slice E1 y3 m1,.int .i64 a] 91 (0,0)):=by rw [al];exact obj_old (obj_new wr _) _
         have af:RowAt W2 (some ⟨wr.heap.size+1,0,none⟩) [.int .i64 a,.int .i64 s.rw,.int .i64 s.last]:=by rw [al];exact RowAt.new_at _ _ _ _ _ rfl _ (by simp)
         have ar:=Hi af
         have aH:=Hi b0
         have bQ:=Hi bT
         have bA:=HK.out.size
         clear af b0 bT
         generalize hn:s.out.length=n at *
         have aQ:=Hi hn
         clear hn
         go_wp2_with (at_builtin;refine wpList_append_rows w.heap.size (by rfl) _ _ 32 78 (.agg #[.int .i64 0,.int .i64 0,.int .i64 0]) 3 24 (by rfl) Tryz.underlying32 info_entry rfl (by omega) (.slice Ao n co) n (entCells s.out) (by rfl) (al▸aC.out.below aH.out.below) (some ⟨wr.heap.size+1,0,none⟩) 1 1 [.int .i64 a,.int .i64 s.rw,.int .i64 s.last] (by rfl) (by rfl) (al▸ar.out) (by simp [Value.oneCell']) (by simp only [maxLen];omega) (by omega) (al▸(Nat.le_trans bA aH.out.size)) ?_)
         intro v4 w4 aX ac _
         try rw [← al] at ac
         have ak:∀ k,blk (.slice Ao n co)=some k→w.heap.size≤k∧k<wr.heap.size:=fun k hk=>aC.out.lt k hk
         have aS:Keeps w w4:=Keeps.trans' (HK.out.trans aH.out) ac fun k hk=>(ak k hk).1
         have bN:=(ac.block wr.heap.size (obj_lt bQ.out) (fun e=>by have:=(ak _ e.symm).2;omega)).trans bQ.out
         have z0:w4.cell? ⟨wr.heap.size,5,none⟩=some (.int .i64 f.rows):=by rw [obj_cell bN];rfl
         have bc:entCells (s.out++[(⟨a,s.rw,s.last⟩:Ent)])=entCells s.out++[.int .i64 a,.int .i64 s.rw,.int .i64 s.last]:=by simp [entCells]
         have ca:Hid (Loose w4 w.heap.size 78 3 v4 (s.out++[(⟨a,s.rw,s.last⟩:Ent)]).length (entCells (s.out++[(⟨a,s.rw,s.last⟩:Ent)]))):=Hi (by
          rw [bc,List.length_append,aQ.out]
          exact aX)
         have bs:=Hi aS
         clear aX ac ak aS bN bc al
         go_wp2
         exact ⟨⟨j+1,⟨s.out++[(⟨a,s.rw,s.last⟩:Ent)],s.fr+1,s.rw+f.rows,s.last⟩,by omega,ca.out,by go_num,by go_num,rfl,by go_num,a3.out,by simp only;omega,by simp only;omega,by simp only [List.length_append,List.length_cons,List.length_nil,aQ.out];omega,bs.out⟩,by simp [intOf];omega⟩
       · have aq:s.step (f,a)=⟨s.out,s.fr+1,s.rw+f.rows,s.last⟩:=by unfold Es.step;rw [if_neg a6,if_pos a8,if_neg hm]
         rw [aq] at a0
         have a3:=Hi a0
         clear a0 a4 aw aq a7
         by_cases bk:s.fr.tmod 4=0
         · have bt:s.fr % 4=0:=by rw [← Int.tmod_eq_emod_of_nonneg aL];exact bk
           have b4:¬(s.out.length:Int)<64:=fun h=>hm ⟨bk,by omega⟩
           have bu:¬s.out.length<64:=fun h=>hm ⟨bk,h⟩
           clear hm
           go_wp2
           exact ⟨⟨j+1,⟨s.out,s.fr+1,s.rw+f.rows,s.last⟩,by omega,aC.out.below ((Keeps.refl _).alloc _).below,by go_num,by go_num,rfl,by go_num,a3.out,by simp only;omega,by simp only;omega,bi,HK.out.alloc _⟩,by simp [intOf];omega⟩
         · have bt:¬s.fr % 4=0:=by rw [← Int.tmod_eq_emod_of_nonneg aL];exact bk
           have qm:(s.fr % 4==0)=false:=by simpa using bt
           clear hm
           go_wp2
           exact ⟨⟨j+1,⟨s.out,s.fr+1,s.rw+f.rows,s.last⟩,by omega,aC.out.below ((Keeps.refl _).alloc _).below,by go_num,by go_num,rfl,by go_num,a3.out,by simp only;omega,by simp only;omega,bi,HK.out.alloc _⟩,by simp [intOf];omega⟩
     · have ag:¬(j:Int)<(N:Int):=by omega
       have hd:r.L.drop j=[]:=by rw [List.drop_eq_nil_iff,HN.out];omega
       rw [hd] at a0
       have hq:Q=s:=a0
       subst hq
       have aC:=Hi aw
       have HK:=Hi a4
       clear a0 a4 aw hd a7
       go_wp2
       go_ret
       exact ⟨_,rfl,aC.out,HK.out⟩
end
end Go.Proofs.YtihodcnnappkbaaGreatDoor
