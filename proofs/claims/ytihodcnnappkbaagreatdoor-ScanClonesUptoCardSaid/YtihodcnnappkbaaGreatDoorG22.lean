/-
  The walk of the reference's Is. Condition: the value and the type stand for trees; the contract of the reference's Utf. The walk of the reference's Name. No condition. The walk of the reference's column. Condition: the slice stands for columns, the cells for one, the tables of unicode/utf8 are as laid. The walk of the reference's typeBytes. Condition: the value stands for a type that may be. The walk of the reference's ValueBytes. Condition: the value may be, its numbers are of 64 bits. The walk of the reference's bytesOf. Condition: the columns may be, the numbers are of 64 bits. The walks of the reference's Check and Encode of a schema. Condition: the slice stands for columns, its capacity is Go's, the numbers are of 64 bits, the tables of unicode/utf8 are as laid.
-/
import Derived.Test.YtihodcnnappkbaaGreatDoorG21
import Derived.Test.YtihodcnnappkbaaGreatDoorG20
import Derived.Test.YtihodcnnappkbaaGreatDoorG2
import Derived.Test.YtihodcnnappkbaaGreatDoorG3
import Derived.Test.YtihodcnnappkbaaGreatDoorG4
import Derived.Test.YtihodcnnappkbaaGreatDoorG5
import Derived.Test.YtihodcnnappkbaaGreatDoorG11
import Derived.Test.YtihodcnnappkbaaGreatDoorG1
import Derived.Test.YtihodcnnappkbaaGreatDoorG6
namespace Go.Proofs.YtihodcnnappkbaaGreatDoor
open Go.RowKit Go.BigFrame
set_option linter.unusedVariables false
set_option linter.unusedSimpArgs false
attribute [local go_sem] run_storeF
set_option maxRecDepth 10000 in
set_option maxHeartbeats 2000000 in
theorem refIs_calls (dj:RefUtf) (x:Va) (t:Ty) (v tv:Value) (w:World) (hv:VaAt w v x) (ht:TyAt w tv t) (aJ:Tabs w) :
 Calls Tryz.prog 142 #[v,tv] w fun e w'=>e=.returned (.bool (decide (tyCheck t 1=0)&&(decide (vaCheck x 1=0)&&vaOf x t)))∧Keeps w w':=by
 obtain ⟨B,cb,rfl⟩:=hv.form
 obtain ⟨D,cd,rfl⟩:=ht.form
 obtain ⟨W0,ab⟩:∃ W0,W0=(w.alloc (.cells #[.int .i64 x.kind,.int .i64 x.int,.float .f64 x.fl,.string x.text,.slice B x.items.length cb] 101)).alloc (.cells #[.int .i64 t.kind,.slice D t.of.length cd] 97):=⟨_,rfl⟩
 have aj:Keeps w W0:=by rw [ab];exact ((Keeps.refl w).alloc _).alloc _
 have ay:W0.heap[w.heap.size]? = some (.cells #[.int .i64 x.kind,.int .i64 x.int,.float .f64 x.fl,.string x.text,.slice B x.items.length cb] 101):=by rw [ab];exact obj_old (obj_new w _) _
 have aw:W0.heap[w.heap.size+1]? = some (.cells #[.int .i64 t.kind,.slice D t.of.length cd] 97):=by rw [ab];exact obj_new_at _ _ _ (by simp)
 have h1:=fun wx (hx:Keeps W0 wx)=>refCheckType_calls t _ wx (ht.later (aj.trans hx).below)
 have h2:=fun wx (hx:Keeps W0 wx)=>refVaCheckTop_calls dj x _ wx (hv.later (aj.trans hx).below) (aJ.below (aj.trans hx).below)
 have h3:=fun wx (hx:Keeps W0 wx) (e1:tyCheck t 1=0) (e2:vaCheck x 1=0)=>refVaOf_calls (SizeOf.sizeOf x+1) x t _ _ 1 1 wx (by omega) (hv.later (aj.trans hx).below) (ht.later (aj.trans hx).below) e2 e1
 obtain ⟨O,hO⟩:∃ O,O=vaOf x t:=⟨_,rfl⟩
 rw [← hO] at h3 ⊢
 generalize tyCheck t 1=E1 at h1 h3 ⊢
 generalize vaCheck x 1=E2 at h2 h3 ⊢
 have an:=Hi aj
 have al:=Hi ay
 have aT:=Hi aw
 have H1:=Hi h1
 have H2:=Hi h2
 have H3:=Hi h3
 clear hv ht aJ dj aj ay aw h1 h2 h3 hO
 generalize x.items.length=N at *
 generalize x.kind=k at *
 generalize x.int=i at *
 generalize x.fl=f at *
 generalize x.text=tx at *
 generalize t.kind=k2 at *
 generalize t.of.length=M at *
 by_cases du:E1=0
 · by_cases dI:E2=0
   · subst du dI
     rw [decide_eq_true rfl,Bool.true_and,Bool.true_and]
     go_enter Tryz.func142,Tryz.ntmps142
     go_wp2_with fail
     rw [← ab]
     clear ab
     refine (H1.out W0 (Keeps.refl _)).mono ?_
     rintro e w1 ⟨rfl,ag⟩
     have hb:=(ag.below.block _ (obj_lt al.out)).trans al.out
     obtain ⟨d0,d1,d2,d3,d4,_⟩:=cells5 hb
     have u1:=obj_lt hb
     go_wp2_with fail
     refine (H2.out w1 ag).mono ?_
     rintro e w2 ⟨rfl,ai⟩
     have hb:=((ag.trans ai).below.block _ (obj_lt al.out)).trans al.out
     obtain ⟨d0,d1,d2,d3,d4,_⟩:=cells5 hb
     have u2:=obj_lt hb
     have hc:=((ag.trans ai).below.block _ (obj_lt aT.out)).trans aT.out
     have c0:w2.cell? ⟨w.heap.size+1,0,none⟩=some (.int .i64 k2):=by rw [obj_cell hc 0];rfl
     have c1:w2.cell? ⟨w.heap.size+1,1,none⟩=some (.slice D M cd):=by rw [obj_cell hc 1];rfl
     have u3:=obj_lt hc
     go_wp2_with fail
     refine (H3.out w2 (ag.trans ai) (by trivial) (by trivial)).mono ?_
     rintro e w3 ⟨rfl,ci⟩
     go_wp2
     go_ret
     exact ⟨rfl,an.out.trans ((ag.trans ai).trans ci)⟩
   · subst du
     have q:(E2==0)=false:=by simpa using dI
     rw [decide_eq_true rfl,decide_eq_false dI,Bool.true_and,Bool.false_and]
     go_enter Tryz.func142,Tryz.ntmps142
     go_wp2_with fail
     rw [← ab]
     clear ab
     refine (H1.out W0 (Keeps.refl _)).mono ?_
     rintro e w1 ⟨rfl,ag⟩
     have hb:=(ag.below.block _ (obj_lt al.out)).trans al.out
     obtain ⟨d0,d1,d2,d3,d4,_⟩:=cells5 hb
     have u1:=obj_lt hb
     go_wp2_with fail
     refine (H2.out w1 ag).mono ?_
     rintro e w2 ⟨rfl,ai⟩
     go_wp2
     go_ret
     exact ⟨rfl,an.out.trans (ag.trans ai)⟩
 · have q:(E1==0)=false:=by simpa using du
   rw [decide_eq_false du,Bool.false_and]
   go_enter Tryz.func142,Tryz.ntmps142
   go_wp2_with fail
   rw [← ab]
   clear ab
   refine (H1.out W0 (Keeps.refl _)).mono ?_
   rintro e w1 ⟨rfl,ag⟩
   have hb:=(ag.below.block _ (obj_lt al.out)).trans al.out
   obtain ⟨d0,d1,d2,d3,d4,_⟩:=cells5 hb
   have u1:=obj_lt hb
   go_wp2_with fail
   refine (H2.out w1 ag).mono ?_
   rintro e w2 ⟨rfl,ai⟩
   go_wp2
   go_ret
   exact ⟨rfl,an.out.trans (ag.trans ai)⟩
end Go.Proofs.YtihodcnnappkbaaGreatDoor
namespace Go.Proofs.YtihodcnnappkbaaGreatDoor
open Go.RowKit Go.Proofs
set_option linter.unusedVariables false
set_option linter.unusedSimpArgs false
theorem nameTo_first {s:ByteArray} (h0:0<s.size) (h:¬(97≤(s.get! 0).toNat∧(s.get! 0).toNat≤122)):nameTo s s.size=false:=by
 refine nameTo_cut (n:=1) (by omega) ?_
 rw [nameTo_succ,nameTo_zero,Bool.true_and]
 exact nameB_false (by omega)
set_option maxRecDepth 20000 in
set_option maxHeartbeats 1000000 in
theorem refName_calls (s:ByteArray) (w:World) :
 Calls Tryz.prog 139 #[.string s] w fun e w'=>e=.returned (.bool (nameOk s))∧w=w':=by
 obtain ⟨n,hn⟩:∃ n,n=s.size:=⟨_,rfl⟩
 by_cases h0:0<n
 · by_cases h1:n≤16
   · have bu:nameOk s=nameTo s n:=by unfold nameOk;rw [← hn];simp [h0,h1]
     have cZ:s.get! 0=s[0]'(by omega):=get_at s 0 (by omega)
     have aE:0<s.size:=by omega
     rw [bu]
     by_cases hA:97≤(s[0]'aE).toNat
     · by_cases hB:(s[0]'aE).toNat≤122
       · have dH:(97:Int)≤((s[0]'aE).toNat:Int):=by omega
         have e5:¬(122:Int)<((s[0]'aE).toNat:Int):=by omega
         have HN:=Hi hn
         have HA:=Hi hA
         have HB:=Hi hB
         rw [hn] at h0 h1 ⊢
         clear bu cZ hA hB hn
         go_enter Tryz.func139,Tryz.ntmps139
         go_wp2_with fail
         clear dH e5
         go_loopw [3] (fun i wr=>∃ k:Nat,k≤s.size∧i=.int .i64 (k:Int)∧nameTo s k=true∧wr=w) (fun i _=>s.size-(intOf i).toNat)
         case atStart=>exact ⟨0,by omega,rfl,rfl,rfl⟩
         case round=>
          obtain ⟨k,hk,rfl,dm,rfl⟩:=hrel
          by_cases hp:k<s.size
          · have bk:=nameTo_succ s k
            have hg:s.get! k=s[k]'hp:=get_at s k hp
            rw [dm,Bool.true_and,hg] at bk
            have bg:k=0→97≤(s[k]'hp).toNat∧(s[k]'hp).toNat≤122:=fun h=>by subst h;exact ⟨HA.out,HB.out⟩
            have HF:=Hi bg
            have eq:=Hi dm
            have HS:=Hi bk
            clear dm bk hg bg
            obtain ⟨b1,q1⟩:∃ b,decide (((s[k]'hp).toNat:Int)<97)=b:=⟨_,rfl⟩
            obtain ⟨b2,q2⟩:∃ b,decide ((122:Int)<((s[k]'hp).toNat:Int))=b:=⟨_,rfl⟩
            obtain ⟨b3,q3⟩:∃ b,decide (((s[k]'hp).toNat:Int)<48)=b:=⟨_,rfl⟩
            obtain ⟨b4,q4⟩:∃ b,decide ((57:Int)<((s[k]'hp).toNat:Int))=b:=⟨_,rfl⟩
            obtain ⟨b5,q5⟩:∃ b,(((s[k]'hp).toNat:Int) != 95)=b:=⟨_,rfl⟩
            cases b1 <;> cases b2 <;> cases b3 <;> cases b4 <;> cases b5
            all_goals try (exfalso;simp only [decide_eq_true_eq,decide_eq_false_iff_not,beq_iff_eq,bne_iff_ne,beq_eq_false_iff_ne,bne_eq_false_iff_eq,ne_eq] at q1 q2 q3 q4 q5;omega)
            all_goals go_wp2
            all_goals first
             | (go_ret
                refine ⟨ret_bool ?_,rfl⟩
                refine (nameTo_cut (n:=k+1) (by omega) ?_).symm
                rw [HS.out]
                simp only [decide_eq_true_eq,decide_eq_false_iff_not,beq_iff_eq,bne_iff_ne,beq_eq_false_iff_ne,bne_eq_false_iff_eq,ne_eq] at q1 q2 q3 q4 q5
                exact nameB_false (by omega))
             | (refine ⟨⟨k+1,by omega,by go_num, ?_,trivial⟩,by simp [intOf];omega⟩
                rw [HS.out]
                simp only [decide_eq_true_eq,decide_eq_false_iff_not,beq_iff_eq,bne_iff_ne,beq_eq_false_iff_ne,bne_eq_false_iff_eq,ne_eq] at q1 q2 q3 q4 q5
                have:=HF.out
                exact nameB_true (by omega))
          · obtain rfl:k=s.size:=by omega
            have eq:=Hi dm
            clear dm
            go_wp2
            go_ret
            exact ⟨ret_bool eq.out.symm,rfl⟩
       · have hf:=nameTo_first aE (by rw [cZ];omega)
         rw [hn,hf]
         have dH:(97:Int)≤((s[0]'aE).toNat:Int):=by omega
         have e5:(122:Int)<((s[0]'aE).toNat:Int):=by omega
         rw [hn] at h0 h1
         clear bu cZ hA hB hf hn
         go_enter Tryz.func139,Tryz.ntmps139
         go_wp2
         go_ret
         exact ⟨rfl,rfl⟩
     · have hf:=nameTo_first aE (by rw [cZ];omega)
       rw [hn,hf]
       have dH:((s[0]'aE).toNat:Int)<97:=by omega
       rw [hn] at h0 h1
       clear bu cZ hA hf hn
       go_enter Tryz.func139,Tryz.ntmps139
       go_wp2
       go_ret
       exact ⟨rfl,rfl⟩
   · have aH:nameOk s=false:=by unfold nameOk;rw [← hn];simp [h1]
     have HN:=Hi aH
     rw [aH]
     clear aH
     go_enter Tryz.func139,Tryz.ntmps139
     go_wp2
     go_ret
     exact ⟨rfl,rfl⟩
 · have aH:nameOk s=false:=by unfold nameOk;rw [← hn];simp [h0]
   rw [aH]
   clear aH
   go_enter Tryz.func139,Tryz.ntmps139
   go_wp2
   go_ret
   exact ⟨rfl,rfl⟩
end Go.Proofs.YtihodcnnappkbaaGreatDoor
namespace Go.Proofs.YtihodcnnappkbaaGreatDoor
open Go.RowKit Go.BigFrame
set_option linter.unusedVariables false
set_option linter.unusedSimpArgs false
attribute [local go_sem] run_storeF
theorem refUtf:RefUtf:=fun s w h=>refUtf_calls s w h
theorem SchS.take {w:World} {S:Nat→Prop} {A:Option Addr} {l:List Col} (h:SchS w S A l) (n:Nat):SchS w S A (l.take n):=by
 obtain ⟨xs,hr,hc⟩:=h.ex
 have hl:=h.len
 refine ⟨⟨xs.take (9*n),hr.take _, ?_,fun j hj=>?_⟩,fun a e hn=>h.blk a e (fun e0=>hn (by rw [e0];simp)),by rw [List.length_take];omega⟩
 · rw [List.length_take,List.length_take,hc.1];omega
 · rw [List.length_take] at hj
   obtain ⟨x0,x1,x2,x3,x4,x5,x6,x7,x8,⟨a0,a1,a2,a3,a4,a5,a6,a7,a8⟩,b⟩:=hc.2 j (by omega)
   refine ⟨x0,x1,x2,x3,x4,x5,x6,x7,x8,⟨?_, ?_, ?_, ?_, ?_, ?_, ?_, ?_, ?_⟩,by rw [List.getElem_take];exact b⟩
   all_goals rw [List.getElem?_take,if_pos (by omega)];assumption
theorem nameIn_take (l:List Col) (m:Nat) (h:m<l.length) (s:ByteArray):nameIn ((l.take (m+1)).map Col.name) s=(nameIn ((l.take m).map Col.name) s||decide ((l[m]'h).name=s)):=by
 rw [List.take_succ_eq_append_getElem h,List.map_append]
 exact nameIn_append _ _ _
theorem nameIn_more (l:List Col) (m:Nat) (s:ByteArray) (h:nameIn ((l.take m).map Col.name) s=true):nameIn (l.map Col.name) s=true:=by
 unfold nameIn at *
 rw [List.any_eq_true] at *
 obtain ⟨x,hx,hd⟩:=h
 refine ⟨x, ?_,hd⟩
 rw [List.mem_map] at *
 obtain ⟨c,hc,e⟩:=hx
 exact ⟨c,List.mem_of_mem_take hc,e⟩
theorem zero_at7 (w:World):VaAt w (.agg #[.int .i64 0,.int .i64 0,.float .f64 0,.string ⟨#[]⟩,.slice none 0 0]) vaZero:=(VaS.leaf w (fun _=>True) 0 0 0 ⟨#[]⟩ none 0).at
set_option maxRecDepth 20000 in
set_option maxHeartbeats 4000000 in
theorem refColumn_calls (A:Option Addr) (c:Nat) (l:List Col) (x0 x1 x2 x3 x4 x5 x6 x7 x8:Value) (y:Col) (w:World) (hs:SchS w (fun b=>b<w.heap.size) A l) (ac:ColC w (fun b=>b<w.heap.size) x0 x1 x2 x3 x4 x5 x6 x7 x8 y) (aJ:Tabs w) :
 Calls Tryz.prog 105 #[.slice A l.length c,.agg #[x0,x1,x2,x3,x4,x5,x6,x7,x8]] w fun e w'=>e=.returned (.int .i64 (colCheck (l.map Col.name) y))∧Keeps w w':=by
 obtain ⟨R,hR⟩:∃ R,R=colCheck (l.map Col.name) y:=⟨_,rfl⟩
 rw [← hR]
 unfold colCheck at hR
 have co:=hs.len
 obtain ⟨⟨A2,k2,e2⟩,A8,k8,e8⟩:=ac.form
 have cM:=ac.nm;have b0:=ac.tk;have cE:=ac.hs;have d9:=ac.dk;have dg:=ac.di;have dc:=ac.df;have cP:=ac.dt
 subst cM b0 e2 cE d9 dg dc cP e8
 obtain ⟨W1,ao⟩:∃ W1,W1=w.alloc (.cells #[.string y.name,.int .i64 y.ty.kind,.slice A2 y.ty.of.length k2,.bool y.has,.int .i64 y.dflt.kind,.int .i64 y.dflt.int,.float .f64 y.dflt.fl,.string y.dflt.text,.slice A8 y.dflt.items.length k8] 103):=⟨_,rfl⟩
 have ag:Keeps w W1:=by rw [ao];exact (Keeps.refl w).alloc _
 have dd:W1.heap[w.heap.size]? = some (.cells #[.string y.name,.int .i64 y.ty.kind,.slice A2 y.ty.of.length k2,.bool y.has,.int .i64 y.dflt.kind,.int .i64 y.dflt.int,.float .f64 y.dflt.fl,.string y.dflt.text,.slice A8 y.dflt.items.length k8] 103):=by rw [ao];exact obj_new w _
 have HN:=Hi (refName_calls y.name W1)
 have HR:=Hi hR
 have HS:=Hi hs
 have aM:=Hi ac
 have ch:=Hi aJ
 have cu:=Hi dd
 have ax:=Hi ag
 clear hR hs ac aJ dd ag
 generalize bN:l.length=N at co ⊢
 have HL:=Hi bN
 clear bN
 cases aH:nameOk y.name with
 | false=>
   rw [aH] at HN
   have HE:Hid (R=70):=Hi (by rw [HR.out,if_pos aH])
   clear aH
   go_enter Tryz.func105,Tryz.ntmps105
   go_wp2_with fail
   rw [← ao]
   clear ao
   refine HN.out.mono ?_
   rintro e w1 ⟨rfl,rfl⟩
   go_wp2
   go_ret
   exact ⟨by rw [HE.out];rfl,ax.out⟩
 | true=>
 rw [aH] at HN
 have dF:Hid (R=if nameIn (l.map Col.name) y.name=true then 71 else if tyCheck y.ty 1≠0 then tyCheck y.ty 1
  else if y.has=false then (if Va.same y.dflt vaZero=true then 0 else 80)
  else if vaCheck y.dflt 1≠0 then vaCheck y.dflt 1 else if vaOf y.dflt y.ty=true then 0 else 80):=Hi (by rw [HR.out,if_neg (by rw [aH];simp)])
 clear aH HR
 go_enter Tryz.func105,Tryz.ntmps105
 go_wp2_with fail
 rw [← ao]
 clear ao
 refine HN.out.mono ?_
 rintro e w1 ⟨rfl,rfl⟩
 clear HN
 go_wp2_with fail
 go_loopw [6] (fun j wr=>∃ m:Nat,m≤N∧j=.int .i64 (m:Int)∧nameIn ((l.take m).map Col.name) y.name=false∧Keeps W1 wr) (fun j _=>N-(intOf j).toNat)
 case atStart=>exact ⟨0,Nat.zero_le _,rfl,rfl,Keeps.refl _⟩
 case round=>
  obtain ⟨m,hm,rfl,dl,am⟩:=hrel
  have cI:=(am.below.block _ (obj_lt cu.out)).trans cu.out
  obtain ⟨⟨d0,d1,d2,d3,d4,d5,d6,d7,d8⟩,_⟩:=cells9 cI
  have ur:=obj_lt cI
  have aB:=ax.out.trans am
  by_cases aF:m<N
  · have a9:m<l.length:=by rw [HL.out];exact aF
    obtain ⟨ad,z0,z1,z2,z3,z4,z5,z6,z7,z8,rfl,_,hz,c0,_⟩:=(HS.out.later aB.below).get m a9
    rw [hz.nm] at c0
    have aI:=nameIn_take l m a9 y.name
    rw [dl,Bool.false_or] at aI
    have bC:=nameIn_more l (m+1) y.name
    have aV:=Hi aI
    have eS:=Hi bC
    have dX:=Hi am
    have bo:=Hi aB
    clear aI bC dl hz am aB cI d1 d2 d3 d4 d5 d6 d7 d8
    generalize eM:(l[m]'a9).name=xn at c0 aV
    clear eM a9
    by_cases hq:xn=y.name
    · have q4:(xn.toList==y.name.toList)=true:=by rw [hq];simp
      have HE:Hid (R=71):=Hi (by rw [dF.out,if_pos (eS.out (by rw [aV.out];simpa using hq))])
      clear hq
      go_wp2_with fail
      go_quiet (fail)
      go_wp2
      go_ret
      exact ⟨by rw [HE.out];rfl,bo.out.quiet ⟨_,rfl⟩⟩
    · have q4:(xn.toList==y.name.toList)=false:=texts_ne hq
      have f0:Hid (nameIn ((l.take (m+1)).map Col.name) y.name=false):=Hi (by rw [aV.out];simpa using hq)
      clear hq
      go_wp2_with fail
      go_quiet (fail)
      go_wp2
      exact ⟨⟨m+1,by omega,by go_num,f0.out,dX.out.quiet ⟨_,rfl⟩⟩,by simp [intOf];omega⟩
  · have e:l.take m=l:=List.take_of_length_le (by rw [HL.out];omega)
    rw [e] at dl
    have bq:Hid (R=if tyCheck y.ty 1≠0 then tyCheck y.ty 1
     else if y.has=false then (if Va.same y.dflt vaZero=true then 0 else 80)
     else if vaCheck y.dflt 1≠0 then vaCheck y.dflt 1 else if vaOf y.dflt y.ty=true then 0 else 80):=Hi (by rw [dF.out,if_neg (by rw [dl];simp)])
    have e6:=refCheckType_calls y.ty _ wr (aM.out.ty.later aB.below).at
    have cL:=Hi e6
    have bo:=Hi aB
    have dY:=Hi cI
    clear e dl e6 aB cI am dF
    by_cases cc:tyCheck y.ty 1=0
    case neg=>
     have HE:Hid (R=tyCheck y.ty 1):=Hi (by rw [bq.out,if_pos cc])
     have qe:(tyCheck y.ty 1 != 0)=true:=by simpa using cc
     generalize tyCheck y.ty 1=E at cL HE qe
     clear cc bq
     go_wp2_with fail
     refine cL.out.mono ?_
     rintro e w4 ⟨rfl,cD⟩
     go_wp2
     go_ret
     exact ⟨by rw [HE.out];rfl,bo.out.trans cD⟩
    case pos=>
    have ds:Hid (R=if y.has=false then (if Va.same y.dflt vaZero=true then 0 else 80)
     else if vaCheck y.dflt 1≠0 then vaCheck y.dflt 1 else if vaOf y.dflt y.ty=true then 0 else 80):=Hi (by rw [bq.out,if_neg (by rw [cc];simp)])
    have eO:=Hi cc
    rw [cc] at cL
    clear cc bq
    go_wp2_with fail
    refine cL.out.mono ?_
    rintro e w4 ⟨rfl,cD⟩
    have bE:=(cD.below.block _ (obj_lt dY.out)).trans dY.out
    clear d0 d1 d2 d3 d4 d5 d6 d7 d8 ur
    obtain ⟨⟨d0,d1,d2,d3,d4,d5,d6,d7,d8⟩,_⟩:=cells9 bE
    have u4:=obj_lt bE
    have dG:=Hi bE
    have az:=Hi (bo.out.trans cD)
    clear bE cD cL dY bo
    have bl:=aM.out.dv.later az.out.below
    have bZ:=aM.out.ty.later az.out.below
    cases hh:y.has with
    | false=>
      rw [hh] at d3
      have cs:=refSameValue_calls (SizeOf.sizeOf y.dflt+1) y.dflt vaZero _ _ w4 (by omega) bl.at (zero_at7 w4)
      have bt:Hid (R=if Va.same y.dflt vaZero=true then 0 else 80):=Hi (by rw [ds.out,if_pos hh])
      clear bl bZ ds hh
      cases hs:Va.same y.dflt vaZero with
      | false=>
        rw [hs] at cs
        have HE:Hid (R=80):=Hi (by rw [bt.out,if_neg (by rw [hs];simp)])
        have dL:=Hi cs
        clear cs hs bt
        go_wp2_with fail
        refine dL.out.mono ?_
        rintro e w5 ⟨rfl,aS⟩
        go_wp2
        go_ret
        exact ⟨by rw [HE.out];rfl,az.out.trans aS⟩
      | true=>
        rw [hs] at cs
        have HE:Hid (R=0):=Hi (by rw [bt.out,if_pos hs])
        have dL:=Hi cs
        clear cs hs bt
        go_wp2_with fail
        refine dL.out.mono ?_
        rintro e w5 ⟨rfl,aS⟩
        go_wp2
        go_ret
        exact ⟨by rw [HE.out];rfl,az.out.trans aS⟩
    | true=>
      rw [hh] at d3
      have cr:=refVaCheckTop_calls refUtf y.dflt _ w4 bl.at (ch.out.below az.out.below)
      have bt:Hid (R=if vaCheck y.dflt 1≠0 then vaCheck y.dflt 1 else if vaOf y.dflt y.ty=true then 0 else 80):=Hi (by rw [ds.out,if_neg (by rw [hh];simp)])
      have HH:=Hi hh
      have cR:=Hi bl
      have cQ:=Hi bZ
      clear bl bZ ds hh
      by_cases ce:vaCheck y.dflt 1=0
      case neg=>
       have HE:Hid (R=vaCheck y.dflt 1):=Hi (by rw [bt.out,if_pos ce])
       have qe:(vaCheck y.dflt 1 != 0)=true:=by simpa using ce
       generalize vaCheck y.dflt 1=E at cr HE qe
       have dw:=Hi cr
       clear cr ce bt
       go_wp2_with fail
       refine dw.out.mono ?_
       rintro e w5 ⟨rfl,aS⟩
       go_wp2
       go_ret
       exact ⟨by rw [HE.out];rfl,az.out.trans aS⟩
      case pos=>
      have bF:Hid (R=if vaOf y.dflt y.ty=true then 0 else 80):=Hi (by rw [bt.out,if_neg (by rw [ce];simp)])
      rw [ce] at cr
      have dw:=Hi cr
      have eZ:=Hi ce
      clear cr ce bt
      go_wp2_with fail
      refine dw.out.mono ?_
      rintro e w5 ⟨rfl,aS⟩
      have bV:=(aS.below.block _ (obj_lt dG.out)).trans dG.out
      have ca:=refIs_calls refUtf y.dflt y.ty _ _ w5 (cR.out.later aS.below).at (cQ.out.later aS.below).at ((ch.out.below az.out.below).below aS.below)
      rw [eO.out,eZ.out,decide_eq_true rfl,Bool.true_and,Bool.true_and] at ca
      clear d0 d1 d2 d3 d4 d5 d6 d7 d8 u4
      obtain ⟨⟨d0,d1,d2,d3,d4,d5,d6,d7,d8⟩,_⟩:=cells9 bV
      rw [HH.out] at d3
      have u5:=obj_lt bV
      have cC:=Hi (az.out.trans aS)
      clear bV aS dG az dw cR cQ
      cases hs:vaOf y.dflt y.ty with
      | false=>
        rw [hs] at ca
        have HE:Hid (R=80):=Hi (by rw [bF.out,if_neg (by rw [hs];simp)])
        have dR:=Hi ca
        clear ca hs bF
        go_wp2_with fail
        refine dR.out.mono ?_
        rintro e w6 ⟨rfl,bs⟩
        go_wp2
        go_ret
        exact ⟨by rw [HE.out];rfl,cC.out.trans bs⟩
      | true=>
        rw [hs] at ca
        have HE:Hid (R=0):=Hi (by rw [bF.out,if_pos hs])
        have dR:=Hi ca
        clear ca hs bF
        go_wp2_with fail
        refine dR.out.mono ?_
        rintro e w6 ⟨rfl,bs⟩
        go_wp2
        go_ret
        exact ⟨by rw [HE.out];rfl,cC.out.trans bs⟩
end Go.Proofs.YtihodcnnappkbaaGreatDoor
namespace Go.Proofs.YtihodcnnappkbaaGreatDoor
open Go.RowKit Go.BigFrame
set_option linter.unusedVariables false
set_option linter.unusedSimpArgs false
structure NewB (w:World) (l:List UInt8) (e:Ending) (w':World):Prop where
 ex:∃ v,e=.returned v∧OwnB 5 w' w.heap.size v l∧Keeps w w'
theorem OwnB.named {e:TypeId} {w:World} {base:Nat} {v:Value} {l l':List UInt8} (h:OwnB e w base v l) (hl:l=l'):∃ A M c,v=.slice A M c∧OwnB e w base (.slice A M c) l':=by
 obtain ⟨A,c,rfl,_⟩:=h.form
 exact ⟨A,_,c,rfl,hl▸h⟩
theorem OwnB.seen {e:TypeId} {w:World} {base:Nat} {v:Value} {l:List UInt8} (h:OwnB e w base v l):∃ A M c,v=.slice A M c∧Hid (l.length=M)∧Hid (Reads w A l):=by
 obtain ⟨A,c,rfl,_,hr,_⟩:=h.form
 exact ⟨A,_,c,rfl,Hi rfl,Hi hr⟩
set_option maxRecDepth 10000 in
set_option maxHeartbeats 1000000 in
theorem refTypeBytes_calls (n:Nat):∀ (t:Ty) (d:Nat) (tv:Value) (w:World),n+d=5→tyCheck t d=0→TyAt w tv t →
 Calls Tryz.prog 144 #[tv] w (NewB w (putTy t)):=by
 induction n with
 | zero=>intro t d tv w hd h;cases t;have:=(tyCheck_ok h).1;omega
 | succ n ih=>
   intro t d tv w hd bp ht
   cases t with
   | mk k ts=>
     obtain ⟨_,ag,f5,ei,aH⟩:=tyCheck_ok bp
     obtain ⟨B,cB,rfl⟩:=ht.form
     change TyAt w (.agg #[.int .i64 k,.slice B ts.length cB]) _ at ht
     change Calls _ _ #[.agg #[.int .i64 k,.slice B ts.length cB]] _ _
     have av:putTy (.mk k ts)=UInt8.ofNat k.toNat :: if k=6∨k=7 then putTyHead ts else []:=by rw [putTy]
     generalize hR:putTy (.mk k ts)=R at av
     obtain ⟨W0,ab⟩:∃ W0,W0=(w.alloc (.cells #[.int .i64 k,.slice B ts.length cB] 97)).alloc (.cells #[.int .u8 k] 5):=⟨_,rfl⟩
     have aj:Keeps w W0:=by rw [ab];exact ((Keeps.refl w).alloc _).alloc _
     have aE:W0.heap.size=w.heap.size+1+1:=by rw [ab];simp
     have ay:W0.heap[w.heap.size]? = some (.cells #[.int .i64 k,.slice B ts.length cB] 97):=by rw [ab];exact obj_old (obj_new w _) _
     have aB:IntKind.u8.wrap k=k:=by simp [IntKind.wrap,IntKind.bits,IntKind.signed];omega
     have bH:OwnB 5 W0 w.heap.size (.slice (some ⟨w.heap.size+1,0,none⟩) 1 1) [UInt8.ofNat k.toNat]:=by
      have h:=OwnB.lit 5 (w.alloc (.cells #[.int .i64 k,.slice B ts.length cB] 97)) w.heap.size [UInt8.ofNat k.toNat] #[.int .u8 k] (by show [Value.int .u8 k]=[Value.int .u8 (((UInt8.ofNat k.toNat).toNat:Nat):Int)];rw [u8_of k (by omega) (by omega)]) (by simp) (by simp)
      rw [← ab] at h
      simpa using h
     have bK:∀ t,ts=[t]→∃ ad k' A2 n2 c2,B=some ad∧w.cell? ad=some (.int .i64 k')∧w.cell? ⟨ad.block,ad.off+1,none⟩=some (.slice A2 n2 c2)∧ad.block<w.heap.size∧TyAt W0 (.agg #[.int .i64 k',.slice A2 n2 c2]) t:=by
      intro t e
      subst e
      obtain ⟨ad,k',s',e,aF,x0,x1,bc⟩:=(TyS.of_at ht).elem
      obtain ⟨A3,c3,n3,rfl⟩:∃ A3 c3 n3,s'=Value.slice A3 n3 c3:=by
       obtain ⟨A3,c3,e⟩:=bc.form
       simp only [Value.agg.injEq,Array.mk.injEq,List.cons.injEq] at e
       exact ⟨A3,c3,_,e.2.1⟩
      exact ⟨ad,k',A3,n3,c3,e,x0,x1,aF,(bc.later aj.below).at⟩
     have dB:=Hi bK
     have HO:=Hi bH
     have an:=Hi aj
     have al:=Hi ay
     have dA:=Hi aE
     have dz:=Hi ei
     have ek:=Hi aH
     have IH:=Hi ih
     have HP:=Hi av
     clear ih bp ht bH aj ay aE ei aH av hR bK
     generalize hN:ts.length=N at al ab
     have HN:=Hi hN
     clear hN
     by_cases hk:k=6∨k=7
     · obtain ⟨t,rfl,dy⟩:=dz.out hk
       have HE:Hid (R=UInt8.ofNat k.toNat :: putTy t):=Hi (by rw [HP.out,if_pos hk,putTyHead])
       obtain rfl:N=1:=HN.out.symm
       obtain ⟨ad,k',A2,n2,c2,rfl,x0,x1,aF,bc⟩:=dB.out t rfl
       have hc:=IH.out t (d+1) _ W0 (by omega) dy bc
       have HC:=Hi hc
       have cw:=putTy_length n t (d+1) (by omega) dy
       generalize putTy t=T at HE HC cw
       have bx:=Hi cw
       clear hc bc IH dy HP dB ek dz cw
       rcases hk with rfl | rfl
       all_goals
        go_enter Tryz.func144,Tryz.ntmps144
        go_wp2_with fail
        rw [← ab]
        clear ab x0 x1
        refine HC.out.mono ?_
        rintro e w2 ⟨v2,rfl,ae,ai⟩
        obtain ⟨A3,c3,rfl,_,ez,_⟩:=ae.form
        have bq:=Hi ez
        have aA:=Hi (an.out.trans ai)
        have bm:=Hi (HO.out.below ai)
        clear ae ai ez
        generalize hM:T.length=M
        have HM:=Hi hM
        clear hM
        go_wp2_with (at_builtin;refine wpList_append_bytes (w0:=w) w.heap.size rfl _ _ 31 5 rfl Tryz.underlying31 info_u8b _ [UInt8.ofNat (Int.toNat _)] T rfl bm.out A3 c3 (by rw [HM.out];rfl) bq.out ?c2 aA.out.size aA.out ?_)
        case c2=>have:=bx.out;simp;omega
        intro v3 w3 aq aP _ _
        have cm:=Hi aq
        have aG:=Hi aP
        clear aq aP
        obtain ⟨A4,c4,rfl,_⟩:=cm.out.form
        generalize f8:([UInt8.ofNat (Int.toNat _)]++T).length=M2 at *
        go_wp2
        go_ret
        exact ⟨_,rfl,by rw [HE.out];exact cm.out,aG.out⟩
     · have HE:Hid (R=[UInt8.ofNat k.toNat]):=Hi (by rw [HP.out,if_neg hk])
       have q6:(k==6)=false:=by rw [beq_eq_false_iff_ne];omega
       have q7:(k==7)=false:=by rw [beq_eq_false_iff_ne];omega
       clear hk IH HP dB ek dz
       go_enter Tryz.func144,Tryz.ntmps144
       go_wp2
       go_ret
       refine ⟨_,rfl, ?_, ?_⟩
       · rw [HE.out,← ab];exact HO.out
       · rw [← ab];exact an.out
end Go.Proofs.YtihodcnnappkbaaGreatDoor
namespace Go.Proofs.YtihodcnnappkbaaGreatDoor
open Go.RowKit Go.BigFrame
set_option linter.unusedVariables false
set_option linter.unusedSimpArgs false
attribute [local go_sem] run_storeF
theorem vaOwn_bool {i:Int} {f:Nat} {t:ByteArray} {l:List Va} (h:vaOwn (.mk 1 i f t l)=true):i=0∨i=1:=by
 rw [vaOwn] at h
 simp at h
 omega
theorem vaOwn_opt {i:Int} {f:Nat} {t:ByteArray} {l:List Va} (h:vaOwn (.mk 6 i f t l)=true):l.length=0∨l.length=1:=by
 rw [vaOwn] at h
 simp at h
 omega
theorem vaOwn_kind {k i:Int} {f:Nat} {t:ByteArray} {l:List Va} (h:vaOwn (.mk k i f t l)=true):1≤k∧k≤7:=by
 rw [vaOwn] at h
 by_cases h1:1≤k <;> by_cases h7:k≤7
 · exact ⟨h1,h7⟩
 all_goals
  exfalso
  simp only [show ¬k=1 by omega,show ¬k=2 by omega,show ¬k=3 by omega,show ¬k=4 by omega,show ¬k=5 by omega,show ¬k=6 by omega,show ¬k=7 by omega] at h
  simp at h
set_option maxRecDepth 10000 in
set_option maxHeartbeats 1000000 in
theorem refVaB_one (i:Int) (hi:i=0∨i=1) (f:Nat) (t:ByteArray) (B:Option Addr) (nb cb:Nat) (w:World) :
 Calls Tryz.prog 146 #[.agg #[.int .i64 1,.int .i64 i,.float .f64 f,.string t,.slice B nb cb]] w (NewB w [if i=1 then 1 else 0]):=by
 obtain ⟨W0,ab⟩:∃ W0,W0=(w.alloc (.cells #[.int .i64 1,.int .i64 i,.float .f64 f,.string t,.slice B nb cb] 101)).alloc (.cells #[.int .u8 i] 5):=⟨_,rfl⟩
 have aj:Keeps w W0:=by rw [ab];exact ((Keeps.refl w).alloc _).alloc _
 obtain ⟨y,hy⟩:∃ y:UInt8,y=if i=1 then 1 else 0:=⟨_,rfl⟩
 rw [← hy]
 have aa:OwnB 5 W0 w.heap.size (.slice (some ⟨w.heap.size+1,0,none⟩) 1 1) [y]:=by
  have h:=OwnB.lit 5 (w.alloc (.cells #[.int .i64 1,.int .i64 i,.float .f64 f,.string t,.slice B nb cb] 101)) w.heap.size [y] #[.int .u8 i] (by rw [hy];rcases hi with rfl | rfl <;> rfl) (by simp) (by simp)
  rw [← ab] at h
  simpa using h
 have hw:IntKind.u8.wrap i=i:=by rcases hi with rfl | rfl <;> rfl
 have HO:=Hi aa
 have an:=Hi aj
 have dx:=Hi ab
 clear aa aj hi ab hy
 go_enter Tryz.func146,Tryz.ntmps146
 go_wp2
 go_ret
 refine ⟨_,rfl, ?_, ?_⟩
 · rw [← dx.out];exact HO.out
 · rw [← dx.out];exact an.out
set_option maxRecDepth 10000 in
set_option maxHeartbeats 1000000 in
theorem refVaB_two (i:Int) (e7:-9223372036854775808≤i) (ea:i≤9223372036854775807) (f:Nat) (t:ByteArray) (B:Option Addr) (nb cb:Nat) (w:World) :
 Calls Tryz.prog 146 #[.agg #[.int .i64 2,.int .i64 i,.float .f64 f,.string t,.slice B nb cb]] w (NewB w (leb (zig i))):=by
 obtain ⟨W0,ab⟩:∃ W0,W0=w.alloc (.cells #[.int .i64 2,.int .i64 i,.float .f64 f,.string t,.slice B nb cb] 101):=⟨_,rfl⟩
 have aj:Keeps w W0:=by rw [ab];exact (Keeps.refl w).alloc _
 have HZ:=Hi (ref3Zig_calls i e7 ea W0)
 have HP:=Hi (ref3Put_calls (zig i) (zig_lt e7 ea) W0)
 have an:=Hi aj
 clear aj
 go_enter Tryz.func146,Tryz.ntmps146
 go_wp2_with fail
 rw [← ab]
 clear ab
 refine HZ.out.mono ?_
 rintro e w1 ⟨rfl,rfl⟩
 go_wp2_with fail
 refine HP.out.mono ?_
 rintro e w1 ⟨v1,rfl,af,ag⟩
 have HO:=Hi (af.weaken an.out.size)
 have ax:=Hi (an.out.trans ag)
 clear af ag
 go_wp2
 go_ret
 exact ⟨v1,rfl,HO.out,ax.out⟩
set_option maxRecDepth 10000 in
set_option maxHeartbeats 1000000 in
theorem refVaB_three (i:Int) (f:Nat) (hf:f<18446744073709551616) (t:ByteArray) (B:Option Addr) (nb cb:Nat) (w:World) :
 Calls Tryz.prog 146 #[.agg #[.int .i64 3,.int .i64 i,.float .f64 f,.string t,.slice B nb cb]] w (NewB w (le8 (fbits f))):=by
 obtain ⟨W0,ab⟩:∃ W0,W0=w.alloc (.cells #[.int .i64 3,.int .i64 i,.float .f64 f,.string t,.slice B nb cb] 101):=⟨_,rfl⟩
 have aj:Keeps w W0:=by rw [ab];exact (Keeps.refl w).alloc _
 have hN:fbits f<18446744073709551616:=by unfold fbits;split <;> omega
 have HC:=Hi (refBits_calls f W0)
 have an:=Hi aj
 clear aj
 generalize fbits f=N at HC hN ⊢
 go_enter Tryz.func146,Tryz.ntmps146
 go_wp2_with fail
 rw [← ab]
 clear ab
 refine HC.out.mono ?_
 rintro e w1 ⟨rfl,rfl⟩
 clear HC
 go_wp2_with fail
 go_loopw [3,5,6] (fun b x j wr=>∃ (k:Nat) (A':Option Addr) (c':Nat),k≤8∧j=.int .i64 (k:Int)∧x=.int .u64 ((N / 256 ^ k:Nat):Int)∧b=.slice A' k c'∧OwnB 5 wr w.heap.size (.slice A' k c') ((le8 N).take k)∧Keeps w wr) (fun _ _ j _=>8-(intOf j).toNat)
 case atStart=>exact ⟨0,none,0,by omega,rfl,by simp,rfl,OwnB.nil _ _ _,an.out⟩
 case round=>
  obtain ⟨k,A',c',hk,rfl,rfl,rfl,aa,am⟩:=hrel
  have HO:=Hi aa
  have HK:=Hi am
  clear aa am
  by_cases aF:k<8
  · have HT:=Hi (le8_take N k aF)
    have bS:N / 256 ^ (k+1)=N / 256 ^ k / 256:=by rw [Nat.pow_succ,Nat.div_div_eq_div_mul]
    have hM:N / 256 ^ k<18446744073709551616:=Nat.lt_of_le_of_lt (Nat.div_le_self _ _) hN
    generalize N / 256 ^ k=M at HT bS hM
    have HD:=Hi bS
    clear bS
    obtain ⟨W1,ao⟩:∃ W1,W1=wr.alloc (.cells #[.int .u8 ((M:Int) % 256)] 5):=⟨_,rfl⟩
    have ag:Keeps wr W1:=by rw [ao];exact (Keeps.refl wr).alloc _
    have bD:Reads W1 (some ⟨wr.heap.size,0,none⟩) [UInt8.ofNat (M % 256)]:=by
     rw [ao];exact Reads.new _ _ _ _ _ (by show [Value.int .u8 ((M:Int) % 256)]=[Value.int .u8 (((UInt8.ofNat (M % 256)).toNat:Nat):Int)];rw [byte_of])
    have f7:IntKind.u8.wrap ((M:Int) % 256)=(M:Int) % 256:=by simp [IntKind.wrap,IntKind.bits,IntKind.signed]
    have ax:=Hi (HK.out.trans ag)
    have bw:=Hi (HO.out.below ag)
    have cK:=Hi bD
    have cV:=Hi ao
    clear ag bD ao
    go_wp2_with (at_builtin;rw [← cV.out];refine wpList_append_bytes (w0:=w) w.heap.size rfl _ _ 31 5 rfl Tryz.underlying31 info_u8b (.slice A' k c') ((le8 N).take k) [UInt8.ofNat (M % 256)] rfl bw.out (some ⟨wr.heap.size,0,none⟩) 1 rfl cK.out ?c2 ax.out.size ax.out ?_)
    case c2=>rw [List.length_take,le8_length];simp;omega
    intro v2 w2 ae bY _ _
    have eI:((le8 N).take k++[UInt8.ofNat (M % 256)]).length=k+1:=by
     rw [List.length_append,List.length_take,le8_length];simp;omega
    obtain ⟨A2,c2,e2,_⟩:=ae.form
    rw [eI] at e2
    subst e2
    rw [← HT.out] at ae
    have bm:=Hi ae
    have aO:=Hi bY
    clear ae bY eI
    go_wp2
    exact ⟨⟨k+1,A2,c2,by omega,by go_num,by rw [HD.out];go_num,rfl,bm.out,aO.out⟩,by simp [intOf];omega⟩
  · have h8:k=8:=by omega
    subst h8
    have e8:(le8 N).take 8=le8 N:=List.take_of_length_le (by rw [le8_length];exact Nat.le_refl _)
    rw [e8] at HO
    clear e8
    go_wp2
    go_ret
    exact ⟨_,rfl,HO.out,HK.out⟩
set_option maxRecDepth 10000 in
set_option maxHeartbeats 1000000 in
theorem refVaB_text (k:Int) (hk:k=4∨k=5) (i:Int) (f:Nat) (t:ByteArray) (ht:t.size≤1024) (B:Option Addr) (nb cb:Nat) (w:World) :
 Calls Tryz.prog 146 #[.agg #[.int .i64 k,.int .i64 i,.float .f64 f,.string t,.slice B nb cb]] w (NewB w (textBytes t)):=by
 obtain ⟨W0,ab⟩:∃ W0,W0=w.alloc (.cells #[.int .i64 k,.int .i64 i,.float .f64 f,.string t,.slice B nb cb] 101):=⟨_,rfl⟩
 have aj:Keeps w W0:=by rw [ab];exact (Keeps.refl w).alloc _
 have ay:W0.heap[w.heap.size]? = some (.cells #[.int .i64 k,.int .i64 i,.float .f64 f,.string t,.slice B nb cb] 101):=by rw [ab];exact obj_new w _
 have HP:=Hi (ref3Put_calls t.size (by omega) W0)
 have dU:=Hi (leb_le t.size (by omega))
 have an:=Hi aj
 have al:=Hi ay
 clear aj ay
 rcases hk with rfl | rfl
 all_goals
  go_enter Tryz.func146,Tryz.ntmps146
  go_wp2_with fail
  rw [← ab]
  clear ab
  refine HP.out.mono ?_
  rintro e w1 ⟨v1,rfl,af,ag⟩
  have aw:=(ag.below.block _ (obj_lt al.out)).trans al.out
  obtain ⟨d0,d1,d2,d3,d4,_⟩:=cells5 aw
  have u1:=obj_lt aw
  have HO:=Hi (af.weaken an.out.size)
  have ax:=Hi (an.out.trans ag)
  clear af ag aw
  obtain ⟨A1,c1,rfl,_⟩:=HO.out.form
  generalize hm:(leb t.size).length=m at HO
  have HM:=Hi hm
  clear hm
  go_wp2_with (at_builtin;refine wpList_append_text w.heap.size rfl _ _ 31 9 5 rfl Tryz.underlying31 Tryz.underlying9 info_u8b (.slice A1 m c1) (leb t.size) rfl HO.out t rfl ?d1 ax.out.size ?_)
  case d1=>have:=dU.out;omega
  intro v2 w2 ae ed _
  have bm:=Hi ae
  have aA:=Hi (ax.out.trans' ed fun j e=>HO.out.ge j e)
  clear ae ed
  go_wp2
  go_ret
  exact ⟨v2,rfl,bm.out,aA.out⟩
def RefPutV (n:Nat):Prop:=∀ (x:Va) (xv:Value) (d:Nat) (w:World),SizeOf.sizeOf x<n→x.wf→vaCheck x d=0→VaAt w xv x→(putVa x).length≤140737488355000 →
    Calls Tryz.prog 146 #[xv] w (NewB w (putVa x))
set_option maxRecDepth 10000 in
set_option maxHeartbeats 4000000 in
theorem refVaB_items (k:Int) (hk:k=6∨k=7) (n:Nat) (ih:RefPutV n) (i:Int) (f:Nat) (t:ByteArray) (B:Option Addr) (cb d:Nat) (items:List Va) (w:World)
 (hn:SizeOf.sizeOf (Va.mk k i f t items)<n+1) (cp:(Va.mk k i f t items).wf) (cj:vaCheck (.mk k i f t items) d=0) (hv:VaAt w (.agg #[.int .i64 k,.int .i64 i,.float .f64 f,.string t,.slice B items.length cb]) (.mk k i f t items)) (ap:(putVa (.mk k i f t items)).length≤140737488355000) :
 Calls Tryz.prog 146 #[.agg #[.int .i64 k,.int .i64 i,.float .f64 f,.string t,.slice B items.length cb]] w (NewB w (putVa (.mk k i f t items))):=by
 obtain ⟨W0,ab⟩:∃ W0,W0=w.alloc (.cells #[.int .i64 k,.int .i64 i,.float .f64 f,.string t,.slice B items.length cb] 101):=⟨_,rfl⟩
 have aj:Keeps w W0:=by rw [ab];exact (Keeps.refl w).alloc _
 have ay:W0.heap[w.heap.size]? = some (.cells #[.int .i64 k,.int .i64 i,.float .f64 f,.string t,.slice B items.length cb] 101):=by rw [ab];exact obj_new w _
 obtain ⟨_,cJ,_,cO,_,eC⟩:=vaCheck_ok cj
 have cz:Va.wfs items:=by rw [Va.wf] at cp;exact cp.2.2.2
 obtain ⟨head,ak⟩:∃ head,head=if k=6 then [if items.length=1 then (1:UInt8) else 0] else leb items.length:=⟨_,rfl⟩
 have av:putVa (.mk k i f t items)=head++putVas items:=by
  rw [putVa,ak]
  simp only [show ¬k=1 by omega,show ¬k=2 by omega,show ¬k=3 by omega,show ¬(k=4∨k=5) by omega,if_false]
  split <;> simp
 generalize hP:putVa (.mk k i f t items)=P at av ap ⊢
 have aC:head.length+(putVas items).length≤140737488355000:=by
  rw [av,List.length_append] at ap
  omega
 have ev:head.length≤10:=by
  rw [ak]
  split
  · simp
  · exact leb_le _ (by omega)
 have dh:k=6→items.length=0∨items.length=1:=fun e=>by subst e;exact vaOwn_opt cJ
 clear hP ap
 have HV:=Hi hv
 have al:=Hi ay
 have an:=Hi aj
 have bX:=Hi av
 have er:=Hi cz
 have br:=Hi hn
 have IH:=Hi ih
 have aL:=Hi aC
 have dZ:=Hi ev
 have eb:=Hi eC
 have bh:=Hi dh
 clear hv ay aj av cz cp hn ih aC eC cJ cj dh ev
 generalize hN:items.length=N at cO HV al ab ak bh ⊢
 have HN:=Hi hN
 clear hN
 rcases hk with rfl | rfl
 · rw [if_pos rfl] at ak
   rcases bh.out rfl with h | h
   · subst h
     have cT:head=[0]:=by rw [ak];rfl
     have HH:=Hi cT
     clear ak cT bh
     obtain ⟨W1,ao⟩:∃ W1,W1=W0.alloc (.cells #[.int .u8 0] 5):=⟨_,rfl⟩
     have ag:Keeps w W1:=by rw [ao];exact an.out.alloc _
     have bD:Reads W1 (some ⟨w.heap.size+1,0,none⟩) [0]:=by rw [ao];exact Reads.new_at _ _ _ _ _ rfl _ (by rw [ab];simp)
     have aw:W1.heap[w.heap.size]? = some (.cells #[.int .i64 6,.int .i64 i,.float .f64 f,.string t,.slice B 0 cb] 101):=by rw [ao];exact obj_old al.out _
     have b6:=Hi ag
     have cK:=Hi bD
     have bd:=Hi aw
     have cV:Hid (W1=(w.alloc (.cells #[.int .i64 6,.int .i64 i,.float .f64 f,.string t,.slice B 0 cb] 101)).alloc (.cells #[.int .u8 0] 5)):=Hi (by rw [ao,ab])
     clear ag bD aw ao ab
     go_enter Tryz.func146,Tryz.ntmps146
     go_wp2_with (first | (go_at_call 145;refine (refFlag_calls _ _).mono ?_;rintro e w1 ⟨rfl,rfl⟩) | (at_builtin;rw [← cV.out];refine wpList_append_bytes (w0:=w) w.heap.size rfl _ _ 31 5 rfl Tryz.underlying31 info_u8b (.slice none 0 0) [] [0] rfl (OwnB.nil _ _ _) (some ⟨w.heap.size+1,0,none⟩) 1 rfl cK.out (by simp) b6.out.size b6.out ?_))
     intro v1 w1 af aZ cY _
     have bj:=(cY.block _ (obj_lt bd.out) (by simp [Value.ownBlock])).trans bd.out
     obtain ⟨A1,M1,c1,rfl,ah⟩:=af.named (l':=head) (by rw [HH.out])
     have bw:=Hi ah
     have aT:=Hi bj
     have ax:Hid (Keeps w w1):=Hi aZ
     clear af ah bj aZ cY
     go_wp2_with fail
     go_loopw [3,7] (fun b j wr=>∃ (m:Nat) (A':Option Addr) (c' M:Nat),m≤0∧j=.int .i64 (m:Int)∧b=.slice A' M c'∧OwnB 5 wr w.heap.size (.slice A' M c') (head++putVas (items.take m))∧wr.heap[w.heap.size]? = some (.cells #[.int .i64 6,.int .i64 i,.float .f64 f,.string t,.slice B 0 cb] 101)∧Keeps w wr) (fun _ j _=>0-(intOf j).toNat)
     case atStart=>exact ⟨0,_,_,_,Nat.zero_le _,rfl,rfl,by simpa [putVas] using bw.out,aT.out,ax.out⟩
     case round=>
      obtain ⟨m,A',c',M,hm,rfl,rfl,aa,aK,am⟩:=hrel
      obtain ⟨d0,d1,d2,d3,d4,_⟩:=cells5 aK
      have u1:=obj_lt aK
      by_cases aF:m<0
      · exact absurd aF (by omega)
      · have e:items.take m=items:=List.take_of_length_le (by rw [HN.out];omega)
        rw [e,← bX.out] at aa
        have HO:=Hi aa
        have HK:=Hi am
        clear aa am e aK
        go_wp2
        go_ret
        exact ⟨_,rfl,HO.out,HK.out⟩
   · subst h
     have cT:head=[1]:=by rw [ak];rfl
     have HH:=Hi cT
     clear ak cT bh
     obtain ⟨W1,ao⟩:∃ W1,W1=W0.alloc (.cells #[.int .u8 1] 5):=⟨_,rfl⟩
     have ag:Keeps w W1:=by rw [ao];exact an.out.alloc _
     have bD:Reads W1 (some ⟨w.heap.size+1,0,none⟩) [1]:=by rw [ao];exact Reads.new_at _ _ _ _ _ rfl _ (by rw [ab];simp)
     have aw:W1.heap[w.heap.size]? = some (.cells #[.int .i64 6,.int .i64 i,.float .f64 f,.string t,.slice B 1 cb] 101):=by rw [ao];exact obj_old al.out _
     have b6:=Hi ag
     have cK:=Hi bD
     have bd:=Hi aw
     have cV:Hid (W1=(w.alloc (.cells #[.int .i64 6,.int .i64 i,.float .f64 f,.string t,.slice B 1 cb] 101)).alloc (.cells #[.int .u8 1] 5)):=Hi (by rw [ao,ab])
     clear ag bD aw ao ab
     go_enter Tryz.func146,Tryz.ntmps146
     go_wp2_with (first | (go_at_call 145;refine (refFlag_calls _ _).mono ?_;rintro e w1 ⟨rfl,rfl⟩) | (at_builtin;rw [← cV.out];refine wpList_append_bytes (w0:=w) w.heap.size rfl _ _ 31 5 rfl Tryz.underlying31 info_u8b (.slice none 0 0) [] [1] rfl (OwnB.nil _ _ _) (some ⟨w.heap.size+1,0,none⟩) 1 rfl cK.out (by simp) b6.out.size b6.out ?_))
     intro v1 w1 af aZ cY _
     have bj:=(cY.block _ (obj_lt bd.out) (by simp [Value.ownBlock])).trans bd.out
     obtain ⟨A1,M1,c1,rfl,ah⟩:=af.named (l':=head) (by rw [HH.out])
     have bw:=Hi ah
     have aT:=Hi bj
     have ax:Hid (Keeps w w1):=Hi aZ
     clear af ah bj aZ cY
     go_wp2_with fail
     go_loopw [3,7] (fun b j wr=>∃ (m:Nat) (A':Option Addr) (c' M:Nat),m≤1∧j=.int .i64 (m:Int)∧b=.slice A' M c'∧OwnB 5 wr w.heap.size (.slice A' M c') (head++putVas (items.take m))∧wr.heap[w.heap.size]? = some (.cells #[.int .i64 6,.int .i64 i,.float .f64 f,.string t,.slice B 1 cb] 101)∧Keeps w wr) (fun _ j _=>1-(intOf j).toNat)
     case atStart=>exact ⟨0,_,_,_,Nat.zero_le _,rfl,rfl,by simpa [putVas] using bw.out,aT.out,ax.out⟩
     case round=>
      obtain ⟨m,A',c',M,hm,rfl,rfl,aa,aK,am⟩:=hrel
      obtain ⟨d0,d1,d2,d3,d4,_⟩:=cells5 aK
      have u1:=obj_lt aK
      by_cases aF:m<1
      · have a9:m<items.length:=by rw [HN.out];exact aF
        obtain ⟨ad,A2,c2,rfl,_,x0,x1,x2,x3,x4,bK⟩:=(VaS.of_at (HV.out.later am.below)).elem m a9
        have aI:=putVas_take items m a9
        have aU:=putVas_le items (m+1)
        rw [aI,List.length_append] at aU
        have cW:SizeOf.sizeOf (items[m]'a9)<n:=by
         have h1:=List.sizeOf_lt_of_mem (List.getElem_mem a9)
         have h2:=br.out
         simp only [Va.mk.sizeOf_spec] at h2
         omega
        have hc:=IH.out (items[m]'a9) _ (d+1) wr cW (Va.wfs_get items m a9 er.out) (vaChecks_get items _ m a9 eb.out) bK.at (by have h1:=aL.out;omega)
        have aV:=Hi aI
        have aQ:=Hi aU
        clear bK aI cW aU
        obtain ⟨x,hx⟩:∃ x,x=items[m]'a9:=⟨_,rfl⟩
        rw [← hx] at x0 x1 x2 x3 x4 hc aV aQ
        have HC:=Hi hc
        have HO:=Hi aa
        have cN:=Hi aK
        have HK:=Hi am
        clear hc aa aK am hx a9
        generalize x.items.length=nx at x4 HC
        generalize x.kind=kx at x0 HC
        generalize x.int=ix at x1 HC
        generalize x.fl=fx at x2 HC
        generalize x.text=tx at x3 HC
        go_wp2_with fail
        refine HC.out.mono ?_
        rintro e w2 ⟨v2,rfl,ae,ai⟩
        obtain ⟨A3,M3,c3,rfl,dN,bq⟩:=ae.seen
        have aA:=Hi (HK.out.trans ai)
        have bm:=Hi (HO.out.below ai)
        have aO:=Hi ((ai.below.block _ (obj_lt cN.out)).trans cN.out)
        clear ae ai HC d0 d1 d2 d3 d4 u1 x0 x1 x2 x3 x4
        go_wp2_with (at_builtin;refine wpList_append_bytes (w0:=w) w.heap.size rfl _ _ 31 5 rfl Tryz.underlying31 info_u8b (.slice A' M c') (head++putVas (items.take m)) (putVa x) rfl bm.out A3 c3 (by rw [dN.out];rfl) bq.out ?c2 aA.out.size aA.out ?_)
        case c2=>have:=aQ.out;have:=aL.out;have:=dZ.out;rw [List.length_append];omega
        intro v3 w3 aq aP de _
        have bi:=(de.block _ (obj_lt aO.out) (fun e=>own_obj_ne bm.out aO.out (by decide) e.symm)).trans aO.out
        obtain ⟨A4,M4,c4,rfl,ar⟩:=aq.named (l':=head++putVas (items.take (m+1))) (by rw [aV.out];try simp only [List.append_assoc])
        have cm:=Hi ar
        have aG:=Hi aP
        have cf:=Hi bi
        clear aq ar aP de bi
        go_wp2
        exact ⟨⟨m+1,A4,c4,_,by omega,by go_num,rfl,cm.out,cf.out,aG.out⟩,by simp [intOf];omega⟩
      · have e:items.take m=items:=List.take_of_length_le (by rw [HN.out];omega)
        rw [e,← bX.out] at aa
        have HO:=Hi aa
        have HK:=Hi am
        clear aa am e aK
        go_wp2
        go_ret
        exact ⟨_,rfl,HO.out,HK.out⟩
 · rw [if_neg (by omega)] at ak
   have HH:=Hi ak
   have HP:=Hi (ref3Put_calls N (by omega) W0)
   clear ak bh
   go_enter Tryz.func146,Tryz.ntmps146
   go_wp2_with fail
   rw [← ab]
   clear ab
   refine HP.out.mono ?_
   rintro e w1 ⟨v1,rfl,af,ag⟩
   obtain ⟨A1,M1,c1,rfl,ah⟩:=af.named HH.out.symm
   have bw:=Hi (ah.weaken an.out.size)
   have aT:=Hi ((ag.below.block _ (obj_lt al.out)).trans al.out)
   have ax:=Hi (an.out.trans ag)
   clear af ah ag HP
   obtain ⟨d0,d1,d2,d3,d4,_⟩:=cells5 aT.out
   have u1:=obj_lt aT.out
   go_wp2_with fail
   clear d0 d1 d2 d3 d4 u1
   go_loopw [3,7] (fun b j wr=>∃ (m:Nat) (A':Option Addr) (c' M:Nat),m≤N∧j=.int .i64 (m:Int)∧b=.slice A' M c'∧OwnB 5 wr w.heap.size (.slice A' M c') (head++putVas (items.take m))∧wr.heap[w.heap.size]? = some (.cells #[.int .i64 7,.int .i64 i,.float .f64 f,.string t,.slice B N cb] 101)∧Keeps w wr) (fun _ j _=>N-(intOf j).toNat)
   case atStart=>exact ⟨0,_,_,_,Nat.zero_le _,rfl,rfl,by simpa [putVas] using bw.out,aT.out,ax.out⟩
   case round=>
    obtain ⟨m,A',c',M,hm,rfl,rfl,aa,aK,am⟩:=hrel
    obtain ⟨d0,d1,d2,d3,d4,_⟩:=cells5 aK
    have u1:=obj_lt aK
    by_cases aF:m<N
    · have a9:m<items.length:=by rw [HN.out];exact aF
      obtain ⟨ad,A2,c2,rfl,_,x0,x1,x2,x3,x4,bK⟩:=(VaS.of_at (HV.out.later am.below)).elem m a9
      have aI:=putVas_take items m a9
      have aU:=putVas_le items (m+1)
      rw [aI,List.length_append] at aU
      have cW:SizeOf.sizeOf (items[m]'a9)<n:=by
       have h1:=List.sizeOf_lt_of_mem (List.getElem_mem a9)
       have h2:=br.out
       simp only [Va.mk.sizeOf_spec] at h2
       omega
      have hc:=IH.out (items[m]'a9) _ (d+1) wr cW (Va.wfs_get items m a9 er.out) (vaChecks_get items _ m a9 eb.out) bK.at (by have h1:=aL.out;omega)
      have aV:=Hi aI
      have aQ:=Hi aU
      clear bK aI cW aU
      obtain ⟨x,hx⟩:∃ x,x=items[m]'a9:=⟨_,rfl⟩
      rw [← hx] at x0 x1 x2 x3 x4 hc aV aQ
      have HC:=Hi hc
      have HO:=Hi aa
      have cN:=Hi aK
      have HK:=Hi am
      clear hc aa aK am hx a9
      generalize x.items.length=nx at x4 HC
      generalize x.kind=kx at x0 HC
      generalize x.int=ix at x1 HC
      generalize x.fl=fx at x2 HC
      generalize x.text=tx at x3 HC
      go_wp2_with fail
      refine HC.out.mono ?_
      rintro e w2 ⟨v2,rfl,ae,ai⟩
      obtain ⟨A3,M3,c3,rfl,dN,bq⟩:=ae.seen
      have aA:=Hi (HK.out.trans ai)
      have bm:=Hi (HO.out.below ai)
      have aO:=Hi ((ai.below.block _ (obj_lt cN.out)).trans cN.out)
      clear ae ai HC d0 d1 d2 d3 d4 u1 x0 x1 x2 x3 x4
      go_wp2_with (at_builtin;refine wpList_append_bytes (w0:=w) w.heap.size rfl _ _ 31 5 rfl Tryz.underlying31 info_u8b (.slice A' M c') (head++putVas (items.take m)) (putVa x) rfl bm.out A3 c3 (by rw [dN.out];rfl) bq.out ?c2 aA.out.size aA.out ?_)
      case c2=>have:=aQ.out;have:=aL.out;have:=dZ.out;rw [List.length_append];omega
      intro v3 w3 aq aP de _
      have bi:=(de.block _ (obj_lt aO.out) (fun e=>own_obj_ne bm.out aO.out (by decide) e.symm)).trans aO.out
      obtain ⟨A4,M4,c4,rfl,ar⟩:=aq.named (l':=head++putVas (items.take (m+1))) (by rw [aV.out];try simp only [List.append_assoc])
      have cm:=Hi ar
      have aG:=Hi aP
      have cf:=Hi bi
      clear aq ar aP de bi
      go_wp2
      exact ⟨⟨m+1,A4,c4,_,by omega,by go_num,rfl,cm.out,cf.out,aG.out⟩,by simp [intOf];omega⟩
    · have e:items.take m=items:=List.take_of_length_le (by rw [HN.out];omega)
      rw [e,← bX.out] at aa
      have HO:=Hi aa
      have HK:=Hi am
      clear aa am e aK
      go_wp2
      go_ret
      exact ⟨_,rfl,HO.out,HK.out⟩
theorem refValueBytes_calls (n:Nat):RefPutV n:=by
 induction n with
 | zero=>intro x xv d w hn;exact absurd hn (by omega)
 | succ n ih=>
   intro x xv d w hn cp cj hv ap
   obtain ⟨B,cb,rfl⟩:=hv.form
   cases x with
   | mk k i f t l=>
     have cJ:=(vaCheck_ok cj).2.1
     have eL:=(vaCheck_ok cj).2.2.1
     obtain ⟨h1,h7⟩:=vaOwn_kind cJ
     have hw:=cp
     rw [Va.wf] at hw
     show Calls _ _ #[.agg #[.int .i64 k,.int .i64 i,.float .f64 f,.string t,.slice B l.length cb]] w _
     by_cases hk:k=6∨k=7
     · exact refVaB_items k hk n ih i f t B cb d l w hn cp cj hv ap
     · obtain rfl | rfl | rfl | ey:k=1∨k=2∨k=3∨k=4∨k=5:=by omega
       · have:=refVaB_one i (vaOwn_bool cJ) f t B l.length cb w
         rw [putVa,if_pos rfl];exact this
       · have:=refVaB_two i hw.1 hw.2.1 f t B l.length cb w
         rw [putVa,if_neg (by omega),if_pos rfl];exact this
       · have:=refVaB_three i f hw.2.2.1 t B l.length cb w
         rw [putVa,if_neg (by omega),if_neg (by omega),if_pos rfl];exact this
       · have:=refVaB_text k ey i f t eL B l.length cb w
         rw [putVa,if_neg (by omega),if_neg (by omega),if_neg (by omega),if_pos ey];exact this
def Col.fine (c:Col):Prop:=tyCheck c.ty 1=0∧c.dflt.wf∧(c.has=true→vaCheck c.dflt 1=0)
set_option maxRecDepth 20000 in
set_option maxHeartbeats 4000000 in
theorem refBytesOf_calls (A:Option Addr) (c:Nat) (l:List Col) (w:World) (hs:SchS w (fun b=>b<w.heap.size) A l) (hc:∀ j (h:j<l.length),(l[j]'h).fine) (ap:(putS l).length≤140737488354000) :
 Calls Tryz.prog 106 #[.agg #[.slice A l.length c]] w (NewB w (putS l)):=by
 obtain ⟨W0,ab⟩:∃ W0,W0=w.alloc (.cells #[.slice A l.length c] 30):=⟨_,rfl⟩
 have aj:Keeps w W0:=by rw [ab];exact (Keeps.refl w).alloc _
 have ay:W0.heap[w.heap.size]? = some (.cells #[.slice A l.length c] 30):=by rw [ab];exact obj_new w _
 have co:=hs.len
 have hp:=ref3Put_calls l.length (by omega) W0
 have hP:putS l=leb l.length++putCols l:=rfl
 generalize putS l=P at hP ap ⊢
 have aC:(leb l.length).length+(putCols l).length≤140737488354000:=by rw [hP,List.length_append] at ap;exact ap
 have HS:=Hi hs
 have HC:=Hi hc
 have HP:=Hi hp
 have eh:=Hi hP
 have aL:=Hi aC
 have an:=Hi aj
 have al:=Hi ay
 clear hs hc hp hP aC aj ay ap
 generalize hN:l.length=N at co HP eh aL al ab ⊢
 have HN:=Hi hN
 clear hN
 go_enter Tryz.func106,Tryz.ntmps106
 go_wp2_with fail
 rw [← ab]
 clear ab
 refine HP.out.mono ?_
 rintro e w1 ⟨v1,rfl,af,ag⟩
 have aw:w1.heap[w.heap.size]? = some (.cells #[.slice A N c] 30):=by rw [ag.below.block _ (obj_lt al.out)];exact al.out
 obtain ⟨t0,_⟩:=cells1 aw
 have u1:=obj_lt aw
 obtain ⟨A1,M1,c1,rfl,ah⟩:=(af.weaken an.out.size).named (l':=leb N) rfl
 have bw:=Hi ah
 have aT:=Hi aw
 have ax:=Hi (an.out.trans ag)
 clear af ah ag HP aw al
 go_wp2_with fail
 clear t0 u1
 go_loopw [3,4] (fun b j wr=>∃ (m:Nat) (A':Option Addr) (c' M:Nat),m≤N∧j=.int .i64 (m:Int)∧b=.slice A' M c'∧OwnB 5 wr w.heap.size (.slice A' M c') (leb N++putCols (l.take m))∧wr.heap[w.heap.size]? = some (.cells #[.slice A N c] 30)∧Keeps w wr) (fun _ j _=>N-(intOf j).toNat)
 case atStart=>exact ⟨0,A1,c1,M1,Nat.zero_le _,rfl,rfl,by simpa [putCols] using bw.out,aT.out,ax.out⟩
 case round=>
  obtain ⟨m,A',c',M,hm,rfl,rfl,aa,bn,hk⟩:=hrel
  obtain ⟨t0,_⟩:=cells1 bn
  have u0:=obj_lt bn
  by_cases aF:m<N
  · have a9:m<l.length:=by rw [HN.out];exact aF
    obtain ⟨ad,x0,x1,x2,x3,x4,x5,x6,x7,x8,rfl,_,ac,c0,c1,c2,c3,c4,c5,c6,c7,c8⟩:=(HS.out.later hk.below).get m a9
    have dO:=HC.out m a9
    have aI:=putCols_take l m a9
    have aU:=putCols_le l (m+1)
    rw [aI,List.length_append] at aU
    obtain ⟨y,hy⟩:∃ y,y=l[m]'a9:=⟨_,rfl⟩
    rw [← hy] at ac dO aI aU
    clear hy a9
    obtain ⟨⟨A2,k2,e2⟩,A8,k8,e8⟩:=ac.form
    have cM:=ac.nm;have b0:=ac.tk;have cE:=ac.hs;have d9:=ac.dk;have dg:=ac.di;have dc:=ac.df;have cP:=ac.dt
    subst cM b0 e2 cE d9 dg dc cP e8
    obtain ⟨W1,ao⟩:∃ W1,W1=wr.alloc (.cells #[.string y.name,.int .i64 y.ty.kind,.slice A2 y.ty.of.length k2,.bool y.has,.int .i64 y.dflt.kind,.int .i64 y.dflt.int,.float .f64 y.dflt.fl,.string y.dflt.text,.slice A8 y.dflt.items.length k8] 103):=⟨_,rfl⟩
    have da:Keeps wr W1:=by rw [ao];exact (Keeps.refl wr).alloc _
    have dd:W1.heap[wr.heap.size]? = some (.cells #[.string y.name,.int .i64 y.ty.kind,.slice A2 y.ty.of.length k2,.bool y.has,.int .i64 y.dflt.kind,.int .i64 y.dflt.int,.float .f64 y.dflt.fl,.string y.dflt.text,.slice A8 y.dflt.items.length k8] 103):=by rw [ao];exact obj_new wr _
    have cw:(putCol y).length=(textBytes y.name).length+((putTy y.ty).length+(1+(if y.has=true then putVa y.dflt else []).length)):=by
     unfold putCol;rw [List.length_append,List.length_append,List.length_cons];omega
    have ee:(textBytes y.name).length=(leb y.name.size).length+y.name.size:=by unfold textBytes;rw [List.length_append];rfl
    have eU:=aL.out
    have em:(leb N++putCols (l.take m)).length=(leb N).length+(putCols (l.take m)).length:=List.length_append
    have f4:y.name.size≤140737488354000:=by omega
    have av:=ref3Put_calls y.name.size (by omega) W1
    have ew:∀ k,(Value.slice A' M c').ownBlock=some k→k<wr.heap.size:=fun k e=>own_lt aa k e
    have eo:=Hi av
    have eN:=Hi ew
    have aR:=Hi aa
    have cl:=Hi bn
    have cu:=Hi dd
    have aV:=Hi aI
    have aM:=Hi ac
    have HK:=Hi hk
    have dT:=Hi dO
    have bx:=Hi cw
    have e4:=Hi ee
    have aQ:=Hi aU
    have bW:=Hi em
    have dW:=Hi da
    clear av ew bn dd aI ac hk dO aa da aU eU em cw ee
    go_wp2_with fail
    rw [← ao]
    clear ao t0 u0 c0 c1 c2 c3 c4 c5 c6 c7 c8
    refine eo.out.mono ?_
    rintro e w2 ⟨vn,rfl,bI,ai⟩
    have bY:=(ai.below.block _ (obj_lt cu.out)).trans cu.out
    obtain ⟨⟨d0,d1,d2,d3,d4,d5,d6,d7,d8⟩,_⟩:=cells9 bY
    have u2:=obj_lt bY
    have cg:=dW.out.trans ai
    have aJ:=refTypeBytes_calls 4 y.ty 1 _ w2 (by omega) dT.out.1 (aM.out.ty.later cg.below).at
    obtain ⟨An,Mn,cn,rfl,ba⟩:=bI.named (l':=leb y.name.size) rfl
    have ch:=Hi aJ
    have eW:=Hi ba
    have aO:=Hi bY
    have aA:=Hi cg
    clear aJ bI ba bY cg ai eo cu
    go_wp2_with fail
    refine ch.out.mono ?_
    rintro e w3 ⟨vt,rfl,bG,ci⟩
    clear d0 d1 d2 d3 d4 d5 d6 d7 d8 u2
    have aP:=(ci.below.block _ (obj_lt aO.out)).trans aO.out
    obtain ⟨⟨d0,d1,d2,d3,d4,d5,d6,d7,d8⟩,_⟩:=cells9 aP
    have u3:=obj_lt aP
    obtain ⟨At,Mt,ct,rfl,aX⟩:=bG.named (l':=putTy y.ty) rfl
    have eA:=Hi aX
    have aG:=Hi aP
    have cy:=Hi (aA.out.trans ci)
    have cS:=aA.out.size
    have eH:=ci.size
    have br:=Hi (show wr.heap.size≤w2.heap.size∧w2.heap.size≤w3.heap.size from ⟨cS,eH⟩)
    obtain ⟨An2,Mn2,cn2,en2,eK,eY⟩:=(eW.out.below ci).seen
    injection en2 with g1 g2 g3
    subst g1 g2 g3
    have cq:=Hi (aR.out.below cy.out)
    clear bG aX aP ci cS eH ch aO
    go_wp2_with (at_builtin;refine wpList_append_bytes (w0:=w3) w.heap.size rfl _ _ 31 5 rfl Tryz.underlying31 info_u8b (.slice A' M c') (leb N++putCols (l.take m)) (leb y.name.size) rfl cq.out An cn (by rw [eK.out];rfl) eY.out ?c2 ?c3 (Below.refl _ _) ?_)
    case c2=>have h1:=aL.out;have h2:=bW.out;have h3:=bx.out;have h4:=aQ.out;have h5:=e4.out;omega
    case c3=>have h1:=HK.out.size;have h2:=br.out;omega
    intro v4 w4 ar _ et ef
    obtain ⟨A4,M4,c4,rfl,aW⟩:=ar.named (l':=leb N++putCols (l.take m)++leb y.name.size) (by first | rfl | simp only [List.append_assoc,List.cons_append,List.nil_append])
    have dP:=Grows.of aW et ef
    have bE:=dP.touch.obj aG.out (fun e=>own_obj_ne cq.out aG.out (by decide) e)
    clear d0 d1 d2 d3 d4 d5 d6 d7 d8 u3
    obtain ⟨⟨d0,d1,d2,d3,d4,d5,d6,d7,d8⟩,_⟩:=cells9 bE
    have u4:=obj_lt bE
    have dq:=Hi dP
    clear ar aW et ef dP bE
    go_wp2_with (at_builtin;refine wpList_append_text w.heap.size rfl _ _ 31 9 5 rfl Tryz.underlying31 Tryz.underlying9 info_u8b (.slice A4 M4 c4) (leb N++putCols (l.take m)++leb y.name.size) rfl dq.out.own y.name rfl ?e1 ?e2 ?_)
    case e1=>have h1:=aL.out;have h2:=bW.out;have h3:=bx.out;have h4:=aQ.out;have h5:=e4.out;rw [List.length_append];omega
    case e2=>have h1:=HK.out.size;have h2:=br.out;have h3:=dq.out.touch.size;omega
    intro v5 w5 bQ eG eD
    obtain ⟨A5,M5,c5,rfl,b8⟩:=bQ.named (l':=leb N++putCols (l.take m)++textBytes y.name) (by unfold textBytes;first | rfl | simp only [List.append_assoc,List.cons_append,List.nil_append])
    have dr:=dq.out.trans (Grows.of b8 eG eD)
    have bV:=dr.touch.obj aG.out (fun e=>own_obj_ne cq.out aG.out (by decide) e)
    clear d0 d1 d2 d3 d4 d5 d6 d7 d8 u4
    obtain ⟨⟨d0,d1,d2,d3,d4,d5,d6,d7,d8⟩,_⟩:=cells9 bV
    have u5:=obj_lt bV
    have eB:OwnB 5 w5 w2.heap.size (.slice At Mt ct) (putTy y.ty):=dr.touch.ownB eA.out (fun k e e'=>by have h1:=eA.out.ge k e;have h2:=eN.out k e';have h3:=br.out;omega)
    obtain ⟨At2,Mt2,ct2,et2,eT,eV⟩:=eB.seen
    injection et2 with g1 g2 g3
    subst g1 g2 g3
    have dp:=Hi dr
    clear bQ b8 eG eD dr bV eB dq
    go_wp2_with (at_builtin;refine wpList_append_bytes (w0:=w5) w.heap.size rfl _ _ 31 5 rfl Tryz.underlying31 info_u8b (.slice A5 M5 c5) (leb N++putCols (l.take m)++textBytes y.name) (putTy y.ty) rfl dp.out.own At ct (by rw [eT.out];rfl) eV.out ?f2 ?f3 (Below.refl _ _) ?_)
    case f2=>have h1:=aL.out;have h2:=bW.out;have h3:=bx.out;have h4:=aQ.out;rw [List.length_append];omega
    case f3=>have h1:=HK.out.size;have h2:=br.out;have h3:=dp.out.touch.size;omega
    intro v6 w6 bJ _ es eg
    obtain ⟨A6,M6,c6,rfl,b7⟩:=bJ.named (l':=leb N++putCols (l.take m)++textBytes y.name++putTy y.ty) (by first | rfl | simp only [List.append_assoc,List.cons_append,List.nil_append])
    have dV:=dp.out.trans (Grows.of b7 es eg)
    have dK:=dV.touch.obj aG.out (fun e=>own_obj_ne cq.out aG.out (by decide) e)
    clear d0 d1 d2 d3 d4 d5 d6 d7 d8 u5
    obtain ⟨⟨d0,d1,d2,d3,d4,d5,d6,d7,d8⟩,_⟩:=cells9 dK
    have u6:=obj_lt dK
    have bP:=Hi dV
    clear bJ b7 es eg dV dK dp
    cases hh:y.has with
    | true=>
      rw [hh] at d3
      have HH:=Hi hh
      clear hh
      obtain ⟨W6,bv⟩:∃ W6,W6=w6.alloc (.cells #[.int .u8 1] 5):=⟨_,rfl⟩
      have bs:Keeps w6 W6:=by rw [bv];exact (Keeps.refl w6).alloc _
      have bF:=Hi (show Reads W6 (some ⟨w6.heap.size,0,none⟩) [1] by rw [bv];exact Reads.new _ _ _ _ _ rfl)
      have bU:=Hi bs
      have dE:=Hi bv
      clear bs bv
      go_wp2_with (first | (go_at_call 145;refine (refFlag_calls _ _).mono ?_;rintro e w7 ⟨rfl,rfl⟩) | (at_builtin;rw [← dE.out];refine wpList_append_bytes (w0:=W6) w.heap.size rfl _ _ 31 5 rfl Tryz.underlying31 info_u8b (.slice A6 M6 c6) (leb N++putCols (l.take m)++textBytes y.name++putTy y.ty) [1] rfl (bP.out.own.below bU.out) (some ⟨w6.heap.size,0,none⟩) 1 rfl bF.out ?g2 ?g3 (Below.refl _ _) ?_))
      case g2=>have h1:=aL.out;have h2:=bW.out;have h3:=bx.out;have h4:=aQ.out;rw [List.length_append,List.length_append];simp only [List.length_cons,List.length_nil];omega
      case g3=>have h1:=HK.out.size;have h2:=br.out;have h3:=bP.out.touch.size;have h4:=bU.out.size;omega
      intro v7 w7 aD _ cA cX
      obtain ⟨A7,M7,c7,rfl,au⟩:=aD.named (l':=leb N++putCols (l.take m)++textBytes y.name++putTy y.ty++[1]) (by first | rfl | simp only [List.append_assoc,List.cons_append,List.nil_append])
      have bz:=bP.out.trans (Grows.first bU.out (Grows.of au cA cX))
      have bT:=bz.touch.obj aG.out (fun e=>own_obj_ne cq.out aG.out (by decide) e)
      clear d0 d1 d2 d3 d4 d5 d6 d7 d8 u6
      obtain ⟨⟨d0,d1,d2,d3,d4,d5,d6,d7,d8⟩,_⟩:=cells9 bT
      rw [HH.out] at d3
      have u7:=obj_lt bT
      have eF:VaAt w7 (.agg #[.int .i64 y.dflt.kind,.int .i64 y.dflt.int,.float .f64 y.dflt.fl,.string y.dflt.text,.slice A8 y.dflt.items.length k8]) y.dflt:=((aM.out.dv.later cy.out.below).touch bz.touch (fun b hb e=>by have:=aR.out.ge b e;omega)).at
      have eu:=refValueBytes_calls (SizeOf.sizeOf y.dflt+1) y.dflt _ 1 w7 (by omega) dT.out.2.1 (dT.out.2.2 HH.out) eF (by have h1:=aL.out;have h2:=bW.out;have h3:=bx.out;have h4:=aQ.out;rw [HH.out,if_pos rfl] at h3;omega)
      have eE:=Hi eu
      have db:=Hi bz
      clear eu eF aD au cA cX bz bT bP
      go_wp2_with fail
      refine eE.out.mono ?_
      rintro e w8 ⟨v8,rfl,bO,ep⟩
      obtain ⟨Av,Mv,cv,rfl,eQ,eX⟩:=bO.seen
      have dn:=Hi (db.out.later ep)
      clear bO ep eE db d0 d1 d2 d3 d4 d5 d6 d7 d8 u7
      go_wp2_with (at_builtin;refine wpList_append_bytes (w0:=w8) w.heap.size rfl _ _ 31 5 rfl Tryz.underlying31 info_u8b (.slice A7 M7 c7) (leb N++putCols (l.take m)++textBytes y.name++putTy y.ty++[1]) (putVa y.dflt) rfl dn.out.own Av cv (by rw [eQ.out];rfl) eX.out ?i2 ?i3 (Below.refl _ _) ?_)
      case i2=>have h1:=aL.out;have h2:=bW.out;have h3:=bx.out;have h4:=aQ.out;rw [HH.out,if_pos rfl] at h3;rw [List.length_append,List.length_append,List.length_append];simp only [List.length_cons,List.length_nil];omega
      case i3=>have h1:=HK.out.size;have h2:=br.out;have h3:=dn.out.touch.size;omega
      intro v9 w9 bA _ eJ e9
      have hE:leb N++putCols (l.take m)++textBytes y.name++putTy y.ty++[1]++putVa y.dflt=leb N++putCols (l.take (m+1)):=by
       rw [aV.out];unfold putCol;rw [HH.out];simp
      obtain ⟨A9,M9,c9,rfl,bf⟩:=bA.named ((by first | rfl | simp only [List.append_assoc,List.cons_append,List.nil_append]:_=leb N++putCols (l.take m)++textBytes y.name++putTy y.ty++[1]++putVa y.dflt).trans hE)
      have dS:=dn.out.trans (Grows.of bf eJ e9)
      have cF:=(dS.touch.obj ((cy.out.below.block _ (obj_lt cl.out)).trans cl.out) (fun e=>own_obj_ne aR.out cl.out (by decide) e))
      have e3:=Hi dS
      have dQ:=Hi cF
      clear bA bf eJ e9 dS hE cF dn
      go_wp2
      exact ⟨⟨m+1,A9,c9,M9,by omega,by go_num,rfl,e3.out.own,dQ.out,(HK.out.trans cy.out).grow e3.out aR.out.ge⟩,by simp [intOf];omega⟩
    | false=>
      rw [hh] at d3
      have HH:=Hi hh
      clear hh
      obtain ⟨W6,bv⟩:∃ W6,W6=w6.alloc (.cells #[.int .u8 0] 5):=⟨_,rfl⟩
      have bs:Keeps w6 W6:=by rw [bv];exact (Keeps.refl w6).alloc _
      have bF:=Hi (show Reads W6 (some ⟨w6.heap.size,0,none⟩) [0] by rw [bv];exact Reads.new _ _ _ _ _ rfl)
      have bU:=Hi bs
      have dE:=Hi bv
      clear bs bv
      go_wp2_with (first | (go_at_call 145;refine (refFlag_calls _ _).mono ?_;rintro e w7 ⟨rfl,rfl⟩) | (at_builtin;rw [← dE.out];refine wpList_append_bytes (w0:=W6) w.heap.size rfl _ _ 31 5 rfl Tryz.underlying31 info_u8b (.slice A6 M6 c6) (leb N++putCols (l.take m)++textBytes y.name++putTy y.ty) [0] rfl (bP.out.own.below bU.out) (some ⟨w6.heap.size,0,none⟩) 1 rfl bF.out ?j2 ?j3 (Below.refl _ _) ?_))
      case j2=>have h1:=aL.out;have h2:=bW.out;have h3:=bx.out;have h4:=aQ.out;rw [List.length_append,List.length_append];simp only [List.length_cons,List.length_nil];omega
      case j3=>have h1:=HK.out.size;have h2:=br.out;have h3:=bP.out.touch.size;have h4:=bU.out.size;omega
      intro v7 w7 aD _ cA cX
      have hE:leb N++putCols (l.take m)++textBytes y.name++putTy y.ty++[0]=leb N++putCols (l.take (m+1)):=by
       rw [aV.out];unfold putCol;rw [HH.out];simp
      obtain ⟨A7,M7,c7,rfl,au⟩:=aD.named ((by first | rfl | simp only [List.append_assoc,List.cons_append,List.nil_append]:_=leb N++putCols (l.take m)++textBytes y.name++putTy y.ty++[0]).trans hE)
      have bz:=bP.out.trans (Grows.first bU.out (Grows.of au cA cX))
      have bT:=bz.touch.obj aG.out (fun e=>own_obj_ne cq.out aG.out (by decide) e)
      have cF:=(bz.touch.obj ((cy.out.below.block _ (obj_lt cl.out)).trans cl.out) (fun e=>own_obj_ne aR.out cl.out (by decide) e))
      clear d0 d1 d2 d3 d4 d5 d6 d7 d8 u6
      obtain ⟨⟨d0,d1,d2,d3,d4,d5,d6,d7,d8⟩,_⟩:=cells9 bT
      rw [HH.out] at d3
      have u7:=obj_lt bT
      have db:=Hi bz
      have dQ:=Hi cF
      clear aD au cA cX bz hE cF bP bT
      go_wp2
      exact ⟨⟨m+1,A7,c7,M7,by omega,by go_num,rfl,db.out.own,dQ.out,(HK.out.trans cy.out).grow db.out aR.out.ge⟩,by simp [intOf];omega⟩
  · have e8:l.take m=l:=List.take_of_length_le (by rw [HN.out];omega)
    rw [e8] at aa
    have HO:=Hi aa
    have HK:=Hi hk
    clear aa hk e8 bn
    go_wp2
    go_ret
    exact ⟨_,rfl,by rw [eh.out];exact HO.out,HK.out⟩
theorem col_fine {ns:List ByteArray} {c:Col} (h:colCheck ns c=0) (hw:c.dflt.wf):c.fine:=
 ⟨(colCheck_ok h).2.2.1,hw,fun hh=>((colCheck_ok h).2.2.2.2 hh).1⟩
set_option maxRecDepth 20000 in
set_option maxHeartbeats 4000000 in
theorem refCheck_calls (A:Option Addr) (c:Nat) (l:List Col) (w:World) (aN:l.length≤c) (hs:SchS w (fun b=>b<w.heap.size) A l) (hw:∀ x∈l,x.dflt.wf) (aJ:Tabs w) :
 Calls Tryz.prog 69 #[.agg #[.slice A l.length c]] w fun e w'=>e=.returned (.int .i64 (schCheck l))∧Keeps w w':=by
 obtain ⟨R,hR⟩:∃ R,R=schCheck l:=⟨_,rfl⟩
 rw [← hR]
 unfold schCheck at hR
 have co:=hs.len
 by_cases h0:l.length=0
 · rw [if_pos h0] at hR
   subst hR
   rw [h0]
   clear hs hw aJ h0 co aN
   go_enter Tryz.func69,Tryz.ntmps69
   go_wp2
   go_ret
   exact ⟨rfl,(Keeps.refl w).alloc _⟩
 by_cases cx:16<l.length
 · rw [if_neg h0,if_pos cx] at hR
   subst hR
   have q0:((l.length:Int)==0)=false:=by rw [beq_eq_false_iff_ne];omega
   clear hs hw aJ h0 aN
   generalize l.length=N at *
   go_enter Tryz.func69,Tryz.ntmps69
   go_wp2
   go_ret
   exact ⟨rfl,(Keeps.refl w).alloc _⟩
 rw [if_neg h0,if_neg cx] at hR
 have cH:l.length≤16:=by omega
 have eP:1≤l.length:=by omega
 have q0:((l.length:Int)==0)=false:=by rw [beq_eq_false_iff_ne];omega
 obtain ⟨W0,ab⟩:∃ W0,W0=w.alloc (.cells #[.slice A l.length c] 30):=⟨_,rfl⟩
 have aj:Keeps w W0:=by rw [ab];exact (Keeps.refl w).alloc _
 have ay:W0.heap[w.heap.size]? = some (.cells #[.slice A l.length c] 30):=by rw [ab];exact obj_new w _
 have HR:=Hi hR
 have HS:=Hi hs
 have HW:=Hi hw
 have ch:=Hi aJ
 have an:=Hi aj
 have al:=Hi ay
 clear hR hs hw aJ h0 cx co aj ay
 generalize bN:l.length=N at cH eP q0 aN ab al ⊢
 have HL:=Hi bN
 clear bN
 have dx:=Hi ab
 clear ab
 go_enter Tryz.func69,Tryz.ntmps69
 go_wp2_with fail
 go_loopw [3] (fun j wr=>∃ m:Nat,m≤N∧j=.int .i64 (m:Int)∧colsCheck [] l=colsCheck ((l.take m).map Col.name) (l.drop m)∧Keeps W0 wr) (fun j _=>N-(intOf j).toNat)
 case atStart=>exact ⟨0,Nat.zero_le _,rfl,rfl,by rw [dx.out];exact Keeps.refl _⟩
 case round=>
  obtain ⟨m,hm,rfl,bb,am⟩:=hrel
  have aB:Keeps w wr:=an.out.trans am
  have bn:=(am.below.block _ (obj_lt al.out)).trans al.out
  obtain ⟨t0,_⟩:=cells1 bn
  have u0:=obj_lt bn
  by_cases aF:m<N
  · have a9:m<l.length:=by rw [HL.out];exact aF
    have ec:=HS.out.later aB.below
    have cU:=(HS.out.later (aB.trans (Keeps.drew wr)).below).mono (S':=fun b=>b<wr.drew.heap.size) fun b _ hb=>by have:=(aB.trans (Keeps.drew wr)).size;omega
    have bB:=cU.take m
    obtain ⟨ad,x0,x1,x2,x3,x4,x5,x6,x7,x8,rfl,_,ac,c0,c1,c2,c3,c4,c5,c6,c7,c8⟩:=ec.get m a9
    have en:=colsCheck_drop l m a9
    rw [en] at bb
    have bL:ColC wr.drew (fun b=>b<wr.drew.heap.size) x0 x1 x2 x3 x4 x5 x6 x7 x8 (l[m]'a9):=(ac.later (Keeps.drew wr).below).mono fun b _ hb=>by have h1:=aB.size;have h2:wr.drew.heap.size=wr.heap.size:=rfl;omega
    have ap:(l.take m).length=m:=by rw [List.length_take];omega
    have hc:=refColumn_calls (some ad) c (l.take m) x0 x1 x2 x3 x4 x5 x6 x7 x8 (l[m]'a9) wr.drew bB bL (ch.out.below (aB.trans (Keeps.drew wr)).below)
    rw [ap] at hc
    obtain ⟨⟨A2,k2,e2⟩,A8,k8,e8⟩:=ac.form
    have cM:=ac.nm;have b0:=ac.tk;have cE:=ac.hs;have d9:=ac.dk;have dg:=ac.di;have dc:=ac.df;have cP:=ac.dt
    subst cM b0 e2 cE d9 dg dc cP e8
    have be:=Hi bb
    have dX:=Hi am
    have bo:=Hi aB
    clear bb am aB bn ec cU bB en ac bL ap
    generalize colCheck ((l.take m).map Col.name) (l[m]'a9)=E at hc be
    generalize (l[m]'a9).name=y0 at c0 hc
    generalize (l[m]'a9).ty.kind=y1 at c1 hc
    generalize (l[m]'a9).ty.of.length=y2 at c2 hc
    generalize (l[m]'a9).has=y3 at c3 hc
    generalize (l[m]'a9).dflt.kind=y4 at c4 hc
    generalize (l[m]'a9).dflt.int=y5 at c5 hc
    generalize (l[m]'a9).dflt.fl=y6 at c6 hc
    generalize (l[m]'a9).dflt.text=y7 at c7 hc
    generalize (l[m]'a9).dflt.items.length=y8 at c8 hc
    have HC:=Hi hc
    clear hc a9
    have f6:m≤c:=by omega
    by_cases he:E=0
    · subst he
      have dC:Hid (colsCheck [] l=colsCheck ((l.take (m+1)).map Col.name) (l.drop (m+1))):=Hi (by rw [be.out,if_pos rfl])
      clear be
      go_wp2_with fail
      go_region_law (go_simp;go_at_call 105;refine HC.out.mono ?_;rintro e w2 ⟨rfl,ai⟩)
      all_goals
       have aA:=Hi (dX.out.trans ((Keeps.drew wr).trans ai))
       clear ai
       go_wp2
       exact ⟨⟨m+1,by omega,by go_num,dC.out,aA.out⟩,by simp [intOf];omega⟩
    · have qe:(E != 0)=true:=by simpa using he
      have dC:Hid (R=E):=Hi (by
       have h2:colsCheck [] l=E:=by rw [be.out,if_neg he]
       rw [HR.out,h2,if_neg he])
      clear be he
      go_wp2_with fail
      go_region_law (go_simp;go_at_call 105;refine HC.out.mono ?_;rintro e w2 ⟨rfl,ai⟩)
      all_goals
       have aA:=Hi (bo.out.trans ((Keeps.drew wr).trans ai))
       clear ai
       go_wp2
       go_ret
       exact ⟨by rw [dC.out];rfl,aA.out⟩
  · have aY:colsCheck [] l=0:=by
     rw [bb,List.drop_eq_nil_of_le (by rw [HL.out];omega),colsCheck]
    have hR:=HR.out
    rw [if_pos aY] at hR
    have bM:=refBytesOf_calls A c l wr ((HS.out.later aB.below).mono fun b _ hb=>by have:=aB.size;omega) (fun j hj=>by
     have b9:=List.getElem_mem hj
     obtain ⟨ns,dM⟩:=colsCheck_ok l [] aY _ b9
     exact col_fine dM (HW.out _ b9)) (putS_bound (by rw [HL.out];exact cH) aY HW.out)
    rw [HL.out] at bM
    generalize hP:putS l=P at bM hR
    have dD:=Hi bM
    have cG:=Hi hR
    have bo:=Hi aB
    clear bM hR aB am bn bb aY hP
    go_wp2_with fail
    refine dD.out.mono ?_
    rintro e w2 ⟨v2,rfl,aa,ai⟩
    obtain ⟨A',c',rfl,ej,_⟩:=aa.form
    clear aa
    generalize P.length=L at cG ej ⊢
    by_cases hL:1024<L
    · have HE:Hid (R=2):=Hi (by rw [cG.out,if_pos hL])
      clear cG
      go_wp2
      go_ret
      exact ⟨by rw [HE.out];rfl,bo.out.trans ai⟩
    · have HE:Hid (R=0):=Hi (by rw [cG.out,if_neg hL])
      have f9:L≤1024:=by omega
      clear cG hL
      go_wp2
      go_ret
      exact ⟨by rw [HE.out];rfl,bo.out.trans ai⟩
set_option maxRecDepth 20000 in
set_option maxHeartbeats 1000000 in
theorem refSchEncode_calls (A:Option Addr) (c:Nat) (l:List Col) (w:World) (aN:l.length≤c) (hs:SchS w (fun b=>b<w.heap.size) A l) (hw:∀ x∈l,x.dflt.wf) (aJ:Tabs w) :
 Calls Tryz.prog 123 #[.agg #[.slice A l.length c]] w (EncPost w l):=by
 obtain ⟨W0,ab⟩:∃ W0,W0=w.alloc (.cells #[.slice A l.length c] 30):=⟨_,rfl⟩
 have aj:Keeps w W0:=by rw [ab];exact (Keeps.refl w).alloc _
 have ay:W0.heap[w.heap.size]? = some (.cells #[.slice A l.length c] 30):=by rw [ab];exact obj_new w _
 have aE:=(hs.later aj.below).mono (S':=fun b=>b<W0.heap.size) fun b hb _=>hb
 have aY:=refCheck_calls A c l W0 aN aE hw (aJ.below aj.below)
 have an:=Hi aj
 have al:=Hi ay
 have dA:=Hi aE
 have HW:=Hi hw
 clear aj ay aE hs aJ aN
 by_cases hz:schCheck l=0
 · have bp:=hz
   unfold schCheck at bp
   have cx:l.length≤16:=by
    split at bp
    · omega
    split at bp
    · omega
    · omega
   have dJ:colsCheck [] l=0:=by
    split at bp
    · omega
    split at bp
    · omega
    split at bp
    · assumption
    · contradiction
   have bR:∀ j (h:j<l.length),(l[j]'h).fine:=fun j hj=>by
    have b9:=List.getElem_mem hj
    obtain ⟨ns,dM⟩:=colsCheck_ok l [] dJ _ b9
    exact col_fine dM (hw _ b9)
   have el:=putS_bound cx dJ hw
   rw [hz] at aY
   have HE:Hid (∀ e w',(∃ A c,e=.returned (.tuple #[.slice A (putS l).length c,.int .i64 0])∧OwnB 5 w' w.heap.size (.slice A (putS l).length c) (putS l)∧Keeps w w')→EncPost w l e w'):=Hi fun e w' h=>by unfold EncPost;rw [if_pos hz];exact h
   have ck:=Hi aY
   have eR:=Hi bR
   have f1:=Hi el
   clear aY bR el bp dJ hz hw
   generalize bN:l.length=N at cx ab al ck ⊢
   have HL:=Hi bN
   clear bN
   go_enter Tryz.func123,Tryz.ntmps123
   go_wp2_with fail
   rw [← ab]
   clear ab
   refine ck.out.mono ?_
   rintro e w1 ⟨rfl,ag⟩
   have aw:=(ag.below.block _ (obj_lt al.out)).trans al.out
   obtain ⟨d0,_⟩:=cells1 aw
   have u1:=obj_lt aw
   have bM:=refBytesOf_calls A c l w1 ((dA.out.later ag.below).mono fun b hb _=>hb) eR.out f1.out
   rw [HL.out] at bM
   have dD:=Hi bM
   have ax:=Hi (an.out.trans ag)
   clear bM ag aw ck
   go_wp2_with fail
   refine dD.out.mono ?_
   rintro e w2 ⟨v2,rfl,aa,ai⟩
   obtain ⟨A',c',rfl,ej,_⟩:=aa.form
   have ae:=aa.weaken ax.out.size
   have HO:=Hi ae
   have aA:=Hi (ax.out.trans ai)
   clear aa ai ae
   go_wp2
   go_ret2
   exact HE.out _ _ ⟨A',c',rfl,HO.out,aA.out⟩
 · have HE:Hid (∀ e w',(e=.returned (.tuple #[.slice none 0 0,.int .i64 (schCheck l)])∧Keeps w w')→EncPost w l e w'):=Hi fun e w' h=>by unfold EncPost;rw [if_neg hz];exact h
   have qe:(schCheck l != 0)=true:=by simpa using hz
   generalize schCheck l=E at aY qe HE
   have ck:=Hi aY
   clear aY hz hw al dA HW
   generalize l.length=N at ab ck ⊢
   go_enter Tryz.func123,Tryz.ntmps123
   go_wp2_with fail
   rw [← ab]
   clear ab
   refine ck.out.mono ?_
   rintro e w1 ⟨rfl,ag⟩
   go_wp2
   go_ret2
   exact HE.out _ _ ⟨rfl,an.out.trans ag⟩
end Go.Proofs.YtihodcnnappkbaaGreatDoor
