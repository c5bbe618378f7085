/-
  The walk of the reference's Is. Condition: the value and the type stand for trees; the contract of the reference's Utf. The walk of the reference's Name. No condition. The walk of the reference's column. Condition: the slice stands for columns, the cells for one, the tables of unicode/utf8 are as laid. The walk of the reference's typeBytes. Condition: the value stands for a type that may be. The walk of the reference's ValueBytes. Condition: the value may be, its numbers are of 64 bits. The walk of the reference's bytesOf. Condition: the columns may be, the numbers are of 64 bits. The walks of the reference's Check and Encode of a schema. Condition: the slice stands for columns, its capacity is Go's, the numbers are of 64 bits, the tables of unicode/utf8 are as laid.
-/
import Derived.Test.YtihodcnnappkbaaGreatDoorG21
import Derived.Test.YtihodcnnappkbaaGreatDoorG20
import Derived.Test.YtihodcnnappkbaaGreatDoorG2
import Derived.Test.YtihodcnnappkbaaGreatDoorG3
import Derived.Test.YtihodcnnappkbaaGreatDoorG4
import Derived.Test.YtihodcnnappkbaaGreatDoorG5
import Derived.Test.YtihodcnnappkbaaGreatDoorG11
import Derived.Test.YtihodcnnappkbaaGreatDoorG1
import Derived.Test.YtihodcnnappkbaaGreatDoorG6
set_option linter.unusedVariables false
set_option linter.unusedSimpArgs false
set_option maxHeartbeats 4000000
set_option maxRecDepth 20000
namespace Go.Proofs.YtihodcnnappkbaaGreatDoor
section
open Go.RowKit Go.BigFrame
attribute [local go_sem] run_storeF
theorem refIs_calls (cR:RefUtf) (x:Va) (t:Ty) (v tv:Value) (w:World) (hv:VaAt w v x) (ht:TyAt w tv t) (aJ:Tabs w) :
 Calls Tryz.prog 142 #[v,tv] w fun e w'=>e=.returned (.bool (decide (tyCheck t 1=0)&&(decide (vaCheck x 1=0)&&vaOf x t)))∧Keeps w w':=by
 obtain ⟨B,cb,rfl⟩:=hv.form
 obtain ⟨D,cd,rfl⟩:=ht.form
 obtain ⟨W0,ab⟩:∃ W0,W0=(w.alloc (.cells #[.int .i64 x.kind,.int .i64 x.int,.float .f64 x.fl,.string x.text,.slice B x.items.length cb] 101)).alloc (.cells #[.int .i64 t.kind,.slice D t.of.length cd] 97):=⟨_,rfl⟩
 have aj:Keeps w W0:=by rw [ab];exact ((Keeps.refl w).alloc _).alloc _
 have ay:W0.heap[w.heap.size]? = some (.cells #[.int .i64 x.kind,.int .i64 x.int,.float .f64 x.fl,.string x.text,.slice B x.items.length cb] 101):=by rw [ab];exact obj_old (obj_new w _) _
 have aw:W0.heap[w.heap.size+1]? = some (.cells #[.int .i64 t.kind,.slice D t.of.length cd] 97):=by rw [ab];exact obj_new_at _ _ _ (by simp)
 have h1:=fun wx (hx:Keeps W0 wx)=>refCheckType_calls t _ wx (ht.later (aj.trans hx).below)
 have h2:=fun wx (hx:Keeps W0 wx)=>refVaCheckTop_calls cR x _ wx (hv.later (aj.trans hx).below) (aJ.below (aj.trans hx).below)
 have h3:=fun wx (hx:Keeps W0 wx) (e1:tyCheck t 1=0) (e2:vaCheck x 1=0)=>refVaOf_calls (SizeOf.sizeOf x+1) x t _ _ 1 1 wx (by omega) (hv.later (aj.trans hx).below) (ht.later (aj.trans hx).below) e2 e1
 obtain ⟨O,hO⟩:∃ O,O=vaOf x t:=⟨_,rfl⟩
 rw [← hO] at h3 ⊢
 generalize tyCheck t 1=E1 at h1 h3 ⊢
 generalize vaCheck x 1=E2 at h2 h3 ⊢
 have an:=Hi aj
 have al:=Hi ay
 have aV:=Hi aw
 have H1:=Hi h1
 have H2:=Hi h2
 have H3:=Hi h3
 clear hv ht aJ cR aj ay aw h1 h2 h3 hO
 generalize x.items.length=N at *
 generalize x.kind=k at *
 generalize x.int=i at *
 generalize x.fl=f at *
 generalize x.text=tx at *
 generalize t.kind=k2 at *
 generalize t.of.length=M at *
 by_cases dp:E1=0
 · by_cases dD:E2=0
   · subst dp dD
     rw [decide_eq_true rfl,Bool.true_and,Bool.true_and]
     go_enter Tryz.func142,Tryz.ntmps142
     go_wp2_with fail
     rw [← ab]
     clear ab
     refine (H1.out W0 (Keeps.refl _)).mono ?_
     rintro e w1 ⟨rfl,ag⟩
     have hb:=(ag.below.block _ (obj_lt al.out)).trans al.out
     obtain ⟨d0,d1,d2,d3,d4,_⟩:=cells5 hb
     have u1:=obj_lt hb
     go_wp2_with fail
     refine (H2.out w1 ag).mono ?_
     rintro e w2 ⟨rfl,ai⟩
     have hb:=((ag.trans ai).below.block _ (obj_lt al.out)).trans al.out
     obtain ⟨d0,d1,d2,d3,d4,_⟩:=cells5 hb
     have u2:=obj_lt hb
     have hc:=((ag.trans ai).below.block _ (obj_lt aV.out)).trans aV.out
     have c0:w2.cell? ⟨w.heap.size+1,0,none⟩=some (.int .i64 k2):=by rw [obj_cell hc 0];rfl
     have c1:w2.cell? ⟨w.heap.size+1,1,none⟩=some (.slice D M cd):=by rw [obj_cell hc 1];rfl
     have u3:=obj_lt hc
     go_wp2_with fail
     refine (H3.out w2 (ag.trans ai) (by trivial) (by trivial)).mono ?_
     rintro e w3 ⟨rfl,bT⟩
     go_wp2
     go_ret
     exact ⟨rfl,an.out.trans ((ag.trans ai).trans bT)⟩
   · subst dp
     have q:(E2==0)=false:=by simpa using dD
     rw [decide_eq_true rfl,decide_eq_false dD,Bool.true_and,Bool.false_and]
     go_enter Tryz.func142,Tryz.ntmps142
     go_wp2_with fail
     rw [← ab]
     clear ab
     refine (H1.out W0 (Keeps.refl _)).mono ?_
     rintro e w1 ⟨rfl,ag⟩
     have hb:=(ag.below.block _ (obj_lt al.out)).trans al.out
     obtain ⟨d0,d1,d2,d3,d4,_⟩:=cells5 hb
     have u1:=obj_lt hb
     go_wp2_with fail
     refine (H2.out w1 ag).mono ?_
     rintro e w2 ⟨rfl,ai⟩
     go_wp2
     go_ret
     exact ⟨rfl,an.out.trans (ag.trans ai)⟩
 · have q:(E1==0)=false:=by simpa using dp
   rw [decide_eq_false dp,Bool.false_and]
   go_enter Tryz.func142,Tryz.ntmps142
   go_wp2_with fail
   rw [← ab]
   clear ab
   refine (H1.out W0 (Keeps.refl _)).mono ?_
   rintro e w1 ⟨rfl,ag⟩
   have hb:=(ag.below.block _ (obj_lt al.out)).trans al.out
   obtain ⟨d0,d1,d2,d3,d4,_⟩:=cells5 hb
   have u1:=obj_lt hb
   go_wp2_with fail
   refine (H2.out w1 ag).mono ?_
   rintro e w2 ⟨rfl,ai⟩
   go_wp2
   go_ret
   exact ⟨rfl,an.out.trans (ag.trans ai)⟩
end
section
open Go.RowKit Go.Proofs
theorem nameTo_first {s:ByteArray} (h0:0<s.size) (h:¬(97≤(s.get! 0).toNat∧(s.get! 0).toNat≤122)):nameTo s s.size=false:=by
 refine nameTo_cut (n:=1) (by omega) ?_
 rw [nameTo_succ,nameTo_zero,Bool.true_and]
 exact nameB_false (by omega)
theorem refName_calls (s:ByteArray) (w:World) :
 Calls Tryz.prog 139 #[.string s] w fun e w'=>e=.returned (.bool (nameOk s))∧w=w':=by
 obtain ⟨n,hn⟩:∃ n,n=s.size:=⟨_,rfl⟩
 by_cases h0:0<n
 · by_cases h1:n≤16
   · have bt:nameOk s=nameTo s n:=by unfold nameOk;rw [← hn];simp [h0,h1]
     have cC:s.get! 0=s[0]'(by omega):=get_at s 0 (by omega)
     have aI:0<s.size:=by omega
     rw [bt]
     by_cases hA:97≤(s[0]'aI).toNat
     · by_cases hB:(s[0]'aI).toNat≤122
       · have dz:(97:Int)≤((s[0]'aI).toNat:Int):=by omega
         have et:¬(122:Int)<((s[0]'aI).toNat:Int):=by omega
         have HN:=Hi hn
         have HA:=Hi hA
         have HB:=Hi hB
         rw [hn] at h0 h1 ⊢
         clear bt cC hA hB hn
         go_enter Tryz.func139,Tryz.ntmps139
         go_wp2_with fail
         clear dz et
         go_loopw [3] (fun i wr=>∃ k:Nat,k≤s.size∧i=.int .i64 (k:Int)∧nameTo s k=true∧wr=w) (fun i _=>s.size-(intOf i).toNat)
         case atStart=>exact ⟨0,by omega,rfl,rfl,rfl⟩
         case round=>
          obtain ⟨k,hk,rfl,cD,rfl⟩:=hrel
          by_cases hp:k<s.size
          · have bi:=nameTo_succ s k
            have hg:s.get! k=s[k]'hp:=get_at s k hp
            rw [cD,Bool.true_and,hg] at bi
            have bf:k=0→97≤(s[k]'hp).toNat∧(s[k]'hp).toNat≤122:=fun h=>by subst h;exact ⟨HA.out,HB.out⟩
            have HF:=Hi bf
            have ei:=Hi cD
            have HS:=Hi bi
            clear cD bi hg bf
            obtain ⟨b1,q1⟩:∃ b,decide (((s[k]'hp).toNat:Int)<97)=b:=⟨_,rfl⟩
            obtain ⟨b2,q2⟩:∃ b,decide ((122:Int)<((s[k]'hp).toNat:Int))=b:=⟨_,rfl⟩
            obtain ⟨b3,q3⟩:∃ b,decide (((s[k]'hp).toNat:Int)<48)=b:=⟨_,rfl⟩
            obtain ⟨b4,q4⟩:∃ b,decide ((57:Int)<((s[k]'hp).toNat:Int))=b:=⟨_,rfl⟩
            obtain ⟨b5,q5⟩:∃ b,(((s[k]'hp).toNat:Int) != 95)=b:=⟨_,rfl⟩
            cases b1 <;> cases b2 <;> cases b3 <;> cases b4 <;> cases b5
            all_goals try (exfalso;simp only [decide_eq_true_eq,decide_eq_false_iff_not,beq_iff_eq,bne_iff_ne,beq_eq_false_iff_ne,bne_eq_false_iff_eq,ne_eq] at q1 q2 q3 q4 q5;omega)
            all_goals go_wp2
            all_goals first
             | (go_ret
                refine ⟨ret_bool ?_,rfl⟩
                refine (nameTo_cut (n:=k+1) (by omega) ?_).symm
                rw [HS.out]
                simp only [decide_eq_true_eq,decide_eq_false_iff_not,beq_iff_eq,bne_iff_ne,beq_eq_false_iff_ne,bne_eq_false_iff_eq,ne_eq] at q1 q2 q3 q4 q5
                exact nameB_false (by omega))
             | (refine ⟨⟨k+1,by omega,by go_num, ?_,trivial⟩,by simp [intOf];omega⟩
                rw [HS.out]
                simp only [decide_eq_true_eq,decide_eq_false_iff_not,beq_iff_eq,bne_iff_ne,beq_eq_false_iff_ne,bne_eq_false_iff_eq,ne_eq] at q1 q2 q3 q4 q5
                have:=HF.out
                exact nameB_true (by omega))
          · obtain rfl:k=s.size:=by omega
            have ei:=Hi cD
            clear cD
            go_wp2
            go_ret
            exact ⟨ret_bool ei.out.symm,rfl⟩
       · have hf:=nameTo_first aI (by rw [cC];omega)
         rw [hn,hf]
         have dz:(97:Int)≤((s[0]'aI).toNat:Int):=by omega
         have et:(122:Int)<((s[0]'aI).toNat:Int):=by omega
         rw [hn] at h0 h1
         clear bt cC hA hB hf hn
         go_enter Tryz.func139,Tryz.ntmps139
         go_wp2
         go_ret
         exact ⟨rfl,rfl⟩
     · have hf:=nameTo_first aI (by rw [cC];omega)
       rw [hn,hf]
       have dz:((s[0]'aI).toNat:Int)<97:=by omega
       rw [hn] at h0 h1
       clear bt cC hA hf hn
       go_enter Tryz.func139,Tryz.ntmps139
       go_wp2
       go_ret
       exact ⟨rfl,rfl⟩
   · have aG:nameOk s=false:=by unfold nameOk;rw [← hn];simp [h1]
     have HN:=Hi aG
     rw [aG]
     clear aG
     go_enter Tryz.func139,Tryz.ntmps139
     go_wp2
     go_ret
     exact ⟨rfl,rfl⟩
 · have aG:nameOk s=false:=by unfold nameOk;rw [← hn];simp [h0]
   rw [aG]
   clear aG
   go_enter Tryz.func139,Tryz.ntmps139
   go_wp2
   go_ret
   exact ⟨rfl,rfl⟩
end
section
open Go.RowKit Go.BigFrame
attribute [local go_sem] run_storeF
theorem refUtf:RefUtf:=fun s w h=>refUtf_calls s w h
theorem SchS.take {w:World} {S:Nat→Prop} {A:Option Addr} {l:List Col} (h:SchS w S A l) (n:Nat):SchS w S A (l.take n):=by
 obtain ⟨xs,hr,hc⟩:=h.ex
 have hl:=h.len
 refine ⟨⟨xs.take (9*n),hr.take _, ?_,fun j hj=>?_⟩,fun a e hn=>h.blk a e (fun e0=>hn (by rw [e0];simp)),by rw [List.length_take];omega⟩
 · rw [List.length_take,List.length_take,hc.1];omega
 · rw [List.length_take] at hj
   obtain ⟨x0,x1,x2,x3,x4,x5,x6,x7,x8,⟨a0,a1,a2,a3,a4,a5,a6,a7,a8⟩,b⟩:=hc.2 j (by omega)
   refine ⟨x0,x1,x2,x3,x4,x5,x6,x7,x8,⟨?_, ?_, ?_, ?_, ?_, ?_, ?_, ?_, ?_⟩,by rw [List.getElem_take];exact b⟩
   all_goals rw [List.getElem?_take,if_pos (by omega)];assumption
theorem nameIn_take (l:List Col) (m:Nat) (h:m<l.length) (s:ByteArray):nameIn ((l.take (m+1)).map Col.name) s=(nameIn ((l.take m).map Col.name) s||decide ((l[m]'h).name=s)):=by
 rw [List.take_succ_eq_append_getElem h,List.map_append]
 exact nameIn_append _ _ _
theorem nameIn_more (l:List Col) (m:Nat) (s:ByteArray) (h:nameIn ((l.take m).map Col.name) s=true):nameIn (l.map Col.name) s=true:=by
 unfold nameIn at *
 rw [List.any_eq_true] at *
 obtain ⟨x,hx,hd⟩:=h
 refine ⟨x, ?_,hd⟩
 rw [List.mem_map] at *
 obtain ⟨c,hc,e⟩:=hx
 exact ⟨c,List.mem_of_mem_take hc,e⟩
theorem zero_at7 (w:World):VaAt w (.agg #[.int .i64 0,.int .i64 0,.float .f64 0,.string ⟨#[]⟩,.slice none 0 0]) vaZero:=(VaS.leaf w (fun _=>True) 0 0 0 ⟨#[]⟩ none 0).at
theorem refColumn_calls (A:Option Addr) (c:Nat) (l:List Col) (x0 x1 x2 x3 x4 x5 x6 x7 x8:Value) (y:Col) (w:World) (hs:SchS w (fun b=>b<w.heap.size) A l) (ac:ColC w (fun b=>b<w.heap.size) x0 x1 x2 x3 x4 x5 x6 x7 x8 y) (aJ:Tabs w) :
 Calls Tryz.prog 105 #[.slice A l.length c,.agg #[x0,x1,x2,x3,x4,x5,x6,x7,x8]] w fun e w'=>e=.returned (.int .i64 (colCheck (l.map Col.name) y))∧Keeps w w':=by
 obtain ⟨R,hR⟩:∃ R,R=colCheck (l.map Col.name) y:=⟨_,rfl⟩
 rw [← hR]
 unfold colCheck at hR
 have cw:=hs.len
 obtain ⟨⟨A2,k2,e2⟩,A8,k8,e8⟩:=ac.form
 have cU:=ac.nm;have ba:=ac.tk;have cY:=ac.hs;have cO:=ac.dk;have cG:=ac.di;have dd:=ac.df;have da:=ac.dt
 subst cU ba e2 cY cO cG dd da e8
 obtain ⟨W1,ao⟩:∃ W1,W1=w.alloc (.cells #[.string y.name,.int .i64 y.ty.kind,.slice A2 y.ty.of.length k2,.bool y.has,.int .i64 y.dflt.kind,.int .i64 y.dflt.int,.float .f64 y.dflt.fl,.string y.dflt.text,.slice A8 y.dflt.items.length k8] 103):=⟨_,rfl⟩
 have ag:Keeps w W1:=by rw [ao];exact (Keeps.refl w).alloc _
 have cM:W1.heap[w.heap.size]? = some (.cells #[.string y.name,.int .i64 y.ty.kind,.slice A2 y.ty.of.length k2,.bool y.has,.int .i64 y.dflt.kind,.int .i64 y.dflt.int,.float .f64 y.dflt.fl,.string y.dflt.text,.slice A8 y.dflt.items.length k8] 103):=by rw [ao];exact obj_new w _
 have HN:=Hi (refName_calls y.name W1)
 have HR:=Hi hR
 have HS:=Hi hs
 have aO:=Hi ac
 have bX:=Hi aJ
 have cy:=Hi cM
 have ax:=Hi ag
 clear hR hs ac aJ cM ag
 generalize bI:l.length=N at cw ⊢
 have HL:=Hi bI
 clear bI
 cases aG:nameOk y.name with
 | false=>
   rw [aG] at HN
   have HE:Hid (R=70):=Hi (by rw [HR.out,if_pos aG])
   clear aG
   go_enter Tryz.func105,Tryz.ntmps105
   go_wp2_with fail
   rw [← ao]
   clear ao
   refine HN.out.mono ?_
   rintro e w1 ⟨rfl,rfl⟩
   go_wp2
   go_ret
   exact ⟨by rw [HE.out];rfl,ax.out⟩
 | true=>
 rw [aG] at HN
 have dU:Hid (R=if nameIn (l.map Col.name) y.name=true then 71 else if tyCheck y.ty 1≠0 then tyCheck y.ty 1
  else if y.has=false then (if Va.same y.dflt vaZero=true then 0 else 80)
  else if vaCheck y.dflt 1≠0 then vaCheck y.dflt 1 else if vaOf y.dflt y.ty=true then 0 else 80):=Hi (by rw [HR.out,if_neg (by rw [aG];simp)])
 clear aG HR
 go_enter Tryz.func105,Tryz.ntmps105
 go_wp2_with fail
 rw [← ao]
 clear ao
 refine HN.out.mono ?_
 rintro e w1 ⟨rfl,rfl⟩
 clear HN
 go_wp2_with fail
 go_loopw [6] (fun j wr=>∃ m:Nat,m≤N∧j=.int .i64 (m:Int)∧nameIn ((l.take m).map Col.name) y.name=false∧Keeps W1 wr) (fun j _=>N-(intOf j).toNat)
 case atStart=>exact ⟨0,Nat.zero_le _,rfl,rfl,Keeps.refl _⟩
 case round=>
  obtain ⟨m,hm,rfl,dm,am⟩:=hrel
  have cF:=(am.below.block _ (obj_lt cy.out)).trans cy.out
  obtain ⟨⟨d0,d1,d2,d3,d4,d5,d6,d7,d8⟩,_⟩:=cells9 cF
  have ur:=obj_lt cF
  have aB:=ax.out.trans am
  by_cases aF:m<N
  · have a9:m<l.length:=by rw [HL.out];exact aF
    obtain ⟨ad,z0,z1,z2,z3,z4,z5,z6,z7,z8,rfl,_,hz,c0,_⟩:=(HS.out.later aB.below).get m a9
    rw [hz.nm] at c0
    have aE:=nameIn_take l m a9 y.name
    rw [dm,Bool.false_or] at aE
    have bH:=nameIn_more l (m+1) y.name
    have aT:=Hi aE
    have eV:=Hi bH
    have dQ:=Hi am
    have bn:=Hi aB
    clear aE bH dm hz am aB cF d1 d2 d3 d4 d5 d6 d7 d8
    generalize eM:(l[m]'a9).name=xn at c0 aT
    clear eM a9
    by_cases hq:xn=y.name
    · have q4:(xn.toList==y.name.toList)=true:=by rw [hq];simp
      have HE:Hid (R=71):=Hi (by rw [dU.out,if_pos (eV.out (by rw [aT.out];simpa using hq))])
      clear hq
      go_wp2_with fail
      go_quiet (fail)
      go_wp2
      go_ret
      exact ⟨by rw [HE.out];rfl,bn.out.quiet ⟨_,rfl⟩⟩
    · have q4:(xn.toList==y.name.toList)=false:=texts_ne hq
      have eN:Hid (nameIn ((l.take (m+1)).map Col.name) y.name=false):=Hi (by rw [aT.out];simpa using hq)
      clear hq
      go_wp2_with fail
      go_quiet (fail)
      go_wp2
      exact ⟨⟨m+1,by omega,by go_num,eN.out,dQ.out.quiet ⟨_,rfl⟩⟩,by simp [intOf];omega⟩
  · have e:l.take m=l:=List.take_of_length_le (by rw [HL.out];omega)
    rw [e] at dm
    have bq:Hid (R=if tyCheck y.ty 1≠0 then tyCheck y.ty 1
     else if y.has=false then (if Va.same y.dflt vaZero=true then 0 else 80)
     else if vaCheck y.dflt 1≠0 then vaCheck y.dflt 1 else if vaOf y.dflt y.ty=true then 0 else 80):=Hi (by rw [dU.out,if_neg (by rw [dm];simp)])
    have ew:=refCheckType_calls y.ty _ wr (aO.out.ty.later aB.below).at
    have cJ:=Hi ew
    have bn:=Hi aB
    have dS:=Hi cF
    clear e dm ew aB cF am dU
    by_cases ca:tyCheck y.ty 1=0
    case neg=>
     have HE:Hid (R=tyCheck y.ty 1):=Hi (by rw [bq.out,if_pos ca])
     have qe:(tyCheck y.ty 1 != 0)=true:=by simpa using ca
     generalize tyCheck y.ty 1=E at cJ HE qe
     clear ca bq
     go_wp2_with fail
     refine cJ.out.mono ?_
     rintro e w4 ⟨rfl,cT⟩
     go_wp2
     go_ret
     exact ⟨by rw [HE.out];rfl,bn.out.trans cT⟩
    case pos=>
    have dn:Hid (R=if y.has=false then (if Va.same y.dflt vaZero=true then 0 else 80)
     else if vaCheck y.dflt 1≠0 then vaCheck y.dflt 1 else if vaOf y.dflt y.ty=true then 0 else 80):=Hi (by rw [bq.out,if_neg (by rw [ca];simp)])
    have eQ:=Hi ca
    rw [ca] at cJ
    clear ca bq
    go_wp2_with fail
    refine cJ.out.mono ?_
    rintro e w4 ⟨rfl,cT⟩
    have bC:=(cT.below.block _ (obj_lt dS.out)).trans dS.out
    clear d0 d1 d2 d3 d4 d5 d6 d7 d8 ur
    obtain ⟨⟨d0,d1,d2,d3,d4,d5,d6,d7,d8⟩,_⟩:=cells9 bC
    have u4:=obj_lt bC
    have dV:=Hi bC
    have az:=Hi (bn.out.trans cT)
    clear bC cT cJ dS bn
    have aX:=aO.out.dv.later az.out.below
    have bY:=aO.out.ty.later az.out.below
    cases hh:y.has with
    | false=>
      rw [hh] at d3
      have cs:=refSameValue_calls (SizeOf.sizeOf y.dflt+1) y.dflt vaZero _ _ w4 (by omega) aX.at (zero_at7 w4)
      have bz:Hid (R=if Va.same y.dflt vaZero=true then 0 else 80):=Hi (by rw [dn.out,if_pos hh])
      clear aX bY dn hh
      cases hs:Va.same y.dflt vaZero with
      | false=>
        rw [hs] at cs
        have HE:Hid (R=80):=Hi (by rw [bz.out,if_neg (by rw [hs];simp)])
        have dC:=Hi cs
        clear cs hs bz
        go_wp2_with fail
        refine dC.out.mono ?_
        rintro e w5 ⟨rfl,aU⟩
        go_wp2
        go_ret
        exact ⟨by rw [HE.out];rfl,az.out.trans aU⟩
      | true=>
        rw [hs] at cs
        have HE:Hid (R=0):=Hi (by rw [bz.out,if_pos hs])
        have dC:=Hi cs
        clear cs hs bz
        go_wp2_with fail
        refine dC.out.mono ?_
        rintro e w5 ⟨rfl,aU⟩
        go_wp2
        go_ret
        exact ⟨by rw [HE.out];rfl,az.out.trans aU⟩
    | true=>
      rw [hh] at d3
      have cx:=refVaCheckTop_calls refUtf y.dflt _ w4 aX.at (bX.out.below az.out.below)
      have bz:Hid (R=if vaCheck y.dflt 1≠0 then vaCheck y.dflt 1 else if vaOf y.dflt y.ty=true then 0 else 80):=Hi (by rw [dn.out,if_neg (by rw [hh];simp)])
      have HH:=Hi hh
      have dh:=Hi aX
      have cX:=Hi bY
      clear aX bY dn hh
      by_cases ce:vaCheck y.dflt 1=0
      case neg=>
       have HE:Hid (R=vaCheck y.dflt 1):=Hi (by rw [bz.out,if_pos ce])
       have qe:(vaCheck y.dflt 1 != 0)=true:=by simpa using ce
       generalize vaCheck y.dflt 1=E at cx HE qe
       have dw:=Hi cx
       clear cx ce bz
       go_wp2_with fail
       refine dw.out.mono ?_
       rintro e w5 ⟨rfl,aU⟩
       go_wp2
       go_ret
       exact ⟨by rw [HE.out];rfl,az.out.trans aU⟩
      case pos=>
      have bA:Hid (R=if vaOf y.dflt y.ty=true then 0 else 80):=Hi (by rw [bz.out,if_neg (by rw [ce];simp)])
      rw [ce] at cx
      have dw:=Hi cx
      have f1:=Hi ce
      clear cx ce bz
      go_wp2_with fail
      refine dw.out.mono ?_
      rintro e w5 ⟨rfl,aU⟩
      have bS:=(aU.below.block _ (obj_lt dV.out)).trans dV.out
      have ci:=refIs_calls refUtf y.dflt y.ty _ _ w5 (dh.out.later aU.below).at (cX.out.later aU.below).at ((bX.out.below az.out.below).below aU.below)
      rw [eQ.out,f1.out,decide_eq_true rfl,Bool.true_and,Bool.true_and] at ci
      clear d0 d1 d2 d3 d4 d5 d6 d7 d8 u4
      obtain ⟨⟨d0,d1,d2,d3,d4,d5,d6,d7,d8⟩,_⟩:=cells9 bS
      rw [HH.out] at d3
      have u5:=obj_lt bS
      have cS:=Hi (az.out.trans aU)
      clear bS aU dV az dw dh cX
      cases hs:vaOf y.dflt y.ty with
      | false=>
        rw [hs] at ci
        have HE:Hid (R=80):=Hi (by rw [bA.out,if_neg (by rw [hs];simp)])
        have dW:=Hi ci
        clear ci hs bA
        go_wp2_with fail
        refine dW.out.mono ?_
        rintro e w6 ⟨rfl,bs⟩
        go_wp2
        go_ret
        exact ⟨by rw [HE.out];rfl,cS.out.trans bs⟩
      | true=>
        rw [hs] at ci
        have HE:Hid (R=0):=Hi (by rw [bA.out,if_pos hs])
        have dW:=Hi ci
        clear ci hs bA
        go_wp2_with fail
        refine dW.out.mono ?_
        rintro e w6 ⟨rfl,bs⟩
        go_wp2
        go_ret
        exact ⟨by rw [HE.out];rfl,cS.out.trans bs⟩
end
section
open Go.RowKit Go.BigFrame
structure NewB (w:World) (l:List UInt8) (e:Ending) (w':World):Prop where
 ex:∃ v,e=.returned v∧OwnB 5 w' w.heap.size v l∧Keeps w w'
theorem OwnB.named {e:TypeId} {w:World} {base:Nat} {v:Value} {l l':List UInt8} (h:OwnB e w base v l) (hl:l=l'):∃ A M c,v=.slice A M c∧OwnB e w base (.slice A M c) l':=by
 obtain ⟨A,c,rfl,_⟩:=h.form
 exact ⟨A,_,c,rfl,hl▸h⟩
theorem OwnB.seen {e:TypeId} {w:World} {base:Nat} {v:Value} {l:List UInt8} (h:OwnB e w base v l):∃ A M c,v=.slice A M c∧Hid (l.length=M)∧Hid (Reads w A l):=by
 obtain ⟨A,c,rfl,_,hr,_⟩:=h.form
 exact ⟨A,_,c,rfl,Hi rfl,Hi hr⟩
theorem refTypeBytes_calls (n:Nat):∀ (t:Ty) (d:Nat) (tv:Value) (w:World),n+d=5→tyCheck t d=0→TyAt w tv t →
 Calls Tryz.prog 144 #[tv] w (NewB w (putTy t)):=by
 induction n with
 | zero=>intro t d tv w hd h;cases t;have:=(tyCheck_ok h).1;omega
 | succ n ih=>
   intro t d tv w hd br ht
   cases t with
   | mk k ts=>
     obtain ⟨_,ag,f5,eJ,aG⟩:=tyCheck_ok br
     obtain ⟨B,cB,rfl⟩:=ht.form
     change TyAt w (.agg #[.int .i64 k,.slice B ts.length cB]) _ at ht
     change Calls _ _ #[.agg #[.int .i64 k,.slice B ts.length cB]] _ _
     have au:putTy (.mk k ts)=UInt8.ofNat k.toNat :: if k=6∨k=7 then putTyHead ts else []:=by rw [putTy]
     generalize hR:putTy (.mk k ts)=R at au
     obtain ⟨W0,ab⟩:∃ W0,W0=(w.alloc (.cells #[.int .i64 k,.slice B ts.length cB] 97)).alloc (.cells #[.int .u8 k] 5):=⟨_,rfl⟩
     have aj:Keeps w W0:=by rw [ab];exact ((Keeps.refl w).alloc _).alloc _
     have aI:W0.heap.size=w.heap.size+1+1:=by rw [ab];simp
     have ay:W0.heap[w.heap.size]? = some (.cells #[.int .i64 k,.slice B ts.length cB] 97):=by rw [ab];exact obj_old (obj_new w _) _
     have aB:IntKind.u8.wrap k=k:=by simp [IntKind.wrap,IntKind.bits,IntKind.signed];omega
     have bG:OwnB 5 W0 w.heap.size (.slice (some ⟨w.heap.size+1,0,none⟩) 1 1) [UInt8.ofNat k.toNat]:=by
      have h:=OwnB.lit 5 (w.alloc (.cells #[.int .i64 k,.slice B ts.length cB] 97)) w.heap.size [UInt8.ofNat k.toNat] #[.int .u8 k] (by show [Value.int .u8 k]=[Value.int .u8 (((UInt8.ofNat k.toNat).toNat:Nat):Int)];rw [u8_of k (by omega) (by omega)]) (by simp) (by simp)
      rw [← ab] at h
      simpa using h
     have bJ:∀ t,ts=[t]→∃ ad k' A2 n2 c2,B=some ad∧w.cell? ad=some (.int .i64 k')∧w.cell? ⟨ad.block,ad.off+1,none⟩=some (.slice A2 n2 c2)∧ad.block<w.heap.size∧TyAt W0 (.agg #[.int .i64 k',.slice A2 n2 c2]) t:=by
      intro t e
      subst e
      obtain ⟨ad,k',s',e,aF,x0,x1,b9⟩:=(TyS.of_at ht).elem
      obtain ⟨A3,c3,n3,rfl⟩:∃ A3 c3 n3,s'=Value.slice A3 n3 c3:=by
       obtain ⟨A3,c3,e⟩:=b9.form
       simp only [Value.agg.injEq,Array.mk.injEq,List.cons.injEq] at e
       exact ⟨A3,c3,_,e.2.1⟩
      exact ⟨ad,k',A3,n3,c3,e,x0,x1,aF,(b9.later aj.below).at⟩
     have dE:=Hi bJ
     have HO:=Hi bG
     have an:=Hi aj
     have al:=Hi ay
     have dH:=Hi aI
     have dA:=Hi eJ
     have ey:=Hi aG
     have IH:=Hi ih
     have HP:=Hi au
     clear ih br ht bG aj ay aI eJ aG au hR bJ
     generalize hN:ts.length=N at al ab
     have HN:=Hi hN
     clear hN
     by_cases hk:k=6∨k=7
     · obtain ⟨t,rfl,dy⟩:=dA.out hk
       have HE:Hid (R=UInt8.ofNat k.toNat :: putTy t):=Hi (by rw [HP.out,if_pos hk,putTyHead])
       obtain rfl:N=1:=HN.out.symm
       obtain ⟨ad,k',A2,n2,c2,rfl,x0,x1,aF,b9⟩:=dE.out t rfl
       have hc:=IH.out t (d+1) _ W0 (by omega) dy b9
       have HC:=Hi hc
       have cq:=putTy_length n t (d+1) (by omega) dy
       generalize putTy t=T at HE HC cq
       have bu:=Hi cq
       clear hc b9 IH dy HP dE ey dA cq
       rcases hk with rfl | rfl
       all_goals
        go_enter Tryz.func144,Tryz.ntmps144
        go_wp2_with fail
        rw [← ab]
        clear ab x0 x1
        refine HC.out.mono ?_
        rintro e w2 ⟨v2,rfl,ae,ai⟩
        obtain ⟨A3,c3,rfl,_,em,_⟩:=ae.form
        have bq:=Hi em
        have aA:=Hi (an.out.trans ai)
        have aZ:=Hi (HO.out.below ai)
        clear ae ai em
        generalize hM:T.length=M
        have HM:=Hi hM
        clear hM
        go_wp2_with (at_builtin;refine wpList_append_bytes (w0:=w) w.heap.size rfl _ _ 31 5 rfl Tryz.underlying31 info_u8b _ [UInt8.ofNat (Int.toNat _)] T rfl aZ.out A3 c3 (by rw [HM.out];rfl) bq.out ?c2 aA.out.size aA.out ?_)
        case c2=>have:=bu.out;simp;omega
        intro v3 w3 ar aQ _ _
        have co:=Hi ar
        have aH:=Hi aQ
        clear ar aQ
        obtain ⟨A4,c4,rfl,_⟩:=co.out.form
        generalize f6:([UInt8.ofNat (Int.toNat _)]++T).length=M2 at *
        go_wp2
        go_ret
        exact ⟨_,rfl,by rw [HE.out];exact co.out,aH.out⟩
     · have HE:Hid (R=[UInt8.ofNat k.toNat]):=Hi (by rw [HP.out,if_neg hk])
       have q6:(k==6)=false:=by rw [beq_eq_false_iff_ne];omega
       have q7:(k==7)=false:=by rw [beq_eq_false_iff_ne];omega
       clear hk IH HP dE ey dA
       go_enter Tryz.func144,Tryz.ntmps144
       go_wp2
       go_ret
       refine ⟨_,rfl, ?_, ?_⟩
       · rw [HE.out,← ab];exact HO.out
       · rw [← ab];exact an.out
end
section
open Go.RowKit Go.BigFrame
attribute [local go_sem] run_storeF
theorem vaOwn_bool {i:Int} {f:Nat} {t:ByteArray} {l:List Va} (h:vaOwn (.mk 1 i f t l)=true):i=0∨i=1:=by
 rw [vaOwn] at h
 simp at h
 omega
theorem vaOwn_opt {i:Int} {f:Nat} {t:ByteArray} {l:List Va} (h:vaOwn (.mk 6 i f t l)=true):l.length=0∨l.length=1:=by
 rw [vaOwn] at h
 simp at h
 omega
theorem vaOwn_kind {k i:Int} {f:Nat} {t:ByteArray} {l:List Va} (h:vaOwn (.mk k i f t l)=true):1≤k∧k≤7:=by
 rw [vaOwn] at h
 by_cases h1:1≤k <;> by_cases h7:k≤7
 · exact ⟨h1,h7⟩
 all_goals
  exfalso
  simp only [show ¬k=1 by omega,show ¬k=2 by omega,show ¬k=3 by omega,show ¬k=4 by omega,show ¬k=5 by omega,show ¬k=6 by omega,show ¬k=7 by omega] at h
  simp at h
theorem refVaB_one (i:Int) (hi:i=0∨i=1) (f:Nat) (t:ByteArray) (B:Option Addr) (nb cb:Nat) (w:World) :
 Calls Tryz.prog 146 #[.agg #[.int .i64 1,.int .i64 i,.float .f64 f,.string t,.slice B nb cb]] w (NewB w [if i=1 then 1 else 0]):=by
 obtain ⟨W0,ab⟩:∃ W0,W0=(w.alloc (.cells #[.int .i64 1,.int .i64 i,.float .f64 f,.string t,.slice B nb cb] 101)).alloc (.cells #[.int .u8 i] 5):=⟨_,rfl⟩
 have aj:Keeps w W0:=by rw [ab];exact ((Keeps.refl w).alloc _).alloc _
 obtain ⟨y,hy⟩:∃ y:UInt8,y=if i=1 then 1 else 0:=⟨_,rfl⟩
 rw [← hy]
 have aa:OwnB 5 W0 w.heap.size (.slice (some ⟨w.heap.size+1,0,none⟩) 1 1) [y]:=by
  have h:=OwnB.lit 5 (w.alloc (.cells #[.int .i64 1,.int .i64 i,.float .f64 f,.string t,.slice B nb cb] 101)) w.heap.size [y] #[.int .u8 i] (by rw [hy];rcases hi with rfl | rfl <;> rfl) (by simp) (by simp)
  rw [← ab] at h
  simpa using h
 have hw:IntKind.u8.wrap i=i:=by rcases hi with rfl | rfl <;> rfl
 have HO:=Hi aa
 have an:=Hi aj
 have ds:=Hi ab
 clear aa aj hi ab hy
 go_enter Tryz.func146,Tryz.ntmps146
 go_wp2
 go_ret
 refine ⟨_,rfl, ?_, ?_⟩
 · rw [← ds.out];exact HO.out
 · rw [← ds.out];exact an.out
theorem refVaB_two (i:Int) (eb:-9223372036854775808≤i) (e3:i≤9223372036854775807) (f:Nat) (t:ByteArray) (B:Option Addr) (nb cb:Nat) (w:World) :
 Calls Tryz.prog 146 #[.agg #[.int .i64 2,.int .i64 i,.float .f64 f,.string t,.slice B nb cb]] w (NewB w (leb (zig i))):=by
 obtain ⟨W0,ab⟩:∃ W0,W0=w.alloc (.cells #[.int .i64 2,.int .i64 i,.float .f64 f,.string t,.slice B nb cb] 101):=⟨_,rfl⟩
 have aj:Keeps w W0:=by rw [ab];exact (Keeps.refl w).alloc _
 have HZ:=Hi (ref3Zig_calls i eb e3 W0)
 have HP:=Hi (ref3Put_calls (zig i) (zig_lt eb e3) W0)
 have an:=Hi aj
 clear aj
 go_enter Tryz.func146,Tryz.ntmps146
 go_wp2_with fail
 rw [← ab]
 clear ab
 refine HZ.out.mono ?_
 rintro e w1 ⟨rfl,rfl⟩
 go_wp2_with fail
 refine HP.out.mono ?_
 rintro e w1 ⟨v1,rfl,af,ag⟩
 have HO:=Hi (af.weaken an.out.size)
 have ax:=Hi (an.out.trans ag)
 clear af ag
 go_wp2
 go_ret
 exact ⟨v1,rfl,HO.out,ax.out⟩
theorem refVaB_three (i:Int) (f:Nat) (hf:f<18446744073709551616) (t:ByteArray) (B:Option Addr) (nb cb:Nat) (w:World) :
 Calls Tryz.prog 146 #[.agg #[.int .i64 3,.int .i64 i,.float .f64 f,.string t,.slice B nb cb]] w (NewB w (le8 (fbits f))):=by
 obtain ⟨W0,ab⟩:∃ W0,W0=w.alloc (.cells #[.int .i64 3,.int .i64 i,.float .f64 f,.string t,.slice B nb cb] 101):=⟨_,rfl⟩
 have aj:Keeps w W0:=by rw [ab];exact (Keeps.refl w).alloc _
 have hN:fbits f<18446744073709551616:=by unfold fbits;split <;> omega
 have HC:=Hi (refBits_calls f W0)
 have an:=Hi aj
 clear aj
 generalize fbits f=N at HC hN ⊢
 go_enter Tryz.func146,Tryz.ntmps146
 go_wp2_with fail
 rw [← ab]
 clear ab
 refine HC.out.mono ?_
 rintro e w1 ⟨rfl,rfl⟩
 clear HC
 go_wp2_with fail
 go_loopw [3,5,6] (fun b x j wr=>∃ (k:Nat) (A':Option Addr) (c':Nat),k≤8∧j=.int .i64 (k:Int)∧x=.int .u64 ((N / 256 ^ k:Nat):Int)∧b=.slice A' k c'∧OwnB 5 wr w.heap.size (.slice A' k c') ((le8 N).take k)∧Keeps w wr) (fun _ _ j _=>8-(intOf j).toNat)
 case atStart=>exact ⟨0,none,0,by omega,rfl,by simp,rfl,OwnB.nil _ _ _,an.out⟩
 case round=>
  obtain ⟨k,A',c',hk,rfl,rfl,rfl,aa,am⟩:=hrel
  have HO:=Hi aa
  have HK:=Hi am
  clear aa am
  by_cases aF:k<8
  · have HT:=Hi (le8_take N k aF)
    have cf:N / 256 ^ (k+1)=N / 256 ^ k / 256:=by rw [Nat.pow_succ,Nat.div_div_eq_div_mul]
    have hM:N / 256 ^ k<18446744073709551616:=Nat.lt_of_le_of_lt (Nat.div_le_self _ _) hN
    generalize N / 256 ^ k=M at HT cf hM
    have HD:=Hi cf
    clear cf
    obtain ⟨W1,ao⟩:∃ W1,W1=wr.alloc (.cells #[.int .u8 ((M:Int) % 256)] 5):=⟨_,rfl⟩
    have ag:Keeps wr W1:=by rw [ao];exact (Keeps.refl wr).alloc _
    have bO:Reads W1 (some ⟨wr.heap.size,0,none⟩) [UInt8.ofNat (M % 256)]:=by
     rw [ao];exact Reads.new _ _ _ _ _ (by show [Value.int .u8 ((M:Int) % 256)]=[Value.int .u8 (((UInt8.ofNat (M % 256)).toNat:Nat):Int)];rw [byte_of])
    have f4:IntKind.u8.wrap ((M:Int) % 256)=(M:Int) % 256:=by simp [IntKind.wrap,IntKind.bits,IntKind.signed]
    have ax:=Hi (HK.out.trans ag)
    have bv:=Hi (HO.out.below ag)
    have cA:=Hi bO
    have cQ:=Hi ao
    clear ag bO ao
    go_wp2_with (at_builtin;rw [← cQ.out];refine wpList_append_bytes (w0:=w) w.heap.size rfl _ _ 31 5 rfl Tryz.underlying31 info_u8b (.slice A' k c') ((le8 N).take k) [UInt8.ofNat (M % 256)] rfl bv.out (some ⟨wr.heap.size,0,none⟩) 1 rfl cA.out ?c2 ax.out.size ax.out ?_)
    case c2=>rw [List.length_take,le8_length];simp;omega
    intro v2 w2 ae cg _ _
    have eq:((le8 N).take k++[UInt8.ofNat (M % 256)]).length=k+1:=by
     rw [List.length_append,List.length_take,le8_length];simp;omega
    obtain ⟨A2,c2,e2,_⟩:=ae.form
    rw [eq] at e2
    subst e2
    rw [← HT.out] at ae
    have aZ:=Hi ae
    have aN:=Hi cg
    clear ae cg eq
    go_wp2
    exact ⟨⟨k+1,A2,c2,by omega,by go_num,by rw [HD.out];go_num,rfl,aZ.out,aN.out⟩,by simp [intOf];omega⟩
  · have h8:k=8:=by omega
    subst h8
    have e8:(le8 N).take 8=le8 N:=List.take_of_length_le (by rw [le8_length];exact Nat.le_refl _)
    rw [e8] at HO
    clear e8
    go_wp2
    go_ret
    exact ⟨_,rfl,HO.out,HK.out⟩
theorem refVaB_text (k:Int) (hk:k=4∨k=5) (i:Int) (f:Nat) (t:ByteArray) (ht:t.size≤1024) (B:Option Addr) (nb cb:Nat) (w:World) :
 Calls Tryz.prog 146 #[.agg #[.int .i64 k,.int .i64 i,.float .f64 f,.string t,.slice B nb cb]] w (NewB w (textBytes t)):=by
 obtain ⟨W0,ab⟩:∃ W0,W0=w.alloc (.cells #[.int .i64 k,.int .i64 i,.float .f64 f,.string t,.slice B nb cb] 101):=⟨_,rfl⟩
 have aj:Keeps w W0:=by rw [ab];exact (Keeps.refl w).alloc _
 have ay:W0.heap[w.heap.size]? = some (.cells #[.int .i64 k,.int .i64 i,.float .f64 f,.string t,.slice B nb cb] 101):=by rw [ab];exact obj_new w _
 have HP:=Hi (ref3Put_calls t.size (by omega) W0)
 have dG:=Hi (leb_le t.size (by omega))
 have an:=Hi aj
 have al:=Hi ay
 clear aj ay
 rcases hk with rfl | rfl
 all_goals
  go_enter Tryz.func146,Tryz.ntmps146
  go_wp2_with fail
  rw [← ab]
  clear ab
  refine HP.out.mono ?_
  rintro e w1 ⟨v1,rfl,af,ag⟩
  have aw:=(ag.below.block _ (obj_lt al.out)).trans al.out
  obtain ⟨d0,d1,d2,d3,d4,_⟩:=cells5 aw
  have u1:=obj_lt aw
  have HO:=Hi (af.weaken an.out.size)
  have ax:=Hi (an.out.trans ag)
  clear af ag aw
  obtain ⟨A1,c1,rfl,_⟩:=HO.out.form
  generalize hm:(leb t.size).length=m at HO
  have HM:=Hi hm
  clear hm
  go_wp2_with (at_builtin;refine wpList_append_text w.heap.size rfl _ _ 31 9 5 rfl Tryz.underlying31 Tryz.underlying9 info_u8b (.slice A1 m c1) (leb t.size) rfl HO.out t rfl ?d1 ax.out.size ?_)
  case d1=>have:=dG.out;omega
  intro v2 w2 ae eC _
  have aZ:=Hi ae
  have aA:=Hi (ax.out.trans' eC fun j e=>HO.out.ge j e)
  clear ae eC
  go_wp2
  go_ret
  exact ⟨v2,rfl,aZ.out,aA.out⟩
def RefPutV (n:Nat):Prop:=∀ (x:Va) (xv:Value) (d:Nat) (w:World),SizeOf.sizeOf x<n→x.wf→vaCheck x d=0→VaAt w xv x→(putVa x).length≤140737488355000 →
    Calls Tryz.prog 146 #[xv] w (NewB w (putVa x))
theorem refVaB_items (k:Int) (hk:k=6∨k=7) (n:Nat) (ih:RefPutV n) (i:Int) (f:Nat) (t:ByteArray) (B:Option Addr) (cb d:Nat) (items:List Va) (w:World)
 (hn:SizeOf.sizeOf (Va.mk k i f t items)<n+1) (cm:(Va.mk k i f t items).wf) (cr:vaCheck (.mk k i f t items) d=0) (hv:VaAt w (.agg #[.int .i64 k,.int .i64 i,.float .f64 f,.string t,.slice B items.length cb]) (.mk k i f t items)) (ap:(putVa (.mk k i f t items)).length≤140737488355000) :
 Calls Tryz.prog 146 #[.agg #[.int .i64 k,.int .i64 i,.float .f64 f,.string t,.slice B items.length cb]] w (NewB w (putVa (.mk k i f t items))):=by
 obtain ⟨W0,ab⟩:∃ W0,W0=w.alloc (.cells #[.int .i64 k,.int .i64 i,.float .f64 f,.string t,.slice B items.length cb] 101):=⟨_,rfl⟩
 have aj:Keeps w W0:=by rw [ab];exact (Keeps.refl w).alloc _
 have ay:W0.heap[w.heap.size]? = some (.cells #[.int .i64 k,.int .i64 i,.float .f64 f,.string t,.slice B items.length cb] 101):=by rw [ab];exact obj_new w _
 obtain ⟨_,cN,_,dg,_,eo⟩:=vaCheck_ok cr
 have cZ:Va.wfs items:=by rw [Va.wf] at cm;exact cm.2.2.2
 obtain ⟨head,ak⟩:∃ head,head=if k=6 then [if items.length=1 then (1:UInt8) else 0] else leb items.length:=⟨_,rfl⟩
 have au:putVa (.mk k i f t items)=head++putVas items:=by
  rw [putVa,ak]
  simp only [show ¬k=1 by omega,show ¬k=2 by omega,show ¬k=3 by omega,show ¬(k=4∨k=5) by omega,if_false]
  split <;> simp
 generalize hP:putVa (.mk k i f t items)=P at au ap ⊢
 have aC:head.length+(putVas items).length≤140737488355000:=by
  rw [au,List.length_append] at ap
  omega
 have eF:head.length≤10:=by
  rw [ak]
  split
  · simp
  · exact leb_le _ (by omega)
 have cz:k=6→items.length=0∨items.length=1:=fun e=>by subst e;exact vaOwn_opt cN
 clear hP ap
 have HV:=Hi hv
 have al:=Hi ay
 have an:=Hi aj
 have bU:=Hi au
 have eg:=Hi cZ
 have bo:=Hi hn
 have IH:=Hi ih
 have aL:=Hi aC
 have es:=Hi eF
 have en:=Hi eo
 have be:=Hi cz
 clear hv ay aj au cZ cm hn ih aC eo cN cr cz eF
 generalize hN:items.length=N at dg HV al ab ak be ⊢
 have HN:=Hi hN
 clear hN
 rcases hk with rfl | rfl
 · rw [if_pos rfl] at ak
   rcases be.out rfl with h | h
   · subst h
     have dc:head=[0]:=by rw [ak];rfl
     have HH:=Hi dc
     clear ak dc be
     obtain ⟨W1,ao⟩:∃ W1,W1=W0.alloc (.cells #[.int .u8 0] 5):=⟨_,rfl⟩
     have ag:Keeps w W1:=by rw [ao];exact an.out.alloc _
     have bO:Reads W1 (some ⟨w.heap.size+1,0,none⟩) [0]:=by rw [ao];exact Reads.new_at _ _ _ _ _ rfl _ (by rw [ab];simp)
     have aw:W1.heap[w.heap.size]? = some (.cells #[.int .i64 6,.int .i64 i,.float .f64 f,.string t,.slice B 0 cb] 101):=by rw [ao];exact obj_old al.out _
     have b8:=Hi ag
     have cA:=Hi bO
     have bb:=Hi aw
     have cQ:Hid (W1=(w.alloc (.cells #[.int .i64 6,.int .i64 i,.float .f64 f,.string t,.slice B 0 cb] 101)).alloc (.cells #[.int .u8 0] 5)):=Hi (by rw [ao,ab])
     clear ag bO aw ao ab
     go_enter Tryz.func146,Tryz.ntmps146
     go_wp2_with (first | (go_at_call 145;refine (refFlag_calls _ _).mono ?_;rintro e w1 ⟨rfl,rfl⟩) | (at_builtin;rw [← cQ.out];refine wpList_append_bytes (w0:=w) w.heap.size rfl _ _ 31 5 rfl Tryz.underlying31 info_u8b (.slice none 0 0) [] [0] rfl (OwnB.nil _ _ _) (some ⟨w.heap.size+1,0,none⟩) 1 rfl cA.out (by simp) b8.out.size b8.out ?_))
     intro v1 w1 af bm d9 _
     have b0:=(d9.block _ (obj_lt bb.out) (by simp [Value.ownBlock])).trans bb.out
     obtain ⟨A1,M1,c1,rfl,ah⟩:=af.named (l':=head) (by rw [HH.out])
     have bv:=Hi ah
     have aV:=Hi b0
     have ax:Hid (Keeps w w1):=Hi bm
     clear af ah b0 bm d9
     go_wp2_with fail
     go_loopw [3,7] (fun b j wr=>∃ (m:Nat) (A':Option Addr) (c' M:Nat),m≤0∧j=.int .i64 (m:Int)∧b=.slice A' M c'∧OwnB 5 wr w.heap.size (.slice A' M c') (head++putVas (items.take m))∧wr.heap[w.heap.size]? = some (.cells #[.int .i64 6,.int .i64 i,.float .f64 f,.string t,.slice B 0 cb] 101)∧Keeps w wr) (fun _ j _=>0-(intOf j).toNat)
     case atStart=>exact ⟨0,_,_,_,Nat.zero_le _,rfl,rfl,by simpa [putVas] using bv.out,aV.out,ax.out⟩
     case round=>
      obtain ⟨m,A',c',M,hm,rfl,rfl,aa,aK,am⟩:=hrel
      obtain ⟨d0,d1,d2,d3,d4,_⟩:=cells5 aK
      have u1:=obj_lt aK
      by_cases aF:m<0
      · exact absurd aF (by omega)
      · have e:items.take m=items:=List.take_of_length_le (by rw [HN.out];omega)
        rw [e,← bU.out] at aa
        have HO:=Hi aa
        have HK:=Hi am
        clear aa am e aK
        go_wp2
        go_ret
        exact ⟨_,rfl,HO.out,HK.out⟩
   · subst h
     have dc:head=[1]:=by rw [ak];rfl
     have HH:=Hi dc
     clear ak dc be
     obtain ⟨W1,ao⟩:∃ W1,W1=W0.alloc (.cells #[.int .u8 1] 5):=⟨_,rfl⟩
     have ag:Keeps w W1:=by rw [ao];exact an.out.alloc _
     have bO:Reads W1 (some ⟨w.heap.size+1,0,none⟩) [1]:=by rw [ao];exact Reads.new_at _ _ _ _ _ rfl _ (by rw [ab];simp)
     have aw:W1.heap[w.heap.size]? = some (.cells #[.int .i64 6,.int .i64 i,.float .f64 f,.string t,.slice B 1 cb] 101):=by rw [ao];exact obj_old al.out _
     have b8:=Hi ag
     have cA:=Hi bO
     have bb:=Hi aw
     have cQ:Hid (W1=(w.alloc (.cells #[.int .i64 6,.int .i64 i,.float .f64 f,.string t,.slice B 1 cb] 101)).alloc (.cells #[.int .u8 1] 5)):=Hi (by rw [ao,ab])
     clear ag bO aw ao ab
     go_enter Tryz.func146,Tryz.ntmps146
     go_wp2_with (first | (go_at_call 145;refine (refFlag_calls _ _).mono ?_;rintro e w1 ⟨rfl,rfl⟩) | (at_builtin;rw [← cQ.out];refine wpList_append_bytes (w0:=w) w.heap.size rfl _ _ 31 5 rfl Tryz.underlying31 info_u8b (.slice none 0 0) [] [1] rfl (OwnB.nil _ _ _) (some ⟨w.heap.size+1,0,none⟩) 1 rfl cA.out (by simp) b8.out.size b8.out ?_))
     intro v1 w1 af bm d9 _
     have b0:=(d9.block _ (obj_lt bb.out) (by simp [Value.ownBlock])).trans bb.out
     obtain ⟨A1,M1,c1,rfl,ah⟩:=af.named (l':=head) (by rw [HH.out])
     have bv:=Hi ah
     have aV:=Hi b0
     have ax:Hid (Keeps w w1):=Hi bm
     clear af ah b0 bm d9
     go_wp2_with fail
     go_loopw [3,7] (fun b j wr=>∃ (m:Nat) (A':Option Addr) (c' M:Nat),m≤1∧j=.int .i64 (m:Int)∧b=.slice A' M c'∧OwnB 5 wr w.heap.size (.slice A' M c') (head++putVas (items.take m))∧wr.heap[w.heap.size]? = some (.cells #[.int .i64 6,.int .i64 i,.float .f64 f,.string t,.slice B 1 cb] 101)∧Keeps w wr) (fun _ j _=>1-(intOf j).toNat)
     case atStart=>exact ⟨0,_,_,_,Nat.zero_le _,rfl,rfl,by simpa [putVas] using bv.out,aV.out,ax.out⟩
     case round=>
      obtain ⟨m,A',c',M,hm,rfl,rfl,aa,aK,am⟩:=hrel
      obtain ⟨d0,d1,d2,d3,d4,_⟩:=cells5 aK
      have u1:=obj_lt aK
      by_cases aF:m<1
      · have a9:m<items.length:=by rw [HN.out];exact aF
        obtain ⟨ad,A2,c2,rfl,_,x0,x1,x2,x3,x4,bJ⟩:=(VaS.of_at (HV.out.later am.below)).elem m a9
        have aE:=putVas_take items m a9
        have aS:=putVas_le items (m+1)
        rw [aE,List.length_append] at aS
        have cP:SizeOf.sizeOf (items[m]'a9)<n:=by
         have h1:=List.sizeOf_lt_of_mem (List.getElem_mem a9)
         have h2:=bo.out
         simp only [Va.mk.sizeOf_spec] at h2
         omega
        have hc:=IH.out (items[m]'a9) _ (d+1) wr cP (Va.wfs_get items m a9 eg.out) (vaChecks_get items _ m a9 en.out) bJ.at (by have h1:=aL.out;omega)
        have aT:=Hi aE
        have aP:=Hi aS
        clear bJ aE cP aS
        obtain ⟨x,hx⟩:∃ x,x=items[m]'a9:=⟨_,rfl⟩
        rw [← hx] at x0 x1 x2 x3 x4 hc aT aP
        have HC:=Hi hc
        have HO:=Hi aa
        have de:=Hi aK
        have HK:=Hi am
        clear hc aa aK am hx a9
        generalize x.items.length=nx at x4 HC
        generalize x.kind=kx at x0 HC
        generalize x.int=ix at x1 HC
        generalize x.fl=fx at x2 HC
        generalize x.text=tx at x3 HC
        go_wp2_with fail
        refine HC.out.mono ?_
        rintro e w2 ⟨v2,rfl,ae,ai⟩
        obtain ⟨A3,M3,c3,rfl,dM,bq⟩:=ae.seen
        have aA:=Hi (HK.out.trans ai)
        have aZ:=Hi (HO.out.below ai)
        have aN:=Hi ((ai.below.block _ (obj_lt de.out)).trans de.out)
        clear ae ai HC d0 d1 d2 d3 d4 u1 x0 x1 x2 x3 x4
        go_wp2_with (at_builtin;refine wpList_append_bytes (w0:=w) w.heap.size rfl _ _ 31 5 rfl Tryz.underlying31 info_u8b (.slice A' M c') (head++putVas (items.take m)) (putVa x) rfl aZ.out A3 c3 (by rw [dM.out];rfl) bq.out ?c2 aA.out.size aA.out ?_)
        case c2=>have:=aP.out;have:=aL.out;have:=es.out;rw [List.length_append];omega
        intro v3 w3 ar aQ dl _
        have bj:=(dl.block _ (obj_lt aN.out) (fun e=>own_obj_ne aZ.out aN.out (by decide) e.symm)).trans aN.out
        obtain ⟨A4,M4,c4,rfl,aq⟩:=ar.named (l':=head++putVas (items.take (m+1))) (by rw [aT.out];try simp only [List.append_assoc])
        have co:=Hi aq
        have aH:=Hi aQ
        have bV:=Hi bj
        clear ar aq aQ dl bj
        go_wp2
        exact ⟨⟨m+1,A4,c4,_,by omega,by go_num,rfl,co.out,bV.out,aH.out⟩,by simp [intOf];omega⟩
      · have e:items.take m=items:=List.take_of_length_le (by rw [HN.out];omega)
        rw [e,← bU.out] at aa
        have HO:=Hi aa
        have HK:=Hi am
        clear aa am e aK
        go_wp2
        go_ret
        exact ⟨_,rfl,HO.out,HK.out⟩
 · rw [if_neg (by omega)] at ak
   have HH:=Hi ak
   have HP:=Hi (ref3Put_calls N (by omega) W0)
   clear ak be
   go_enter Tryz.func146,Tryz.ntmps146
   go_wp2_with fail
   rw [← ab]
   clear ab
   refine HP.out.mono ?_
   rintro e w1 ⟨v1,rfl,af,ag⟩
   obtain ⟨A1,M1,c1,rfl,ah⟩:=af.named HH.out.symm
   have bv:=Hi (ah.weaken an.out.size)
   have aV:=Hi ((ag.below.block _ (obj_lt al.out)).trans al.out)
   have ax:=Hi (an.out.trans ag)
   clear af ah ag HP
   obtain ⟨d0,d1,d2,d3,d4,_⟩:=cells5 aV.out
   have u1:=obj_lt aV.out
   go_wp2_with fail
   clear d0 d1 d2 d3 d4 u1
   go_loopw [3,7] (fun b j wr=>∃ (m:Nat) (A':Option Addr) (c' M:Nat),m≤N∧j=.int .i64 (m:Int)∧b=.slice A' M c'∧OwnB 5 wr w.heap.size (.slice A' M c') (head++putVas (items.take m))∧wr.heap[w.heap.size]? = some (.cells #[.int .i64 7,.int .i64 i,.float .f64 f,.string t,.slice B N cb] 101)∧Keeps w wr) (fun _ j _=>N-(intOf j).toNat)
   case atStart=>exact ⟨0,_,_,_,Nat.zero_le _,rfl,rfl,by simpa [putVas] using bv.out,aV.out,ax.out⟩
   case round=>
    obtain ⟨m,A',c',M,hm,rfl,rfl,aa,aK,am⟩:=hrel
    obtain ⟨d0,d1,d2,d3,d4,_⟩:=cells5 aK
    have u1:=obj_lt aK
    by_cases aF:m<N
    · have a9:m<items.length:=by rw [HN.out];exact aF
      obtain ⟨ad,A2,c2,rfl,_,x0,x1,x2,x3,x4,bJ⟩:=(VaS.of_at (HV.out.later am.below)).elem m a9
      have aE:=putVas_take items m a9
      have aS:=putVas_le items (m+1)
      rw [aE,List.length_append] at aS
      have cP:SizeOf.sizeOf (items[m]'a9)<n:=by
       have h1:=List.sizeOf_lt_of_mem (List.getElem_mem a9)
       have h2:=bo.out
       simp only [Va.mk.sizeOf_spec] at h2
       omega
      have hc:=IH.out (items[m]'a9) _ (d+1) wr cP (Va.wfs_get items m a9 eg.out) (vaChecks_get items _ m a9 en.out) bJ.at (by have h1:=aL.out;omega)
      have aT:=Hi aE
      have aP:=Hi aS
      clear bJ aE cP aS
      obtain ⟨x,hx⟩:∃ x,x=items[m]'a9:=⟨_,rfl⟩
      rw [← hx] at x0 x1 x2 x3 x4 hc aT aP
      have HC:=Hi hc
      have HO:=Hi aa
      have de:=Hi aK
      have HK:=Hi am
      clear hc aa aK am hx a9
      generalize x.items.length=nx at x4 HC
      generalize x.kind=kx at x0 HC
      generalize x.int=ix at x1 HC
      generalize x.fl=fx at x2 HC
      generalize x.text=tx at x3 HC
      go_wp2_with fail
      refine HC.out.mono ?_
      rintro e w2 ⟨v2,rfl,ae,ai⟩
      obtain ⟨A3,M3,c3,rfl,dM,bq⟩:=ae.seen
      have aA:=Hi (HK.out.trans ai)
      have aZ:=Hi (HO.out.below ai)
      have aN:=Hi ((ai.below.block _ (obj_lt de.out)).trans de.out)
      clear ae ai HC d0 d1 d2 d3 d4 u1 x0 x1 x2 x3 x4
      go_wp2_with (at_builtin;refine wpList_append_bytes (w0:=w) w.heap.size rfl _ _ 31 5 rfl Tryz.underlying31 info_u8b (.slice A' M c') (head++putVas (items.take m)) (putVa x) rfl aZ.out A3 c3 (by rw [dM.out];rfl) bq.out ?c2 aA.out.size aA.out ?_)
      case c2=>have:=aP.out;have:=aL.out;have:=es.out;rw [List.length_append];omega
      intro v3 w3 ar aQ dl _
      have bj:=(dl.block _ (obj_lt aN.out) (fun e=>own_obj_ne aZ.out aN.out (by decide) e.symm)).trans aN.out
      obtain ⟨A4,M4,c4,rfl,aq⟩:=ar.named (l':=head++putVas (items.take (m+1))) (by rw [aT.out];try simp only [List.append_assoc])
      have co:=Hi aq
      have aH:=Hi aQ
      have bV:=Hi bj
      clear ar aq aQ dl bj
      go_wp2
      exact ⟨⟨m+1,A4,c4,_,by omega,by go_num,rfl,co.out,bV.out,aH.out⟩,by simp [intOf];omega⟩
    · have e:items.take m=items:=List.take_of_length_le (by rw [HN.out];omega)
      rw [e,← bU.out] at aa
      have HO:=Hi aa
      have HK:=Hi am
      clear aa am e aK
      go_wp2
      go_ret
      exact ⟨_,rfl,HO.out,HK.out⟩
theorem refValueBytes_calls (n:Nat):RefPutV n:=by
 induction n with
 | zero=>intro x xv d w hn;exact absurd hn (by omega)
 | succ n ih=>
   intro x xv d w hn cm cr hv ap
   obtain ⟨B,cb,rfl⟩:=hv.form
   cases x with
   | mk k i f t l=>
     have cN:=(vaCheck_ok cr).2.1
     have eR:=(vaCheck_ok cr).2.2.1
     obtain ⟨h1,h7⟩:=vaOwn_kind cN
     have hw:=cm
     rw [Va.wf] at hw
     show Calls _ _ #[.agg #[.int .i64 k,.int .i64 i,.float .f64 f,.string t,.slice B l.length cb]] w _
     by_cases hk:k=6∨k=7
     · exact refVaB_items k hk n ih i f t B cb d l w hn cm cr hv ap
     · obtain rfl | rfl | rfl | ej:k=1∨k=2∨k=3∨k=4∨k=5:=by omega
       · have:=refVaB_one i (vaOwn_bool cN) f t B l.length cb w
         rw [putVa,if_pos rfl];exact this
       · have:=refVaB_two i hw.1 hw.2.1 f t B l.length cb w
         rw [putVa,if_neg (by omega),if_pos rfl];exact this
       · have:=refVaB_three i f hw.2.2.1 t B l.length cb w
         rw [putVa,if_neg (by omega),if_neg (by omega),if_pos rfl];exact this
       · have:=refVaB_text k ej i f t eR B l.length cb w
         rw [putVa,if_neg (by omega),if_neg (by omega),if_neg (by omega),if_pos ej];exact this
def Col.fine (c:Col):Prop:=tyCheck c.ty 1=0∧c.dflt.wf∧(c.has=true→vaCheck c.dflt 1=0)
theorem refBytesOf_calls (A:Option Addr) (c:Nat) (l:List Col) (w:World) (hs:SchS w (fun b=>b<w.heap.size) A l) (hc:∀ j (h:j<l.length),(l[j]'h).fine) (ap:(putS l).length≤140737488354000) :
 Calls Tryz.prog 106 #[.agg #[.slice A l.length c]] w (NewB w (putS l)):=by
 obtain ⟨W0,ab⟩:∃ W0,W0=w.alloc (.cells #[.slice A l.length c] 30):=⟨_,rfl⟩
 have aj:Keeps w W0:=by rw [ab];exact (Keeps.refl w).alloc _
 have ay:W0.heap[w.heap.size]? = some (.cells #[.slice A l.length c] 30):=by rw [ab];exact obj_new w _
 have cw:=hs.len
 have hp:=ref3Put_calls l.length (by omega) W0
 have hP:putS l=leb l.length++putCols l:=rfl
 generalize putS l=P at hP ap ⊢
 have aC:(leb l.length).length+(putCols l).length≤140737488354000:=by rw [hP,List.length_append] at ap;exact ap
 have HS:=Hi hs
 have HC:=Hi hc
 have HP:=Hi hp
 have eu:=Hi hP
 have aL:=Hi aC
 have an:=Hi aj
 have al:=Hi ay
 clear hs hc hp hP aC aj ay ap
 generalize hN:l.length=N at cw HP eu aL al ab ⊢
 have HN:=Hi hN
 clear hN
 go_enter Tryz.func106,Tryz.ntmps106
 go_wp2_with fail
 rw [← ab]
 clear ab
 refine HP.out.mono ?_
 rintro e w1 ⟨v1,rfl,af,ag⟩
 have aw:w1.heap[w.heap.size]? = some (.cells #[.slice A N c] 30):=by rw [ag.below.block _ (obj_lt al.out)];exact al.out
 obtain ⟨t0,_⟩:=cells1 aw
 have u1:=obj_lt aw
 obtain ⟨A1,M1,c1,rfl,ah⟩:=(af.weaken an.out.size).named (l':=leb N) rfl
 have bv:=Hi ah
 have aV:=Hi aw
 have ax:=Hi (an.out.trans ag)
 clear af ah ag HP aw al
 go_wp2_with fail
 clear t0 u1
 go_loopw [3,4] (fun b j wr=>∃ (m:Nat) (A':Option Addr) (c' M:Nat),m≤N∧j=.int .i64 (m:Int)∧b=.slice A' M c'∧OwnB 5 wr w.heap.size (.slice A' M c') (leb N++putCols (l.take m))∧wr.heap[w.heap.size]? = some (.cells #[.slice A N c] 30)∧Keeps w wr) (fun _ j _=>N-(intOf j).toNat)
 case atStart=>exact ⟨0,A1,c1,M1,Nat.zero_le _,rfl,rfl,by simpa [putCols] using bv.out,aV.out,ax.out⟩
 case round=>
  obtain ⟨m,A',c',M,hm,rfl,rfl,aa,bp,hk⟩:=hrel
  obtain ⟨t0,_⟩:=cells1 bp
  have u0:=obj_lt bp
  by_cases aF:m<N
  · have a9:m<l.length:=by rw [HN.out];exact aF
    obtain ⟨ad,x0,x1,x2,x3,x4,x5,x6,x7,x8,rfl,_,ac,c0,c1,c2,c3,c4,c5,c6,c7,c8⟩:=(HS.out.later hk.below).get m a9
    have dT:=HC.out m a9
    have aE:=putCols_take l m a9
    have aS:=putCols_le l (m+1)
    rw [aE,List.length_append] at aS
    obtain ⟨y,hy⟩:∃ y,y=l[m]'a9:=⟨_,rfl⟩
    rw [← hy] at ac dT aE aS
    clear hy a9
    obtain ⟨⟨A2,k2,e2⟩,A8,k8,e8⟩:=ac.form
    have cU:=ac.nm;have ba:=ac.tk;have cY:=ac.hs;have cO:=ac.dk;have cG:=ac.di;have dd:=ac.df;have da:=ac.dt
    subst cU ba e2 cY cO cG dd da e8
    obtain ⟨W1,ao⟩:∃ W1,W1=wr.alloc (.cells #[.string y.name,.int .i64 y.ty.kind,.slice A2 y.ty.of.length k2,.bool y.has,.int .i64 y.dflt.kind,.int .i64 y.dflt.int,.float .f64 y.dflt.fl,.string y.dflt.text,.slice A8 y.dflt.items.length k8] 103):=⟨_,rfl⟩
    have cI:Keeps wr W1:=by rw [ao];exact (Keeps.refl wr).alloc _
    have cM:W1.heap[wr.heap.size]? = some (.cells #[.string y.name,.int .i64 y.ty.kind,.slice A2 y.ty.of.length k2,.bool y.has,.int .i64 y.dflt.kind,.int .i64 y.dflt.int,.float .f64 y.dflt.fl,.string y.dflt.text,.slice A8 y.dflt.items.length k8] 103):=by rw [ao];exact obj_new wr _
    have cq:(putCol y).length=(textBytes y.name).length+((putTy y.ty).length+(1+(if y.has=true then putVa y.dflt else []).length)):=by
     unfold putCol;rw [List.length_append,List.length_append,List.length_cons];omega
    have ec:(textBytes y.name).length=(leb y.name.size).length+y.name.size:=by unfold textBytes;rw [List.length_append];rfl
    have eX:=aL.out
    have ed:(leb N++putCols (l.take m)).length=(leb N).length+(putCols (l.take m)).length:=List.length_append
    have f8:y.name.size≤140737488354000:=by omega
    have au:=ref3Put_calls y.name.size (by omega) W1
    have e4:∀ k,(Value.slice A' M c').ownBlock=some k→k<wr.heap.size:=fun k e=>own_lt aa k e
    have ef:=Hi au
    have eL:=Hi e4
    have aM:=Hi aa
    have ck:=Hi bp
    have cy:=Hi cM
    have aT:=Hi aE
    have aO:=Hi ac
    have HK:=Hi hk
    have dK:=Hi dT
    have bu:=Hi cq
    have ea:=Hi ec
    have aP:=Hi aS
    have cc:=Hi ed
    have dX:=Hi cI
    clear au e4 bp cM aE ac hk dT aa cI aS eX ed cq ec
    go_wp2_with fail
    rw [← ao]
    clear ao t0 u0 c0 c1 c2 c3 c4 c5 c6 c7 c8
    refine ef.out.mono ?_
    rintro e w2 ⟨vn,rfl,bB,ai⟩
    have cg:=(ai.below.block _ (obj_lt cy.out)).trans cy.out
    obtain ⟨⟨d0,d1,d2,d3,d4,d5,d6,d7,d8⟩,_⟩:=cells9 cg
    have u2:=obj_lt cg
    have bW:=dX.out.trans ai
    have aJ:=refTypeBytes_calls 4 y.ty 1 _ w2 (by omega) dK.out.1 (aO.out.ty.later bW.below).at
    obtain ⟨An,Mn,cn,rfl,bk⟩:=bB.named (l':=leb y.name.size) rfl
    have bX:=Hi aJ
    have eW:=Hi bk
    have aN:=Hi cg
    have aA:=Hi bW
    clear aJ bB bk cg bW ai ef cy
    go_wp2_with fail
    refine bX.out.mono ?_
    rintro e w3 ⟨vt,rfl,bF,bT⟩
    clear d0 d1 d2 d3 d4 d5 d6 d7 d8 u2
    have aQ:=(bT.below.block _ (obj_lt aN.out)).trans aN.out
    obtain ⟨⟨d0,d1,d2,d3,d4,d5,d6,d7,d8⟩,_⟩:=cells9 aQ
    have u3:=obj_lt aQ
    obtain ⟨At,Mt,ct,rfl,b6⟩:=bF.named (l':=putTy y.ty) rfl
    have eE:=Hi b6
    have aH:=Hi aQ
    have cu:=Hi (aA.out.trans bT)
    have cL:=aA.out.size
    have el:=bT.size
    have bo:=Hi (show wr.heap.size≤w2.heap.size∧w2.heap.size≤w3.heap.size from ⟨cL,el⟩)
    obtain ⟨An2,Mn2,cn2,en2,eZ,eU⟩:=(eW.out.below bT).seen
    injection en2 with g1 g2 g3
    subst g1 g2 g3
    have cp:=Hi (aM.out.below cu.out)
    clear bF b6 aQ bT cL el bX aN
    go_wp2_with (at_builtin;refine wpList_append_bytes (w0:=w3) w.heap.size rfl _ _ 31 5 rfl Tryz.underlying31 info_u8b (.slice A' M c') (leb N++putCols (l.take m)) (leb y.name.size) rfl cp.out An cn (by rw [eZ.out];rfl) eU.out ?c2 ?c3 (Below.refl _ _) ?_)
    case c2=>have h1:=aL.out;have h2:=cc.out;have h3:=bu.out;have h4:=aP.out;have h5:=ea.out;omega
    case c3=>have h1:=HK.out.size;have h2:=bo.out;omega
    intro v4 w4 aq _ e5 dZ
    obtain ⟨A4,M4,c4,rfl,bg⟩:=aq.named (l':=leb N++putCols (l.take m)++leb y.name.size) (by first | rfl | simp only [List.append_assoc,List.cons_append,List.nil_append])
    have dJ:=Grows.of bg e5 dZ
    have bC:=dJ.touch.obj aH.out (fun e=>own_obj_ne cp.out aH.out (by decide) e)
    clear d0 d1 d2 d3 d4 d5 d6 d7 d8 u3
    obtain ⟨⟨d0,d1,d2,d3,d4,d5,d6,d7,d8⟩,_⟩:=cells9 bC
    have u4:=obj_lt bC
    have dx:=Hi dJ
    clear aq bg e5 dZ dJ bC
    go_wp2_with (at_builtin;refine wpList_append_text w.heap.size rfl _ _ 31 9 5 rfl Tryz.underlying31 Tryz.underlying9 info_u8b (.slice A4 M4 c4) (leb N++putCols (l.take m)++leb y.name.size) rfl dx.out.own y.name rfl ?e1 ?e2 ?_)
    case e1=>have h1:=aL.out;have h2:=cc.out;have h3:=bu.out;have h4:=aP.out;have h5:=ea.out;rw [List.length_append];omega
    case e2=>have h1:=HK.out.size;have h2:=bo.out;have h3:=dx.out.touch.size;omega
    intro v5 w5 bE ez eG
    obtain ⟨A5,M5,c5,rfl,bl⟩:=bE.named (l':=leb N++putCols (l.take m)++textBytes y.name) (by unfold textBytes;first | rfl | simp only [List.append_assoc,List.cons_append,List.nil_append])
    have du:=dx.out.trans (Grows.of bl ez eG)
    have bS:=du.touch.obj aH.out (fun e=>own_obj_ne cp.out aH.out (by decide) e)
    clear d0 d1 d2 d3 d4 d5 d6 d7 d8 u4
    obtain ⟨⟨d0,d1,d2,d3,d4,d5,d6,d7,d8⟩,_⟩:=cells9 bS
    have u5:=obj_lt bS
    have e7:OwnB 5 w5 w2.heap.size (.slice At Mt ct) (putTy y.ty):=du.touch.ownB eE.out (fun k e e'=>by have h1:=eE.out.ge k e;have h2:=eL.out k e';have h3:=bo.out;omega)
    obtain ⟨At2,Mt2,ct2,et2,eT,eK⟩:=e7.seen
    injection et2 with g1 g2 g3
    subst g1 g2 g3
    have dq:=Hi du
    clear bE bl ez eG du bS e7 dx
    go_wp2_with (at_builtin;refine wpList_append_bytes (w0:=w5) w.heap.size rfl _ _ 31 5 rfl Tryz.underlying31 info_u8b (.slice A5 M5 c5) (leb N++putCols (l.take m)++textBytes y.name) (putTy y.ty) rfl dq.out.own At ct (by rw [eT.out];rfl) eK.out ?f2 ?f3 (Below.refl _ _) ?_)
    case f2=>have h1:=aL.out;have h2:=cc.out;have h3:=bu.out;have h4:=aP.out;rw [List.length_append];omega
    case f3=>have h1:=HK.out.size;have h2:=bo.out;have h3:=dq.out.touch.size;omega
    intro v6 w6 bM _ e9 eD
    obtain ⟨A6,M6,c6,rfl,bc⟩:=bM.named (l':=leb N++putCols (l.take m)++textBytes y.name++putTy y.ty) (by first | rfl | simp only [List.append_assoc,List.cons_append,List.nil_append])
    have dI:=dq.out.trans (Grows.of bc e9 eD)
    have dY:=dI.touch.obj aH.out (fun e=>own_obj_ne cp.out aH.out (by decide) e)
    clear d0 d1 d2 d3 d4 d5 d6 d7 d8 u5
    obtain ⟨⟨d0,d1,d2,d3,d4,d5,d6,d7,d8⟩,_⟩:=cells9 dY
    have u6:=obj_lt dY
    have bN:=Hi dI
    clear bM bc e9 eD dI dY dq
    cases hh:y.has with
    | true=>
      rw [hh] at d3
      have HH:=Hi hh
      clear hh
      obtain ⟨W6,bx⟩:∃ W6,W6=w6.alloc (.cells #[.int .u8 1] 5):=⟨_,rfl⟩
      have bs:Keeps w6 W6:=by rw [bx];exact (Keeps.refl w6).alloc _
      have bA:=Hi (show Reads W6 (some ⟨w6.heap.size,0,none⟩) [1] by rw [bx];exact Reads.new _ _ _ _ _ rfl)
      have ch:=Hi bs
      have dN:=Hi bx
      clear bs bx
      go_wp2_with (first | (go_at_call 145;refine (refFlag_calls _ _).mono ?_;rintro e w7 ⟨rfl,rfl⟩) | (at_builtin;rw [← dN.out];refine wpList_append_bytes (w0:=W6) w.heap.size rfl _ _ 31 5 rfl Tryz.underlying31 info_u8b (.slice A6 M6 c6) (leb N++putCols (l.take m)++textBytes y.name++putTy y.ty) [1] rfl (bN.out.own.below ch.out) (some ⟨w6.heap.size,0,none⟩) 1 rfl bA.out ?g2 ?g3 (Below.refl _ _) ?_))
      case g2=>have h1:=aL.out;have h2:=cc.out;have h3:=bu.out;have h4:=aP.out;rw [List.length_append,List.length_append];simp only [List.length_cons,List.length_nil];omega
      case g3=>have h1:=HK.out.size;have h2:=bo.out;have h3:=bN.out.touch.size;have h4:=ch.out.size;omega
      intro v7 w7 aD _ db dj
      obtain ⟨A7,M7,c7,rfl,av⟩:=aD.named (l':=leb N++putCols (l.take m)++textBytes y.name++putTy y.ty++[1]) (by first | rfl | simp only [List.append_assoc,List.cons_append,List.nil_append])
      have bw:=bN.out.trans (Grows.first ch.out (Grows.of av db dj))
      have bZ:=bw.touch.obj aH.out (fun e=>own_obj_ne cp.out aH.out (by decide) e)
      clear d0 d1 d2 d3 d4 d5 d6 d7 d8 u6
      obtain ⟨⟨d0,d1,d2,d3,d4,d5,d6,d7,d8⟩,_⟩:=cells9 bZ
      rw [HH.out] at d3
      have u7:=obj_lt bZ
      have eB:VaAt w7 (.agg #[.int .i64 y.dflt.kind,.int .i64 y.dflt.int,.float .f64 y.dflt.fl,.string y.dflt.text,.slice A8 y.dflt.items.length k8]) y.dflt:=((aO.out.dv.later cu.out.below).touch bw.touch (fun b hb e=>by have:=aM.out.ge b e;omega)).at
      have ep:=refValueBytes_calls (SizeOf.sizeOf y.dflt+1) y.dflt _ 1 w7 (by omega) dK.out.2.1 (dK.out.2.2 HH.out) eB (by have h1:=aL.out;have h2:=cc.out;have h3:=bu.out;have h4:=aP.out;rw [HH.out,if_pos rfl] at h3;omega)
      have er:=Hi ep
      have cH:=Hi bw
      clear ep eB aD av db dj bw bZ bN
      go_wp2_with fail
      refine er.out.mono ?_
      rintro e w8 ⟨v8,rfl,bQ,ee⟩
      obtain ⟨Av,Mv,cv,rfl,eS,eP⟩:=bQ.seen
      have dr:=Hi (cH.out.later ee)
      clear bQ ee er cH d0 d1 d2 d3 d4 d5 d6 d7 d8 u7
      go_wp2_with (at_builtin;refine wpList_append_bytes (w0:=w8) w.heap.size rfl _ _ 31 5 rfl Tryz.underlying31 info_u8b (.slice A7 M7 c7) (leb N++putCols (l.take m)++textBytes y.name++putTy y.ty++[1]) (putVa y.dflt) rfl dr.out.own Av cv (by rw [eS.out];rfl) eP.out ?i2 ?i3 (Below.refl _ _) ?_)
      case i2=>have h1:=aL.out;have h2:=cc.out;have h3:=bu.out;have h4:=aP.out;rw [HH.out,if_pos rfl] at h3;rw [List.length_append,List.length_append,List.length_append];simp only [List.length_cons,List.length_nil];omega
      case i3=>have h1:=HK.out.size;have h2:=bo.out;have h3:=dr.out.touch.size;omega
      intro v9 w9 bP _ eI ev
      have hE:leb N++putCols (l.take m)++textBytes y.name++putTy y.ty++[1]++putVa y.dflt=leb N++putCols (l.take (m+1)):=by
       rw [aT.out];unfold putCol;rw [HH.out];simp
      obtain ⟨A9,M9,c9,rfl,aW⟩:=bP.named ((by first | rfl | simp only [List.append_assoc,List.cons_append,List.nil_append]:_=leb N++putCols (l.take m)++textBytes y.name++putTy y.ty++[1]++putVa y.dflt).trans hE)
      have dF:=dr.out.trans (Grows.of aW eI ev)
      have cW:=(dF.touch.obj ((cu.out.below.block _ (obj_lt ck.out)).trans ck.out) (fun e=>own_obj_ne aM.out ck.out (by decide) e))
      have eH:=Hi dF
      have dP:=Hi cW
      clear bP aW eI ev dF hE cW dr
      go_wp2
      exact ⟨⟨m+1,A9,c9,M9,by omega,by go_num,rfl,eH.out.own,dP.out,(HK.out.trans cu.out).grow eH.out aM.out.ge⟩,by simp [intOf];omega⟩
    | false=>
      rw [hh] at d3
      have HH:=Hi hh
      clear hh
      obtain ⟨W6,bx⟩:∃ W6,W6=w6.alloc (.cells #[.int .u8 0] 5):=⟨_,rfl⟩
      have bs:Keeps w6 W6:=by rw [bx];exact (Keeps.refl w6).alloc _
      have bA:=Hi (show Reads W6 (some ⟨w6.heap.size,0,none⟩) [0] by rw [bx];exact Reads.new _ _ _ _ _ rfl)
      have ch:=Hi bs
      have dN:=Hi bx
      clear bs bx
      go_wp2_with (first | (go_at_call 145;refine (refFlag_calls _ _).mono ?_;rintro e w7 ⟨rfl,rfl⟩) | (at_builtin;rw [← dN.out];refine wpList_append_bytes (w0:=W6) w.heap.size rfl _ _ 31 5 rfl Tryz.underlying31 info_u8b (.slice A6 M6 c6) (leb N++putCols (l.take m)++textBytes y.name++putTy y.ty) [0] rfl (bN.out.own.below ch.out) (some ⟨w6.heap.size,0,none⟩) 1 rfl bA.out ?j2 ?j3 (Below.refl _ _) ?_))
      case j2=>have h1:=aL.out;have h2:=cc.out;have h3:=bu.out;have h4:=aP.out;rw [List.length_append,List.length_append];simp only [List.length_cons,List.length_nil];omega
      case j3=>have h1:=HK.out.size;have h2:=bo.out;have h3:=bN.out.touch.size;have h4:=ch.out.size;omega
      intro v7 w7 aD _ db dj
      have hE:leb N++putCols (l.take m)++textBytes y.name++putTy y.ty++[0]=leb N++putCols (l.take (m+1)):=by
       rw [aT.out];unfold putCol;rw [HH.out];simp
      obtain ⟨A7,M7,c7,rfl,av⟩:=aD.named ((by first | rfl | simp only [List.append_assoc,List.cons_append,List.nil_append]:_=leb N++putCols (l.take m)++textBytes y.name++putTy y.ty++[0]).trans hE)
      have bw:=bN.out.trans (Grows.first ch.out (Grows.of av db dj))
      have bZ:=bw.touch.obj aH.out (fun e=>own_obj_ne cp.out aH.out (by decide) e)
      have cW:=(bw.touch.obj ((cu.out.below.block _ (obj_lt ck.out)).trans ck.out) (fun e=>own_obj_ne aM.out ck.out (by decide) e))
      clear d0 d1 d2 d3 d4 d5 d6 d7 d8 u6
      obtain ⟨⟨d0,d1,d2,d3,d4,d5,d6,d7,d8⟩,_⟩:=cells9 bZ
      rw [HH.out] at d3
      have u7:=obj_lt bZ
      have cH:=Hi bw
      have dP:=Hi cW
      clear aD av db dj bw hE cW bN bZ
      go_wp2
      exact ⟨⟨m+1,A7,c7,M7,by omega,by go_num,rfl,cH.out.own,dP.out,(HK.out.trans cu.out).grow cH.out aM.out.ge⟩,by simp [intOf];omega⟩
  · have e8:l.take m=l:=List.take_of_length_le (by rw [HN.out];omega)
    rw [e8] at aa
    have HO:=Hi aa
    have HK:=Hi hk
    clear aa hk e8 bp
    go_wp2
    go_ret
    exact ⟨_,rfl,by rw [eu.out];exact HO.out,HK.out⟩
theorem col_fine {ns:List ByteArray} {c:Col} (h:colCheck ns c=0) (hw:c.dflt.wf):c.fine:=
 ⟨(colCheck_ok h).2.2.1,hw,fun hh=>((colCheck_ok h).2.2.2.2 hh).1⟩
theorem refCheck_calls (A:Option Addr) (c:Nat) (l:List Col) (w:World) (aR:l.length≤c) (hs:SchS w (fun b=>b<w.heap.size) A l) (hw:∀ x∈l,x.dflt.wf) (aJ:Tabs w) :
 Calls Tryz.prog 69 #[.agg #[.slice A l.length c]] w fun e w'=>e=.returned (.int .i64 (schCheck l))∧Keeps w w':=by
 obtain ⟨R,hR⟩:∃ R,R=schCheck l:=⟨_,rfl⟩
 rw [← hR]
 unfold schCheck at hR
 have cw:=hs.len
 by_cases h0:l.length=0
 · rw [if_pos h0] at hR
   subst hR
   rw [h0]
   clear hs hw aJ h0 cw aR
   go_enter Tryz.func69,Tryz.ntmps69
   go_wp2
   go_ret
   exact ⟨rfl,(Keeps.refl w).alloc _⟩
 by_cases cl:16<l.length
 · rw [if_neg h0,if_pos cl] at hR
   subst hR
   have q0:((l.length:Int)==0)=false:=by rw [beq_eq_false_iff_ne];omega
   clear hs hw aJ h0 aR
   generalize l.length=N at *
   go_enter Tryz.func69,Tryz.ntmps69
   go_wp2
   go_ret
   exact ⟨rfl,(Keeps.refl w).alloc _⟩
 rw [if_neg h0,if_neg cl] at hR
 have cV:l.length≤16:=by omega
 have f0:1≤l.length:=by omega
 have q0:((l.length:Int)==0)=false:=by rw [beq_eq_false_iff_ne];omega
 obtain ⟨W0,ab⟩:∃ W0,W0=w.alloc (.cells #[.slice A l.length c] 30):=⟨_,rfl⟩
 have aj:Keeps w W0:=by rw [ab];exact (Keeps.refl w).alloc _
 have ay:W0.heap[w.heap.size]? = some (.cells #[.slice A l.length c] 30):=by rw [ab];exact obj_new w _
 have HR:=Hi hR
 have HS:=Hi hs
 have HW:=Hi hw
 have bX:=Hi aJ
 have an:=Hi aj
 have al:=Hi ay
 clear hR hs hw aJ h0 cl cw aj ay
 generalize bI:l.length=N at cV f0 q0 aR ab al ⊢
 have HL:=Hi bI
 clear bI
 have ds:=Hi ab
 clear ab
 go_enter Tryz.func69,Tryz.ntmps69
 go_wp2_with fail
 go_loopw [3] (fun j wr=>∃ m:Nat,m≤N∧j=.int .i64 (m:Int)∧colsCheck [] l=colsCheck ((l.take m).map Col.name) (l.drop m)∧Keeps W0 wr) (fun j _=>N-(intOf j).toNat)
 case atStart=>exact ⟨0,Nat.zero_le _,rfl,rfl,by rw [ds.out];exact Keeps.refl _⟩
 case round=>
  obtain ⟨m,hm,rfl,b7,am⟩:=hrel
  have aB:Keeps w wr:=an.out.trans am
  have bp:=(am.below.block _ (obj_lt al.out)).trans al.out
  obtain ⟨t0,_⟩:=cells1 bp
  have u0:=obj_lt bp
  by_cases aF:m<N
  · have a9:m<l.length:=by rw [HL.out];exact aF
    have e6:=HS.out.later aB.below
    have cE:=(HS.out.later (aB.trans (Keeps.drew wr)).below).mono (S':=fun b=>b<wr.drew.heap.size) fun b _ hb=>by have:=(aB.trans (Keeps.drew wr)).size;omega
    have bK:=cE.take m
    obtain ⟨ad,x0,x1,x2,x3,x4,x5,x6,x7,x8,rfl,_,ac,c0,c1,c2,c3,c4,c5,c6,c7,c8⟩:=e6.get m a9
    have ek:=colsCheck_drop l m a9
    rw [ek] at b7
    have bL:ColC wr.drew (fun b=>b<wr.drew.heap.size) x0 x1 x2 x3 x4 x5 x6 x7 x8 (l[m]'a9):=(ac.later (Keeps.drew wr).below).mono fun b _ hb=>by have h1:=aB.size;have h2:wr.drew.heap.size=wr.heap.size:=rfl;omega
    have ap:(l.take m).length=m:=by rw [List.length_take];omega
    have hc:=refColumn_calls (some ad) c (l.take m) x0 x1 x2 x3 x4 x5 x6 x7 x8 (l[m]'a9) wr.drew bK bL (bX.out.below (aB.trans (Keeps.drew wr)).below)
    rw [ap] at hc
    obtain ⟨⟨A2,k2,e2⟩,A8,k8,e8⟩:=ac.form
    have cU:=ac.nm;have ba:=ac.tk;have cY:=ac.hs;have cO:=ac.dk;have cG:=ac.di;have dd:=ac.df;have da:=ac.dt
    subst cU ba e2 cY cO cG dd da e8
    have bd:=Hi b7
    have dQ:=Hi am
    have bn:=Hi aB
    clear b7 am aB bp e6 cE bK ek ac bL ap
    generalize colCheck ((l.take m).map Col.name) (l[m]'a9)=E at hc bd
    generalize (l[m]'a9).name=y0 at c0 hc
    generalize (l[m]'a9).ty.kind=y1 at c1 hc
    generalize (l[m]'a9).ty.of.length=y2 at c2 hc
    generalize (l[m]'a9).has=y3 at c3 hc
    generalize (l[m]'a9).dflt.kind=y4 at c4 hc
    generalize (l[m]'a9).dflt.int=y5 at c5 hc
    generalize (l[m]'a9).dflt.fl=y6 at c6 hc
    generalize (l[m]'a9).dflt.text=y7 at c7 hc
    generalize (l[m]'a9).dflt.items.length=y8 at c8 hc
    have HC:=Hi hc
    clear hc a9
    have f7:m≤c:=by omega
    by_cases he:E=0
    · subst he
      have dB:Hid (colsCheck [] l=colsCheck ((l.take (m+1)).map Col.name) (l.drop (m+1))):=Hi (by rw [bd.out,if_pos rfl])
      clear bd
      go_wp2_with fail
      go_region_law (go_simp;go_at_call 105;refine HC.out.mono ?_;rintro e w2 ⟨rfl,ai⟩)
      all_goals
       have aA:=Hi (dQ.out.trans ((Keeps.drew wr).trans ai))
       clear ai
       go_wp2
       exact ⟨⟨m+1,by omega,by go_num,dB.out,aA.out⟩,by simp [intOf];omega⟩
    · have qe:(E != 0)=true:=by simpa using he
      have dB:Hid (R=E):=Hi (by
       have h2:colsCheck [] l=E:=by rw [bd.out,if_neg he]
       rw [HR.out,h2,if_neg he])
      clear bd he
      go_wp2_with fail
      go_region_law (go_simp;go_at_call 105;refine HC.out.mono ?_;rintro e w2 ⟨rfl,ai⟩)
      all_goals
       have aA:=Hi (bn.out.trans ((Keeps.drew wr).trans ai))
       clear ai
       go_wp2
       go_ret
       exact ⟨by rw [dB.out];rfl,aA.out⟩
  · have aY:colsCheck [] l=0:=by
     rw [b7,List.drop_eq_nil_of_le (by rw [HL.out];omega),colsCheck]
    have hR:=HR.out
    rw [if_pos aY] at hR
    have bD:=refBytesOf_calls A c l wr ((HS.out.later aB.below).mono fun b _ hb=>by have:=aB.size;omega) (fun j hj=>by
     have bh:=List.getElem_mem hj
     obtain ⟨ns,dL⟩:=colsCheck_ok l [] aY _ bh
     exact col_fine dL (HW.out _ bh)) (putS_bound (by rw [HL.out];exact cV) aY HW.out)
    rw [HL.out] at bD
    generalize hP:putS l=P at bD hR
    have dO:=Hi bD
    have cK:=Hi hR
    have bn:=Hi aB
    clear bD hR aB am bp b7 aY hP
    go_wp2_with fail
    refine dO.out.mono ?_
    rintro e w2 ⟨v2,rfl,aa,ai⟩
    obtain ⟨A',c',rfl,eh,_⟩:=aa.form
    clear aa
    generalize P.length=L at cK eh ⊢
    by_cases hL:1024<L
    · have HE:Hid (R=2):=Hi (by rw [cK.out,if_pos hL])
      clear cK
      go_wp2
      go_ret
      exact ⟨by rw [HE.out];rfl,bn.out.trans ai⟩
    · have HE:Hid (R=0):=Hi (by rw [cK.out,if_neg hL])
      have f9:L≤1024:=by omega
      clear cK hL
      go_wp2
      go_ret
      exact ⟨by rw [HE.out];rfl,bn.out.trans ai⟩
theorem refSchEncode_calls (A:Option Addr) (c:Nat) (l:List Col) (w:World) (aR:l.length≤c) (hs:SchS w (fun b=>b<w.heap.size) A l) (hw:∀ x∈l,x.dflt.wf) (aJ:Tabs w) :
 Calls Tryz.prog 123 #[.agg #[.slice A l.length c]] w (EncPost w l):=by
 obtain ⟨W0,ab⟩:∃ W0,W0=w.alloc (.cells #[.slice A l.length c] 30):=⟨_,rfl⟩
 have aj:Keeps w W0:=by rw [ab];exact (Keeps.refl w).alloc _
 have ay:W0.heap[w.heap.size]? = some (.cells #[.slice A l.length c] 30):=by rw [ab];exact obj_new w _
 have aI:=(hs.later aj.below).mono (S':=fun b=>b<W0.heap.size) fun b hb _=>hb
 have aY:=refCheck_calls A c l W0 aR aI hw (aJ.below aj.below)
 have an:=Hi aj
 have al:=Hi ay
 have dH:=Hi aI
 have HW:=Hi hw
 clear aj ay aI hs aJ aR
 by_cases hz:schCheck l=0
 · have br:=hz
   unfold schCheck at br
   have cl:l.length≤16:=by
    split at br
    · omega
    split at br
    · omega
    · omega
   have dR:colsCheck [] l=0:=by
    split at br
    · omega
    split at br
    · omega
    split at br
    · assumption
    · contradiction
   have bR:∀ j (h:j<l.length),(l[j]'h).fine:=fun j hj=>by
    have bh:=List.getElem_mem hj
    obtain ⟨ns,dL⟩:=colsCheck_ok l [] dR _ bh
    exact col_fine dL (hw _ bh)
   have eA:=putS_bound cl dR hw
   rw [hz] at aY
   have HE:Hid (∀ e w',(∃ A c,e=.returned (.tuple #[.slice A (putS l).length c,.int .i64 0])∧OwnB 5 w' w.heap.size (.slice A (putS l).length c) (putS l)∧Keeps w w')→EncPost w l e w'):=Hi fun e w' h=>by unfold EncPost;rw [if_pos hz];exact h
   have cj:=Hi aY
   have eY:=Hi bR
   have eO:=Hi eA
   clear aY bR eA br dR hz hw
   generalize bI:l.length=N at cl ab al cj ⊢
   have HL:=Hi bI
   clear bI
   go_enter Tryz.func123,Tryz.ntmps123
   go_wp2_with fail
   rw [← ab]
   clear ab
   refine cj.out.mono ?_
   rintro e w1 ⟨rfl,ag⟩
   have aw:=(ag.below.block _ (obj_lt al.out)).trans al.out
   obtain ⟨d0,_⟩:=cells1 aw
   have u1:=obj_lt aw
   have bD:=refBytesOf_calls A c l w1 ((dH.out.later ag.below).mono fun b hb _=>hb) eY.out eO.out
   rw [HL.out] at bD
   have dO:=Hi bD
   have ax:=Hi (an.out.trans ag)
   clear bD ag aw cj
   go_wp2_with fail
   refine dO.out.mono ?_
   rintro e w2 ⟨v2,rfl,aa,ai⟩
   obtain ⟨A',c',rfl,eh,_⟩:=aa.form
   have ae:=aa.weaken ax.out.size
   have HO:=Hi ae
   have aA:=Hi (ax.out.trans ai)
   clear aa ai ae
   go_wp2
   go_ret2
   exact HE.out _ _ ⟨A',c',rfl,HO.out,aA.out⟩
 · have HE:Hid (∀ e w',(e=.returned (.tuple #[.slice none 0 0,.int .i64 (schCheck l)])∧Keeps w w')→EncPost w l e w'):=Hi fun e w' h=>by unfold EncPost;rw [if_neg hz];exact h
   have qe:(schCheck l != 0)=true:=by simpa using hz
   generalize schCheck l=E at aY qe HE
   have cj:=Hi aY
   clear aY hz hw al dH HW
   generalize l.length=N at ab cj ⊢
   go_enter Tryz.func123,Tryz.ntmps123
   go_wp2_with fail
   rw [← ab]
   clear ab
   refine cj.out.mono ?_
   rintro e w1 ⟨rfl,ag⟩
   go_wp2
   go_ret2
   exact HE.out _ _ ⟨rfl,an.out.trans ag⟩
end
end Go.Proofs.YtihodcnnappkbaaGreatDoor
