/-
  The walk of the reference's Is. Condition: the value and the type stand for trees; the contract of the reference's Utf. The walk of the reference's Name. No condition. The walk of the reference's column. Condition: the slice stands for columns, the cells for one, the tables of unicode/utf8 are as laid. The walk of the reference's typeBytes. Condition: the value stands for a type that may be. The walk of the reference's ValueBytes. Condition: the value may be, its numbers are of 64 bits. The walk of the reference's bytesOf. Condition: the columns may be, the numbers are of 64 bits. The walks of the reference's Check and Encode of a schema. Condition: the slice stands for columns, its capacity is Go's, the numbers are of 64 bits, the tables of unicode/utf8 are as laid.
-/
import Derived.Test.YtihodcnnappkbaaGreatDoorG21
import Derived.Test.YtihodcnnappkbaaGreatDoorG20
import Derived.Test.YtihodcnnappkbaaGreatDoorG2
import Derived.Test.YtihodcnnappkbaaGreatDoorG3
import Derived.Test.YtihodcnnappkbaaGreatDoorG4
import Derived.Test.YtihodcnnappkbaaGreatDoorG5
import Derived.Test.YtihodcnnappkbaaGreatDoorG11
import Derived.Test.YtihodcnnappkbaaGreatDoorG1
import Derived.Test.YtihodcnnappkbaaGreatDoorG6
namespace Go.Proofs.YtihodcnnappkbaaGreatDoor
open Go.RowKit Go.BigFrame
set_option linter.unusedVariables false
set_option linter.unusedSimpArgs false
attribute [local go_sem] run_storeF
set_option maxRecDepth 10000 in
set_option maxHeartbeats 2000000 in
theorem refIs_calls (hut0:RefUtf) (x:Va) (t:Ty) (v tv:Value) (w:World) (hv:VaAt w v x) (ht:TyAt w tv t) (htb:Tabs w) :
 Calls Tryz.prog 142 #[v,tv] w fun e w'=>e=.returned (.bool (decide (tyCheck t 1=0)&&(decide (vaCheck x 1=0)&&vaOf x t)))∧Keeps w w':=by
 obtain ⟨B,cb,rfl⟩:=hv.form
 obtain ⟨D,cd,rfl⟩:=ht.form
 obtain ⟨W0,hW0⟩:∃ W0,W0=(w.alloc (.cells #[.int .i64 x.kind,.int .i64 x.int,.float .f64 x.fl,.string x.text,.slice B x.items.length cb] 101)).alloc (.cells #[.int .i64 t.kind,.slice D t.of.length cd] 97):=⟨_,rfl⟩
 have hk0:Keeps w W0:=by rw [hW0];exact ((Keeps.refl w).alloc _).alloc _
 have hb0:W0.heap[w.heap.size]? = some (.cells #[.int .i64 x.kind,.int .i64 x.int,.float .f64 x.fl,.string x.text,.slice B x.items.length cb] 101):=by rw [hW0];exact obj_old (obj_new w _) _
 have hb1:W0.heap[w.heap.size+1]? = some (.cells #[.int .i64 t.kind,.slice D t.of.length cd] 97):=by rw [hW0];exact obj_new_at _ _ _ (by simp)
 have h1:=fun wx (hx:Keeps W0 wx)=>refCheckType_calls t _ wx (ht.later (hk0.trans hx).below)
 have h2:=fun wx (hx:Keeps W0 wx)=>refVaCheckTop_calls hut0 x _ wx (hv.later (hk0.trans hx).below) (htb.below (hk0.trans hx).below)
 have h3:=fun wx (hx:Keeps W0 wx) (e1:tyCheck t 1=0) (e2:vaCheck x 1=0)=>refVaOf_calls (SizeOf.sizeOf x+1) x t _ _ 1 1 wx (by omega) (hv.later (hk0.trans hx).below) (ht.later (hk0.trans hx).below) e2 e1
 obtain ⟨O,hO⟩:∃ O,O=vaOf x t:=⟨_,rfl⟩
 rw [← hO] at h3 ⊢
 generalize tyCheck t 1=E1 at h1 h3 ⊢
 generalize vaCheck x 1=E2 at h2 h3 ⊢
 have HK0:=Hi hk0
 have HB0:=Hi hb0
 have HB1:=Hi hb1
 have H1:=Hi h1
 have H2:=Hi h2
 have H3:=Hi h3
 clear hv ht htb hut0 hk0 hb0 hb1 h1 h2 h3 hO
 generalize x.items.length=N at *
 generalize x.kind=k at *
 generalize x.int=i at *
 generalize x.fl=f at *
 generalize x.text=tx at *
 generalize t.kind=k2 at *
 generalize t.of.length=M at *
 by_cases he1:E1=0
 · by_cases he2:E2=0
   · subst he1 he2
     rw [decide_eq_true rfl,Bool.true_and,Bool.true_and]
     go_enter Tryz.func142,Tryz.ntmps142
     go_wp2_with fail
     rw [← hW0]
     clear hW0
     refine (H1.out W0 (Keeps.refl _)).mono ?_
     rintro e w1 ⟨rfl,hk1⟩
     have hb:=(hk1.below.block _ (obj_lt HB0.out)).trans HB0.out
     obtain ⟨d0,d1,d2,d3,d4,_⟩:=cells5 hb
     have u1:=obj_lt hb
     go_wp2_with fail
     refine (H2.out w1 hk1).mono ?_
     rintro e w2 ⟨rfl,hk2⟩
     have hb:=((hk1.trans hk2).below.block _ (obj_lt HB0.out)).trans HB0.out
     obtain ⟨d0,d1,d2,d3,d4,_⟩:=cells5 hb
     have u2:=obj_lt hb
     have hc:=((hk1.trans hk2).below.block _ (obj_lt HB1.out)).trans HB1.out
     have c0:w2.cell? ⟨w.heap.size+1,0,none⟩=some (.int .i64 k2):=by rw [obj_cell hc 0];rfl
     have c1:w2.cell? ⟨w.heap.size+1,1,none⟩=some (.slice D M cd):=by rw [obj_cell hc 1];rfl
     have u3:=obj_lt hc
     go_wp2_with fail
     refine (H3.out w2 (hk1.trans hk2) (by trivial) (by trivial)).mono ?_
     rintro e w3 ⟨rfl,hk3⟩
     go_wp2
     go_ret
     exact ⟨rfl,HK0.out.trans ((hk1.trans hk2).trans hk3)⟩
   · subst he1
     have q:(E2==0)=false:=by simpa using he2
     rw [decide_eq_true rfl,decide_eq_false he2,Bool.true_and,Bool.false_and]
     go_enter Tryz.func142,Tryz.ntmps142
     go_wp2_with fail
     rw [← hW0]
     clear hW0
     refine (H1.out W0 (Keeps.refl _)).mono ?_
     rintro e w1 ⟨rfl,hk1⟩
     have hb:=(hk1.below.block _ (obj_lt HB0.out)).trans HB0.out
     obtain ⟨d0,d1,d2,d3,d4,_⟩:=cells5 hb
     have u1:=obj_lt hb
     go_wp2_with fail
     refine (H2.out w1 hk1).mono ?_
     rintro e w2 ⟨rfl,hk2⟩
     go_wp2
     go_ret
     exact ⟨rfl,HK0.out.trans (hk1.trans hk2)⟩
 · have q:(E1==0)=false:=by simpa using he1
   rw [decide_eq_false he1,Bool.false_and]
   go_enter Tryz.func142,Tryz.ntmps142
   go_wp2_with fail
   rw [← hW0]
   clear hW0
   refine (H1.out W0 (Keeps.refl _)).mono ?_
   rintro e w1 ⟨rfl,hk1⟩
   have hb:=(hk1.below.block _ (obj_lt HB0.out)).trans HB0.out
   obtain ⟨d0,d1,d2,d3,d4,_⟩:=cells5 hb
   have u1:=obj_lt hb
   go_wp2_with fail
   refine (H2.out w1 hk1).mono ?_
   rintro e w2 ⟨rfl,hk2⟩
   go_wp2
   go_ret
   exact ⟨rfl,HK0.out.trans (hk1.trans hk2)⟩
end Go.Proofs.YtihodcnnappkbaaGreatDoor
namespace Go.Proofs.YtihodcnnappkbaaGreatDoor
open Go.RowKit Go.Proofs
set_option linter.unusedVariables false
set_option linter.unusedSimpArgs false
theorem nameTo_first {s:ByteArray} (h0:0<s.size) (h:¬(97≤(s.get! 0).toNat∧(s.get! 0).toNat≤122)):nameTo s s.size=false:=by
 refine nameTo_cut (n:=1) (by omega) ?_
 rw [nameTo_succ,nameTo_zero,Bool.true_and]
 exact nameB_false (by omega)
set_option maxRecDepth 20000 in
set_option maxHeartbeats 1000000 in
theorem refName_calls (s:ByteArray) (w:World) :
 Calls Tryz.prog 139 #[.string s] w fun e w'=>e=.returned (.bool (nameOk s))∧w=w':=by
 obtain ⟨n,hn⟩:∃ n,n=s.size:=⟨_,rfl⟩
 by_cases h0:0<n
 · by_cases h1:n≤16
   · have hyes:nameOk s=nameTo s n:=by unfold nameOk;rw [← hn];simp [h0,h1]
     have hg0:s.get! 0=s[0]'(by omega):=get_at s 0 (by omega)
     have hs0:0<s.size:=by omega
     rw [hyes]
     by_cases hA:97≤(s[0]'hs0).toNat
     · by_cases hB:(s[0]'hs0).toNat≤122
       · have hAi:(97:Int)≤((s[0]'hs0).toNat:Int):=by omega
         have hBi:¬(122:Int)<((s[0]'hs0).toNat:Int):=by omega
         have HN:=Hi hn
         have HA:=Hi hA
         have HB:=Hi hB
         rw [hn] at h0 h1 ⊢
         clear hyes hg0 hA hB hn
         go_enter Tryz.func139,Tryz.ntmps139
         go_wp2_with fail
         clear hAi hBi
         go_loopw [3] (fun i wr=>∃ k:Nat,k≤s.size∧i=.int .i64 (k:Int)∧nameTo s k=true∧wr=w) (fun i _=>s.size-(intOf i).toNat)
         case atStart=>exact ⟨0,by omega,rfl,rfl,rfl⟩
         case round=>
          obtain ⟨k,hk,rfl,hto,rfl⟩:=hrel
          by_cases hp:k<s.size
          · have hsucc:=nameTo_succ s k
            have hg:s.get! k=s[k]'hp:=get_at s k hp
            rw [hto,Bool.true_and,hg] at hsucc
            have hfirst:k=0→97≤(s[k]'hp).toNat∧(s[k]'hp).toNat≤122:=fun h=>by subst h;exact ⟨HA.out,HB.out⟩
            have HF:=Hi hfirst
            have HTO:=Hi hto
            have HS:=Hi hsucc
            clear hto hsucc hg hfirst
            obtain ⟨b1,q1⟩:∃ b,decide (((s[k]'hp).toNat:Int)<97)=b:=⟨_,rfl⟩
            obtain ⟨b2,q2⟩:∃ b,decide ((122:Int)<((s[k]'hp).toNat:Int))=b:=⟨_,rfl⟩
            obtain ⟨b3,q3⟩:∃ b,decide (((s[k]'hp).toNat:Int)<48)=b:=⟨_,rfl⟩
            obtain ⟨b4,q4⟩:∃ b,decide ((57:Int)<((s[k]'hp).toNat:Int))=b:=⟨_,rfl⟩
            obtain ⟨b5,q5⟩:∃ b,(((s[k]'hp).toNat:Int) != 95)=b:=⟨_,rfl⟩
            cases b1 <;> cases b2 <;> cases b3 <;> cases b4 <;> cases b5
            all_goals try (exfalso;simp only [decide_eq_true_eq,decide_eq_false_iff_not,beq_iff_eq,bne_iff_ne,beq_eq_false_iff_ne,bne_eq_false_iff_eq,ne_eq] at q1 q2 q3 q4 q5;omega)
            all_goals go_wp2
            all_goals first
             | (go_ret
                refine ⟨ret_bool ?_,rfl⟩
                refine (nameTo_cut (n:=k+1) (by omega) ?_).symm
                rw [HS.out]
                simp only [decide_eq_true_eq,decide_eq_false_iff_not,beq_iff_eq,bne_iff_ne,beq_eq_false_iff_ne,bne_eq_false_iff_eq,ne_eq] at q1 q2 q3 q4 q5
                exact nameB_false (by omega))
             | (refine ⟨⟨k+1,by omega,by go_num,?_,trivial⟩,by simp [intOf];omega⟩
                rw [HS.out]
                simp only [decide_eq_true_eq,decide_eq_false_iff_not,beq_iff_eq,bne_iff_ne,beq_eq_false_iff_ne,bne_eq_false_iff_eq,ne_eq] at q1 q2 q3 q4 q5
                have:=HF.out
                exact nameB_true (by omega))
          · obtain rfl:k=s.size:=by omega
            have HTO:=Hi hto
            clear hto
            go_wp2
            go_ret
            exact ⟨ret_bool HTO.out.symm,rfl⟩
       · have hf:=nameTo_first hs0 (by rw [hg0];omega)
         rw [hn,hf]
         have hAi:(97:Int)≤((s[0]'hs0).toNat:Int):=by omega
         have hBi:(122:Int)<((s[0]'hs0).toNat:Int):=by omega
         rw [hn] at h0 h1
         clear hyes hg0 hA hB hf hn
         go_enter Tryz.func139,Tryz.ntmps139
         go_wp2
         go_ret
         exact ⟨rfl,rfl⟩
     · have hf:=nameTo_first hs0 (by rw [hg0];omega)
       rw [hn,hf]
       have hAi:((s[0]'hs0).toNat:Int)<97:=by omega
       rw [hn] at h0 h1
       clear hyes hg0 hA hf hn
       go_enter Tryz.func139,Tryz.ntmps139
       go_wp2
       go_ret
       exact ⟨rfl,rfl⟩
   · have hno:nameOk s=false:=by unfold nameOk;rw [← hn];simp [h1]
     have HN:=Hi hno
     rw [hno]
     clear hno
     go_enter Tryz.func139,Tryz.ntmps139
     go_wp2
     go_ret
     exact ⟨rfl,rfl⟩
 · have hno:nameOk s=false:=by unfold nameOk;rw [← hn];simp [h0]
   rw [hno]
   clear hno
   go_enter Tryz.func139,Tryz.ntmps139
   go_wp2
   go_ret
   exact ⟨rfl,rfl⟩
end Go.Proofs.YtihodcnnappkbaaGreatDoor
namespace Go.Proofs.YtihodcnnappkbaaGreatDoor
open Go.RowKit Go.BigFrame
set_option linter.unusedVariables false
set_option linter.unusedSimpArgs false
attribute [local go_sem] run_storeF
theorem refUtf:RefUtf:=fun s w h=>refUtf_calls s w h
theorem SchS.take {w:World} {S:Nat→Prop} {A:Option Addr} {l:List Col} (h:SchS w S A l) (n:Nat):SchS w S A (l.take n):=by
 obtain ⟨xs,hr,hc⟩:=h.ex
 have hl:=h.len
 refine ⟨⟨xs.take (9*n),hr.take _,?_,fun j hj=>?_⟩,fun a e hn=>h.blk a e (fun e0=>hn (by rw [e0];simp)),by rw [List.length_take];omega⟩
 · rw [List.length_take,List.length_take,hc.1];omega
 · rw [List.length_take] at hj
   obtain ⟨x0,x1,x2,x3,x4,x5,x6,x7,x8,⟨a0,a1,a2,a3,a4,a5,a6,a7,a8⟩,b⟩:=hc.2 j (by omega)
   refine ⟨x0,x1,x2,x3,x4,x5,x6,x7,x8,⟨?_,?_,?_,?_,?_,?_,?_,?_,?_⟩,by rw [List.getElem_take];exact b⟩
   all_goals rw [List.getElem?_take,if_pos (by omega)];assumption
theorem nameIn_take (l:List Col) (m:Nat) (h:m<l.length) (s:ByteArray):nameIn ((l.take (m+1)).map Col.name) s=(nameIn ((l.take m).map Col.name) s||decide ((l[m]'h).name=s)):=by
 rw [List.take_succ_eq_append_getElem h,List.map_append]
 exact nameIn_append _ _ _
theorem nameIn_more (l:List Col) (m:Nat) (s:ByteArray) (h:nameIn ((l.take m).map Col.name) s=true):nameIn (l.map Col.name) s=true:=by
 unfold nameIn at *
 rw [List.any_eq_true] at *
 obtain ⟨x,hx,hd⟩:=h
 refine ⟨x,?_,hd⟩
 rw [List.mem_map] at *
 obtain ⟨c,hc,e⟩:=hx
 exact ⟨c,List.mem_of_mem_take hc,e⟩
theorem zero_at7 (w:World):VaAt w (.agg #[.int .i64 0,.int .i64 0,.float .f64 0,.string ⟨#[]⟩,.slice none 0 0]) vaZero:=(VaS.leaf w (fun _=>True) 0 0 0 ⟨#[]⟩ none 0).at
set_option maxRecDepth 20000 in
set_option maxHeartbeats 4000000 in
theorem refColumn_calls (A:Option Addr) (c:Nat) (l:List Col) (x0 x1 x2 x3 x4 x5 x6 x7 x8:Value) (y:Col) (w:World) (hs:SchS w (fun b=>b<w.heap.size) A l) (hcol:ColC w (fun b=>b<w.heap.size) x0 x1 x2 x3 x4 x5 x6 x7 x8 y) (htb:Tabs w) :
 Calls Tryz.prog 105 #[.slice A l.length c,.agg #[x0,x1,x2,x3,x4,x5,x6,x7,x8]] w fun e w'=>e=.returned (.int .i64 (colCheck (l.map Col.name) y))∧Keeps w w':=by
 obtain ⟨R,hR⟩:∃ R,R=colCheck (l.map Col.name) y:=⟨_,rfl⟩
 rw [← hR]
 unfold colCheck at hR
 have hil:=hs.len
 obtain ⟨⟨A2,k2,e2⟩,A8,k8,e8⟩:=hcol.form
 have hnm:=hcol.nm;have htkd:=hcol.tk;have hhs:=hcol.hs;have hdk:=hcol.dk;have hdi:=hcol.di;have hdf:=hcol.df;have hdt:=hcol.dt
 subst hnm htkd e2 hhs hdk hdi hdf hdt e8
 obtain ⟨W1,hW1⟩:∃ W1,W1=w.alloc (.cells #[.string y.name,.int .i64 y.ty.kind,.slice A2 y.ty.of.length k2,.bool y.has,.int .i64 y.dflt.kind,.int .i64 y.dflt.int,.float .f64 y.dflt.fl,.string y.dflt.text,.slice A8 y.dflt.items.length k8] 103):=⟨_,rfl⟩
 have hk1:Keeps w W1:=by rw [hW1];exact (Keeps.refl w).alloc _
 have hbc:W1.heap[w.heap.size]? = some (.cells #[.string y.name,.int .i64 y.ty.kind,.slice A2 y.ty.of.length k2,.bool y.has,.int .i64 y.dflt.kind,.int .i64 y.dflt.int,.float .f64 y.dflt.fl,.string y.dflt.text,.slice A8 y.dflt.items.length k8] 103):=by rw [hW1];exact obj_new w _
 have HN:=Hi (refName_calls y.name W1)
 have HR:=Hi hR
 have HS:=Hi hs
 have HCOL:=Hi hcol
 have HTB:=Hi htb
 have HBC:=Hi hbc
 have HK1:=Hi hk1
 clear hR hs hcol htb hbc hk1
 generalize hLn:l.length=N at hil ⊢
 have HL:=Hi hLn
 clear hLn
 cases hno:nameOk y.name with
 | false=>
   rw [hno] at HN
   have HE:Hid (R=70):=Hi (by rw [HR.out,if_pos hno])
   clear hno
   go_enter Tryz.func105,Tryz.ntmps105
   go_wp2_with fail
   rw [← hW1]
   clear hW1
   refine HN.out.mono ?_
   rintro e w1 ⟨rfl,rfl⟩
   go_wp2
   go_ret
   exact ⟨by rw [HE.out];rfl,HK1.out⟩
 | true=>
 rw [hno] at HN
 have HR2:Hid (R=if nameIn (l.map Col.name) y.name=true then 71 else if tyCheck y.ty 1≠0 then tyCheck y.ty 1
  else if y.has=false then (if Va.same y.dflt vaZero=true then 0 else 80)
  else if vaCheck y.dflt 1≠0 then vaCheck y.dflt 1 else if vaOf y.dflt y.ty=true then 0 else 80):=Hi (by rw [HR.out,if_neg (by rw [hno];simp)])
 clear hno HR
 go_enter Tryz.func105,Tryz.ntmps105
 go_wp2_with fail
 rw [← hW1]
 clear hW1
 refine HN.out.mono ?_
 rintro e w1 ⟨rfl,rfl⟩
 clear HN
 go_wp2_with fail
 go_loopw [6] (fun j wr=>∃ m:Nat,m≤N∧j=.int .i64 (m:Int)∧nameIn ((l.take m).map Col.name) y.name=false∧Keeps W1 wr) (fun j _=>N-(intOf j).toNat)
 case atStart=>exact ⟨0,Nat.zero_le _,rfl,rfl,Keeps.refl _⟩
 case round=>
  obtain ⟨m,hm,rfl,hni,hkp⟩:=hrel
  have hbr:=(hkp.below.block _ (obj_lt HBC.out)).trans HBC.out
  obtain ⟨⟨d0,d1,d2,d3,d4,d5,d6,d7,d8⟩,_⟩:=cells9 hbr
  have ur:=obj_lt hbr
  have hkw:=HK1.out.trans hkp
  by_cases hlt:m<N
  · have hlt1:m<l.length:=by rw [HL.out];exact hlt
    obtain ⟨ad,z0,z1,z2,z3,z4,z5,z6,z7,z8,rfl,_,hz,c0,_⟩:=(HS.out.later hkw.below).get m hlt1
    rw [hz.nm] at c0
    have htk:=nameIn_take l m hlt1 y.name
    rw [hni,Bool.false_or] at htk
    have hmore:=nameIn_more l (m+1) y.name
    have HTK:=Hi htk
    have HMO:=Hi hmore
    have HKP:=Hi hkp
    have HKW:=Hi hkw
    clear htk hmore hni hz hkp hkw hbr d1 d2 d3 d4 d5 d6 d7 d8
    generalize hxn:(l[m]'hlt1).name=xn at c0 HTK
    clear hxn hlt1
    by_cases hq:xn=y.name
    · have q4:(xn.toList==y.name.toList)=true:=by rw [hq];simp
      have HE:Hid (R=71):=Hi (by rw [HR2.out,if_pos (HMO.out (by rw [HTK.out];simpa using hq))])
      clear hq
      go_wp2_with fail
      go_quiet (fail)
      go_wp2
      go_ret
      exact ⟨by rw [HE.out];rfl,HKW.out.quiet ⟨_,rfl⟩⟩
    · have q4:(xn.toList==y.name.toList)=false:=texts_ne hq
      have HNI:Hid (nameIn ((l.take (m+1)).map Col.name) y.name=false):=Hi (by rw [HTK.out];simpa using hq)
      clear hq
      go_wp2_with fail
      go_quiet (fail)
      go_wp2
      exact ⟨⟨m+1,by omega,by go_num,HNI.out,HKP.out.quiet ⟨_,rfl⟩⟩,by simp [intOf];omega⟩
  · have e:l.take m=l:=List.take_of_length_le (by rw [HL.out];omega)
    rw [e] at hni
    have HR3:Hid (R=if tyCheck y.ty 1≠0 then tyCheck y.ty 1
     else if y.has=false then (if Va.same y.dflt vaZero=true then 0 else 80)
     else if vaCheck y.dflt 1≠0 then vaCheck y.dflt 1 else if vaOf y.dflt y.ty=true then 0 else 80):=Hi (by rw [HR2.out,if_neg (by rw [hni];simp)])
    have hct:=refCheckType_calls y.ty _ wr (HCOL.out.ty.later hkw.below).at
    have HCT:=Hi hct
    have HKW:=Hi hkw
    have HBR:=Hi hbr
    clear e hni hct hkw hbr hkp HR2
    by_cases hte:tyCheck y.ty 1=0
    case neg=>
     have HE:Hid (R=tyCheck y.ty 1):=Hi (by rw [HR3.out,if_pos hte])
     have qe:(tyCheck y.ty 1 != 0)=true:=by simpa using hte
     generalize tyCheck y.ty 1=E at HCT HE qe
     clear hte HR3
     go_wp2_with fail
     refine HCT.out.mono ?_
     rintro e w4 ⟨rfl,hk4⟩
     go_wp2
     go_ret
     exact ⟨by rw [HE.out];rfl,HKW.out.trans hk4⟩
    case pos=>
    have HR4:Hid (R=if y.has=false then (if Va.same y.dflt vaZero=true then 0 else 80)
     else if vaCheck y.dflt 1≠0 then vaCheck y.dflt 1 else if vaOf y.dflt y.ty=true then 0 else 80):=Hi (by rw [HR3.out,if_neg (by rw [hte];simp)])
    have HTE:=Hi hte
    rw [hte] at HCT
    clear hte HR3
    go_wp2_with fail
    refine HCT.out.mono ?_
    rintro e w4 ⟨rfl,hk4⟩
    have hb4:=(hk4.below.block _ (obj_lt HBR.out)).trans HBR.out
    clear d0 d1 d2 d3 d4 d5 d6 d7 d8 ur
    obtain ⟨⟨d0,d1,d2,d3,d4,d5,d6,d7,d8⟩,_⟩:=cells9 hb4
    have u4:=obj_lt hb4
    have HB4:=Hi hb4
    have HKW4:=Hi (HKW.out.trans hk4)
    clear hb4 hk4 HCT HBR HKW
    have hdv4:=HCOL.out.dv.later HKW4.out.below
    have hty4:=HCOL.out.ty.later HKW4.out.below
    cases hh:y.has with
    | false=>
      rw [hh] at d3
      have hsm:=refSameValue_calls (SizeOf.sizeOf y.dflt+1) y.dflt vaZero _ _ w4 (by omega) hdv4.at (zero_at7 w4)
      have HR5:Hid (R=if Va.same y.dflt vaZero=true then 0 else 80):=Hi (by rw [HR4.out,if_pos hh])
      clear hdv4 hty4 HR4 hh
      cases hs:Va.same y.dflt vaZero with
      | false=>
        rw [hs] at hsm
        have HE:Hid (R=80):=Hi (by rw [HR5.out,if_neg (by rw [hs];simp)])
        have HSM:=Hi hsm
        clear hsm hs HR5
        go_wp2_with fail
        refine HSM.out.mono ?_
        rintro e w5 ⟨rfl,hk5⟩
        go_wp2
        go_ret
        exact ⟨by rw [HE.out];rfl,HKW4.out.trans hk5⟩
      | true=>
        rw [hs] at hsm
        have HE:Hid (R=0):=Hi (by rw [HR5.out,if_pos hs])
        have HSM:=Hi hsm
        clear hsm hs HR5
        go_wp2_with fail
        refine HSM.out.mono ?_
        rintro e w5 ⟨rfl,hk5⟩
        go_wp2
        go_ret
        exact ⟨by rw [HE.out];rfl,HKW4.out.trans hk5⟩
    | true=>
      rw [hh] at d3
      have hvc:=refVaCheckTop_calls refUtf y.dflt _ w4 hdv4.at (HTB.out.below HKW4.out.below)
      have HR5:Hid (R=if vaCheck y.dflt 1≠0 then vaCheck y.dflt 1 else if vaOf y.dflt y.ty=true then 0 else 80):=Hi (by rw [HR4.out,if_neg (by rw [hh];simp)])
      have HH:=Hi hh
      have HDV4:=Hi hdv4
      have HTY4:=Hi hty4
      clear hdv4 hty4 HR4 hh
      by_cases hve:vaCheck y.dflt 1=0
      case neg=>
       have HE:Hid (R=vaCheck y.dflt 1):=Hi (by rw [HR5.out,if_pos hve])
       have qe:(vaCheck y.dflt 1 != 0)=true:=by simpa using hve
       generalize vaCheck y.dflt 1=E at hvc HE qe
       have HVC:=Hi hvc
       clear hvc hve HR5
       go_wp2_with fail
       refine HVC.out.mono ?_
       rintro e w5 ⟨rfl,hk5⟩
       go_wp2
       go_ret
       exact ⟨by rw [HE.out];rfl,HKW4.out.trans hk5⟩
      case pos=>
      have HR6:Hid (R=if vaOf y.dflt y.ty=true then 0 else 80):=Hi (by rw [HR5.out,if_neg (by rw [hve];simp)])
      rw [hve] at hvc
      have HVC:=Hi hvc
      have HVE:=Hi hve
      clear hvc hve HR5
      go_wp2_with fail
      refine HVC.out.mono ?_
      rintro e w5 ⟨rfl,hk5⟩
      have hb5:=(hk5.below.block _ (obj_lt HB4.out)).trans HB4.out
      have hof:=refIs_calls refUtf y.dflt y.ty _ _ w5 (HDV4.out.later hk5.below).at (HTY4.out.later hk5.below).at ((HTB.out.below HKW4.out.below).below hk5.below)
      rw [HTE.out,HVE.out,decide_eq_true rfl,Bool.true_and,Bool.true_and] at hof
      clear d0 d1 d2 d3 d4 d5 d6 d7 d8 u4
      obtain ⟨⟨d0,d1,d2,d3,d4,d5,d6,d7,d8⟩,_⟩:=cells9 hb5
      rw [HH.out] at d3
      have u5:=obj_lt hb5
      have HKW5:=Hi (HKW4.out.trans hk5)
      clear hb5 hk5 HB4 HKW4 HVC HDV4 HTY4
      cases hs:vaOf y.dflt y.ty with
      | false=>
        rw [hs] at hof
        have HE:Hid (R=80):=Hi (by rw [HR6.out,if_neg (by rw [hs];simp)])
        have HOF:=Hi hof
        clear hof hs HR6
        go_wp2_with fail
        refine HOF.out.mono ?_
        rintro e w6 ⟨rfl,hk6⟩
        go_wp2
        go_ret
        exact ⟨by rw [HE.out];rfl,HKW5.out.trans hk6⟩
      | true=>
        rw [hs] at hof
        have HE:Hid (R=0):=Hi (by rw [HR6.out,if_pos hs])
        have HOF:=Hi hof
        clear hof hs HR6
        go_wp2_with fail
        refine HOF.out.mono ?_
        rintro e w6 ⟨rfl,hk6⟩
        go_wp2
        go_ret
        exact ⟨by rw [HE.out];rfl,HKW5.out.trans hk6⟩
end Go.Proofs.YtihodcnnappkbaaGreatDoor
namespace Go.Proofs.YtihodcnnappkbaaGreatDoor
open Go.RowKit Go.BigFrame
set_option linter.unusedVariables false
set_option linter.unusedSimpArgs false
structure NewB (w:World) (l:List UInt8) (e:Ending) (w':World):Prop where
 ex:∃ v,e=.returned v∧OwnB 5 w' w.heap.size v l∧Keeps w w'
theorem OwnB.named {e:TypeId} {w:World} {base:Nat} {v:Value} {l l':List UInt8} (h:OwnB e w base v l) (hl:l=l'):∃ A M c,v=.slice A M c∧OwnB e w base (.slice A M c) l':=by
 obtain ⟨A,c,rfl,_⟩:=h.form
 exact ⟨A,_,c,rfl,hl▸h⟩
theorem OwnB.seen {e:TypeId} {w:World} {base:Nat} {v:Value} {l:List UInt8} (h:OwnB e w base v l):∃ A M c,v=.slice A M c∧Hid (l.length=M)∧Hid (Reads w A l):=by
 obtain ⟨A,c,rfl,_,hr,_⟩:=h.form
 exact ⟨A,_,c,rfl,Hi rfl,Hi hr⟩
set_option maxRecDepth 10000 in
set_option maxHeartbeats 1000000 in
theorem refTypeBytes_calls (n:Nat):∀ (t:Ty) (d:Nat) (tv:Value) (w:World),n+d=5→tyCheck t d=0→TyAt w tv t →
 Calls Tryz.prog 144 #[tv] w (NewB w (putTy t)):=by
 induction n with
 | zero=>intro t d tv w hd h;cases t;have:=(tyCheck_ok h).1;omega
 | succ n ih=>
   intro t d tv w hd hok ht
   cases t with
   | mk k ts=>
     obtain ⟨_,hk1,hk7,h67,hno⟩:=tyCheck_ok hok
     obtain ⟨B,cB,rfl⟩:=ht.form
     change TyAt w (.agg #[.int .i64 k,.slice B ts.length cB]) _ at ht
     change Calls _ _ #[.agg #[.int .i64 k,.slice B ts.length cB]] _ _
     have hput:putTy (.mk k ts)=UInt8.ofNat k.toNat :: if k=6∨k=7 then putTyHead ts else []:=by rw [putTy]
     generalize hR:putTy (.mk k ts)=R at hput
     obtain ⟨W0,hW0⟩:∃ W0,W0=(w.alloc (.cells #[.int .i64 k,.slice B ts.length cB] 97)).alloc (.cells #[.int .u8 k] 5):=⟨_,rfl⟩
     have hk0:Keeps w W0:=by rw [hW0];exact ((Keeps.refl w).alloc _).alloc _
     have hs0:W0.heap.size=w.heap.size+1+1:=by rw [hW0];simp
     have hb0:W0.heap[w.heap.size]? = some (.cells #[.int .i64 k,.slice B ts.length cB] 97):=by rw [hW0];exact obj_old (obj_new w _) _
     have hkw:IntKind.u8.wrap k=k:=by simp [IntKind.wrap,IntKind.bits,IntKind.signed];omega
     have hown0:OwnB 5 W0 w.heap.size (.slice (some ⟨w.heap.size+1,0,none⟩) 1 1) [UInt8.ofNat k.toNat]:=by
      have h:=OwnB.lit 5 (w.alloc (.cells #[.int .i64 k,.slice B ts.length cB] 97)) w.heap.size [UInt8.ofNat k.toNat] #[.int .u8 k] (by show [Value.int .u8 k]=[Value.int .u8 (((UInt8.ofNat k.toNat).toNat:Nat):Int)];rw [u8_of k (by omega) (by omega)]) (by simp) (by simp)
      rw [← hW0] at h
      simpa using h
     have hel:∀ t,ts=[t]→∃ ad k' A2 n2 c2,B=some ad∧w.cell? ad=some (.int .i64 k')∧w.cell? ⟨ad.block,ad.off+1,none⟩=some (.slice A2 n2 c2)∧ad.block<w.heap.size∧TyAt W0 (.agg #[.int .i64 k',.slice A2 n2 c2]) t:=by
      intro t e
      subst e
      obtain ⟨ad,k',s',e,hlt,x0,x1,hsub⟩:=(TyS.of_at ht).elem
      obtain ⟨A3,c3,n3,rfl⟩:∃ A3 c3 n3,s'=Value.slice A3 n3 c3:=by
       obtain ⟨A3,c3,e⟩:=hsub.form
       simp only [Value.agg.injEq,Array.mk.injEq,List.cons.injEq] at e
       exact ⟨A3,c3,_,e.2.1⟩
      exact ⟨ad,k',A3,n3,c3,e,x0,x1,hlt,(hsub.later hk0.below).at⟩
     have HEL:=Hi hel
     have HO:=Hi hown0
     have HK0:=Hi hk0
     have HB0:=Hi hb0
     have HS0:=Hi hs0
     have H67:=Hi h67
     have HNO:=Hi hno
     have IH:=Hi ih
     have HP:=Hi hput
     clear ih hok ht hown0 hk0 hb0 hs0 h67 hno hput hR hel
     generalize hN:ts.length=N at HB0 hW0
     have HN:=Hi hN
     clear hN
     by_cases hk:k=6∨k=7
     · obtain ⟨t,rfl,htc⟩:=H67.out hk
       have HE:Hid (R=UInt8.ofNat k.toNat :: putTy t):=Hi (by rw [HP.out,if_pos hk,putTyHead])
       obtain rfl:N=1:=HN.out.symm
       obtain ⟨ad,k',A2,n2,c2,rfl,x0,x1,hlt,hsub⟩:=HEL.out t rfl
       have hc:=IH.out t (d+1) _ W0 (by omega) htc hsub
       have HC:=Hi hc
       have hpl:=putTy_length n t (d+1) (by omega) htc
       generalize putTy t=T at HE HC hpl
       have HPL:=Hi hpl
       clear hc hsub IH htc HP HEL HNO H67 hpl
       rcases hk with rfl | rfl
       all_goals
        go_enter Tryz.func144,Tryz.ntmps144
        go_wp2_with fail
        rw [← hW0]
        clear hW0 x0 x1
        refine HC.out.mono ?_
        rintro e w2 ⟨v2,rfl,hown2,hk2⟩
        obtain ⟨A3,c3,rfl,_,hr3,_⟩:=hown2.form
        have HR3:=Hi hr3
        have HK2:=Hi (HK0.out.trans hk2)
        have HO2:=Hi (HO.out.below hk2)
        clear hown2 hk2 hr3
        generalize hM:T.length=M
        have HM:=Hi hM
        clear hM
        go_wp2_with (at_builtin;refine wpList_append_bytes (w0:=w) w.heap.size rfl _ _ 31 5 rfl Tryz.underlying31 info_u8b _ [UInt8.ofNat (Int.toNat _)] T rfl HO2.out A3 c3 (by rw [HM.out];rfl) HR3.out ?c2 HK2.out.size HK2.out ?_)
        case c2=>have:=HPL.out;simp;omega
        intro v3 w3 hown3 hb3 _ _
        have HO3:=Hi hown3
        have HB3:=Hi hb3
        clear hown3 hb3
        obtain ⟨A4,c4,rfl,_⟩:=HO3.out.form
        generalize hM2:([UInt8.ofNat (Int.toNat _)]++T).length=M2 at *
        go_wp2
        go_ret
        exact ⟨_,rfl,by rw [HE.out];exact HO3.out,HB3.out⟩
     · have HE:Hid (R=[UInt8.ofNat k.toNat]):=Hi (by rw [HP.out,if_neg hk])
       have q6:(k==6)=false:=by rw [beq_eq_false_iff_ne];omega
       have q7:(k==7)=false:=by rw [beq_eq_false_iff_ne];omega
       clear hk IH HP HEL HNO H67
       go_enter Tryz.func144,Tryz.ntmps144
       go_wp2
       go_ret
       refine ⟨_,rfl,?_,?_⟩
       · rw [HE.out,← hW0];exact HO.out
       · rw [← hW0];exact HK0.out
end Go.Proofs.YtihodcnnappkbaaGreatDoor
namespace Go.Proofs.YtihodcnnappkbaaGreatDoor
open Go.RowKit Go.BigFrame
set_option linter.unusedVariables false
set_option linter.unusedSimpArgs false
attribute [local go_sem] run_storeF
theorem vaOwn_bool {i:Int} {f:Nat} {t:ByteArray} {l:List Va} (h:vaOwn (.mk 1 i f t l)=true):i=0∨i=1:=by
 rw [vaOwn] at h
 simp at h
 omega
theorem vaOwn_opt {i:Int} {f:Nat} {t:ByteArray} {l:List Va} (h:vaOwn (.mk 6 i f t l)=true):l.length=0∨l.length=1:=by
 rw [vaOwn] at h
 simp at h
 omega
theorem vaOwn_kind {k i:Int} {f:Nat} {t:ByteArray} {l:List Va} (h:vaOwn (.mk k i f t l)=true):1≤k∧k≤7:=by
 rw [vaOwn] at h
 by_cases h1:1≤k <;> by_cases h7:k≤7
 · exact ⟨h1,h7⟩
 all_goals
  exfalso
  simp only [show ¬k=1 by omega,show ¬k=2 by omega,show ¬k=3 by omega,show ¬k=4 by omega,show ¬k=5 by omega,show ¬k=6 by omega,show ¬k=7 by omega] at h
  simp at h
set_option maxRecDepth 10000 in
set_option maxHeartbeats 1000000 in
theorem refVaB_one (i:Int) (hi:i=0∨i=1) (f:Nat) (t:ByteArray) (B:Option Addr) (nb cb:Nat) (w:World) :
 Calls Tryz.prog 146 #[.agg #[.int .i64 1,.int .i64 i,.float .f64 f,.string t,.slice B nb cb]] w (NewB w [if i=1 then 1 else 0]):=by
 obtain ⟨W0,hW0⟩:∃ W0,W0=(w.alloc (.cells #[.int .i64 1,.int .i64 i,.float .f64 f,.string t,.slice B nb cb] 101)).alloc (.cells #[.int .u8 i] 5):=⟨_,rfl⟩
 have hk0:Keeps w W0:=by rw [hW0];exact ((Keeps.refl w).alloc _).alloc _
 obtain ⟨y,hy⟩:∃ y:UInt8,y=if i=1 then 1 else 0:=⟨_,rfl⟩
 rw [← hy]
 have hown:OwnB 5 W0 w.heap.size (.slice (some ⟨w.heap.size+1,0,none⟩) 1 1) [y]:=by
  have h:=OwnB.lit 5 (w.alloc (.cells #[.int .i64 1,.int .i64 i,.float .f64 f,.string t,.slice B nb cb] 101)) w.heap.size [y] #[.int .u8 i] (by rw [hy];rcases hi with rfl | rfl <;> rfl) (by simp) (by simp)
  rw [← hW0] at h
  simpa using h
 have hw:IntKind.u8.wrap i=i:=by rcases hi with rfl | rfl <;> rfl
 have HO:=Hi hown
 have HK0:=Hi hk0
 have HW0:=Hi hW0
 clear hown hk0 hi hW0 hy
 go_enter Tryz.func146,Tryz.ntmps146
 go_wp2
 go_ret
 refine ⟨_,rfl,?_,?_⟩
 · rw [← HW0.out];exact HO.out
 · rw [← HW0.out];exact HK0.out
set_option maxRecDepth 10000 in
set_option maxHeartbeats 1000000 in
theorem refVaB_two (i:Int) (hi1:-9223372036854775808≤i) (hi2:i≤9223372036854775807) (f:Nat) (t:ByteArray) (B:Option Addr) (nb cb:Nat) (w:World) :
 Calls Tryz.prog 146 #[.agg #[.int .i64 2,.int .i64 i,.float .f64 f,.string t,.slice B nb cb]] w (NewB w (leb (zig i))):=by
 obtain ⟨W0,hW0⟩:∃ W0,W0=w.alloc (.cells #[.int .i64 2,.int .i64 i,.float .f64 f,.string t,.slice B nb cb] 101):=⟨_,rfl⟩
 have hk0:Keeps w W0:=by rw [hW0];exact (Keeps.refl w).alloc _
 have HZ:=Hi (ref3Zig_calls i hi1 hi2 W0)
 have HP:=Hi (ref3Put_calls (zig i) (zig_lt hi1 hi2) W0)
 have HK0:=Hi hk0
 clear hk0
 go_enter Tryz.func146,Tryz.ntmps146
 go_wp2_with fail
 rw [← hW0]
 clear hW0
 refine HZ.out.mono ?_
 rintro e w1 ⟨rfl,rfl⟩
 go_wp2_with fail
 refine HP.out.mono ?_
 rintro e w1 ⟨v1,rfl,hown1,hk1⟩
 have HO:=Hi (hown1.weaken HK0.out.size)
 have HK1:=Hi (HK0.out.trans hk1)
 clear hown1 hk1
 go_wp2
 go_ret
 exact ⟨v1,rfl,HO.out,HK1.out⟩
set_option maxRecDepth 10000 in
set_option maxHeartbeats 1000000 in
theorem refVaB_three (i:Int) (f:Nat) (hf:f<18446744073709551616) (t:ByteArray) (B:Option Addr) (nb cb:Nat) (w:World) :
 Calls Tryz.prog 146 #[.agg #[.int .i64 3,.int .i64 i,.float .f64 f,.string t,.slice B nb cb]] w (NewB w (le8 (fbits f))):=by
 obtain ⟨W0,hW0⟩:∃ W0,W0=w.alloc (.cells #[.int .i64 3,.int .i64 i,.float .f64 f,.string t,.slice B nb cb] 101):=⟨_,rfl⟩
 have hk0:Keeps w W0:=by rw [hW0];exact (Keeps.refl w).alloc _
 have hN:fbits f<18446744073709551616:=by unfold fbits;split <;> omega
 have HC:=Hi (refBits_calls f W0)
 have HK0:=Hi hk0
 clear hk0
 generalize fbits f=N at HC hN ⊢
 go_enter Tryz.func146,Tryz.ntmps146
 go_wp2_with fail
 rw [← hW0]
 clear hW0
 refine HC.out.mono ?_
 rintro e w1 ⟨rfl,rfl⟩
 clear HC
 go_wp2_with fail
 go_loopw [3,5,6] (fun b x j wr=>∃ (k:Nat) (A':Option Addr) (c':Nat),k≤8∧j=.int .i64 (k:Int)∧x=.int .u64 ((N / 256 ^ k:Nat):Int)∧b=.slice A' k c'∧OwnB 5 wr w.heap.size (.slice A' k c') ((le8 N).take k)∧Keeps w wr) (fun _ _ j _=>8-(intOf j).toNat)
 case atStart=>exact ⟨0,none,0,by omega,rfl,by simp,rfl,OwnB.nil _ _ _,HK0.out⟩
 case round=>
  obtain ⟨k,A',c',hk,rfl,rfl,rfl,hown,hkp⟩:=hrel
  have HO:=Hi hown
  have HK:=Hi hkp
  clear hown hkp
  by_cases hlt:k<8
  · have HT:=Hi (le8_take N k hlt)
    have hdiv:N / 256 ^ (k+1)=N / 256 ^ k / 256:=by rw [Nat.pow_succ,Nat.div_div_eq_div_mul]
    have hM:N / 256 ^ k<18446744073709551616:=Nat.lt_of_le_of_lt (Nat.div_le_self _ _) hN
    generalize N / 256 ^ k=M at HT hdiv hM
    have HD:=Hi hdiv
    clear hdiv
    obtain ⟨W1,hW1⟩:∃ W1,W1=wr.alloc (.cells #[.int .u8 ((M:Int) % 256)] 5):=⟨_,rfl⟩
    have hk1:Keeps wr W1:=by rw [hW1];exact (Keeps.refl wr).alloc _
    have hr1:Reads W1 (some ⟨wr.heap.size,0,none⟩) [UInt8.ofNat (M % 256)]:=by
     rw [hW1];exact Reads.new _ _ _ _ _ (by show [Value.int .u8 ((M:Int) % 256)]=[Value.int .u8 (((UInt8.ofNat (M % 256)).toNat:Nat):Int)];rw [byte_of])
    have hw8:IntKind.u8.wrap ((M:Int) % 256)=(M:Int) % 256:=by simp [IntKind.wrap,IntKind.bits,IntKind.signed]
    have HK1:=Hi (HK.out.trans hk1)
    have HO1:=Hi (HO.out.below hk1)
    have HR1:=Hi hr1
    have HW1:=Hi hW1
    clear hk1 hr1 hW1
    go_wp2_with (at_builtin;rw [← HW1.out];refine wpList_append_bytes (w0:=w) w.heap.size rfl _ _ 31 5 rfl Tryz.underlying31 info_u8b (.slice A' k c') ((le8 N).take k) [UInt8.ofNat (M % 256)] rfl HO1.out (some ⟨wr.heap.size,0,none⟩) 1 rfl HR1.out ?c2 HK1.out.size HK1.out ?_)
    case c2=>rw [List.length_take,le8_length];simp;omega
    intro v2 w2 hown2 hb2 _ _
    have hl2:((le8 N).take k++[UInt8.ofNat (M % 256)]).length=k+1:=by
     rw [List.length_append,List.length_take,le8_length];simp;omega
    obtain ⟨A2,c2,e2,_⟩:=hown2.form
    rw [hl2] at e2
    subst e2
    rw [← HT.out] at hown2
    have HO2:=Hi hown2
    have HB2:=Hi hb2
    clear hown2 hb2 hl2
    go_wp2
    exact ⟨⟨k+1,A2,c2,by omega,by go_num,by rw [HD.out];go_num,rfl,HO2.out,HB2.out⟩,by simp [intOf];omega⟩
  · have h8:k=8:=by omega
    subst h8
    have e8:(le8 N).take 8=le8 N:=List.take_of_length_le (by rw [le8_length];exact Nat.le_refl _)
    rw [e8] at HO
    clear e8
    go_wp2
    go_ret
    exact ⟨_,rfl,HO.out,HK.out⟩
set_option maxRecDepth 10000 in
set_option maxHeartbeats 1000000 in
theorem refVaB_text (k:Int) (hk:k=4∨k=5) (i:Int) (f:Nat) (t:ByteArray) (ht:t.size≤1024) (B:Option Addr) (nb cb:Nat) (w:World) :
 Calls Tryz.prog 146 #[.agg #[.int .i64 k,.int .i64 i,.float .f64 f,.string t,.slice B nb cb]] w (NewB w (textBytes t)):=by
 obtain ⟨W0,hW0⟩:∃ W0,W0=w.alloc (.cells #[.int .i64 k,.int .i64 i,.float .f64 f,.string t,.slice B nb cb] 101):=⟨_,rfl⟩
 have hk0:Keeps w W0:=by rw [hW0];exact (Keeps.refl w).alloc _
 have hb0:W0.heap[w.heap.size]? = some (.cells #[.int .i64 k,.int .i64 i,.float .f64 f,.string t,.slice B nb cb] 101):=by rw [hW0];exact obj_new w _
 have HP:=Hi (ref3Put_calls t.size (by omega) W0)
 have HL10:=Hi (leb_le t.size (by omega))
 have HK0:=Hi hk0
 have HB0:=Hi hb0
 clear hk0 hb0
 rcases hk with rfl | rfl
 all_goals
  go_enter Tryz.func146,Tryz.ntmps146
  go_wp2_with fail
  rw [← hW0]
  clear hW0
  refine HP.out.mono ?_
  rintro e w1 ⟨v1,rfl,hown1,hk1⟩
  have hb1:=(hk1.below.block _ (obj_lt HB0.out)).trans HB0.out
  obtain ⟨d0,d1,d2,d3,d4,_⟩:=cells5 hb1
  have u1:=obj_lt hb1
  have HO:=Hi (hown1.weaken HK0.out.size)
  have HK1:=Hi (HK0.out.trans hk1)
  clear hown1 hk1 hb1
  obtain ⟨A1,c1,rfl,_⟩:=HO.out.form
  generalize hm:(leb t.size).length=m at HO
  have HM:=Hi hm
  clear hm
  go_wp2_with (at_builtin;refine wpList_append_text w.heap.size rfl _ _ 31 9 5 rfl Tryz.underlying31 Tryz.underlying9 info_u8b (.slice A1 m c1) (leb t.size) rfl HO.out t rfl ?d1 HK1.out.size ?_)
  case d1=>have:=HL10.out;omega
  intro v2 w2 hown2 hg2 _
  have HO2:=Hi hown2
  have HK2:=Hi (HK1.out.trans' hg2 fun j e=>HO.out.ge j e)
  clear hown2 hg2
  go_wp2
  go_ret
  exact ⟨v2,rfl,HO2.out,HK2.out⟩
def RefPutV (n:Nat):Prop:=∀ (x:Va) (xv:Value) (d:Nat) (w:World),SizeOf.sizeOf x<n→x.wf→vaCheck x d=0→VaAt w xv x→(putVa x).length≤140737488355000 →
    Calls Tryz.prog 146 #[xv] w (NewB w (putVa x))
set_option maxRecDepth 10000 in
set_option maxHeartbeats 4000000 in
theorem refVaB_items (k:Int) (hk:k=6∨k=7) (n:Nat) (ih:RefPutV n) (i:Int) (f:Nat) (t:ByteArray) (B:Option Addr) (cb d:Nat) (items:List Va) (w:World)
 (hn:SizeOf.sizeOf (Va.mk k i f t items)<n+1) (hwf:(Va.mk k i f t items).wf) (hck:vaCheck (.mk k i f t items) d=0) (hv:VaAt w (.agg #[.int .i64 k,.int .i64 i,.float .f64 f,.string t,.slice B items.length cb]) (.mk k i f t items)) (hlen:(putVa (.mk k i f t items)).length≤140737488355000) :
 Calls Tryz.prog 146 #[.agg #[.int .i64 k,.int .i64 i,.float .f64 f,.string t,.slice B items.length cb]] w (NewB w (putVa (.mk k i f t items))):=by
 obtain ⟨W0,hW0⟩:∃ W0,W0=w.alloc (.cells #[.int .i64 k,.int .i64 i,.float .f64 f,.string t,.slice B items.length cb] 101):=⟨_,rfl⟩
 have hk0:Keeps w W0:=by rw [hW0];exact (Keeps.refl w).alloc _
 have hb0:W0.heap[w.heap.size]? = some (.cells #[.int .i64 k,.int .i64 i,.float .f64 f,.string t,.slice B items.length cb] 101):=by rw [hW0];exact obj_new w _
 obtain ⟨_,how,_,hl256,_,hcs⟩:=vaCheck_ok hck
 have hwfi:Va.wfs items:=by rw [Va.wf] at hwf;exact hwf.2.2.2
 obtain ⟨head,hhead⟩:∃ head,head=if k=6 then [if items.length=1 then (1:UInt8) else 0] else leb items.length:=⟨_,rfl⟩
 have hput:putVa (.mk k i f t items)=head++putVas items:=by
  rw [putVa,hhead]
  simp only [show ¬k=1 by omega,show ¬k=2 by omega,show ¬k=3 by omega,show ¬(k=4∨k=5) by omega,if_false]
  split <;> simp
 generalize hP:putVa (.mk k i f t items)=P at hput hlen ⊢
 have hlenp:head.length+(putVas items).length≤140737488355000:=by
  rw [hput,List.length_append] at hlen
  omega
 have hlh:head.length≤10:=by
  rw [hhead]
  split
  · simp
  · exact leb_le _ (by omega)
 have hopt:k=6→items.length=0∨items.length=1:=fun e=>by subst e;exact vaOwn_opt how
 clear hP hlen
 have HV:=Hi hv
 have HB0:=Hi hb0
 have HK0:=Hi hk0
 have HPUT:=Hi hput
 have HWF:=Hi hwfi
 have HSZ:=Hi hn
 have IH:=Hi ih
 have HLP:=Hi hlenp
 have HLH:=Hi hlh
 have HCS:=Hi hcs
 have HOPT:=Hi hopt
 clear hv hb0 hk0 hput hwfi hwf hn ih hlenp hcs how hck hopt hlh
 generalize hN:items.length=N at hl256 HV HB0 hW0 hhead HOPT ⊢
 have HN:=Hi hN
 clear hN
 rcases hk with rfl | rfl
 · rw [if_pos rfl] at hhead
   rcases HOPT.out rfl with h | h
   · subst h
     have hhd:head=[0]:=by rw [hhead];rfl
     have HH:=Hi hhd
     clear hhead hhd HOPT
     obtain ⟨W1,hW1⟩:∃ W1,W1=W0.alloc (.cells #[.int .u8 0] 5):=⟨_,rfl⟩
     have hk1:Keeps w W1:=by rw [hW1];exact HK0.out.alloc _
     have hr1:Reads W1 (some ⟨w.heap.size+1,0,none⟩) [0]:=by rw [hW1];exact Reads.new_at _ _ _ _ _ rfl _ (by rw [hW0];simp)
     have hb1:W1.heap[w.heap.size]? = some (.cells #[.int .i64 6,.int .i64 i,.float .f64 f,.string t,.slice B 0 cb] 101):=by rw [hW1];exact obj_old HB0.out _
     have HK1':=Hi hk1
     have HR1:=Hi hr1
     have HB1':=Hi hb1
     have HW1:Hid (W1=(w.alloc (.cells #[.int .i64 6,.int .i64 i,.float .f64 f,.string t,.slice B 0 cb] 101)).alloc (.cells #[.int .u8 0] 5)):=Hi (by rw [hW1,hW0])
     clear hk1 hr1 hb1 hW1 hW0
     go_enter Tryz.func146,Tryz.ntmps146
     go_wp2_with (first | (go_at_call 145;refine (refFlag_calls _ _).mono ?_;rintro e w1 ⟨rfl,rfl⟩) | (at_builtin;rw [← HW1.out];refine wpList_append_bytes (w0:=w) w.heap.size rfl _ _ 31 5 rfl Tryz.underlying31 info_u8b (.slice none 0 0) [] [0] rfl (OwnB.nil _ _ _) (some ⟨w.heap.size+1,0,none⟩) 1 rfl HR1.out (by simp) HK1'.out.size HK1'.out ?_))
     intro v1 w1 hown1 hkb1 hg1 _
     have hbx1:=(hg1.block _ (obj_lt HB1'.out) (by simp [Value.ownBlock])).trans HB1'.out
     obtain ⟨A1,M1,c1,rfl,hown1'⟩:=hown1.named (l':=head) (by rw [HH.out])
     have HO1:=Hi hown1'
     have HB1:=Hi hbx1
     have HK1:Hid (Keeps w w1):=Hi hkb1
     clear hown1 hown1' hbx1 hkb1 hg1
     go_wp2_with fail
     go_loopw [3,7] (fun b j wr=>∃ (m:Nat) (A':Option Addr) (c' M:Nat),m≤0∧j=.int .i64 (m:Int)∧b=.slice A' M c'∧OwnB 5 wr w.heap.size (.slice A' M c') (head++putVas (items.take m))∧wr.heap[w.heap.size]? = some (.cells #[.int .i64 6,.int .i64 i,.float .f64 f,.string t,.slice B 0 cb] 101)∧Keeps w wr) (fun _ j _=>0-(intOf j).toNat)
     case atStart=>exact ⟨0,_,_,_,Nat.zero_le _,rfl,rfl,by simpa [putVas] using HO1.out,HB1.out,HK1.out⟩
     case round=>
      obtain ⟨m,A',c',M,hm,rfl,rfl,hown,hbx,hkp⟩:=hrel
      obtain ⟨d0,d1,d2,d3,d4,_⟩:=cells5 hbx
      have u1:=obj_lt hbx
      by_cases hlt:m<0
      · exact absurd hlt (by omega)
      · have e:items.take m=items:=List.take_of_length_le (by rw [HN.out];omega)
        rw [e,← HPUT.out] at hown
        have HO:=Hi hown
        have HK:=Hi hkp
        clear hown hkp e hbx
        go_wp2
        go_ret
        exact ⟨_,rfl,HO.out,HK.out⟩
   · subst h
     have hhd:head=[1]:=by rw [hhead];rfl
     have HH:=Hi hhd
     clear hhead hhd HOPT
     obtain ⟨W1,hW1⟩:∃ W1,W1=W0.alloc (.cells #[.int .u8 1] 5):=⟨_,rfl⟩
     have hk1:Keeps w W1:=by rw [hW1];exact HK0.out.alloc _
     have hr1:Reads W1 (some ⟨w.heap.size+1,0,none⟩) [1]:=by rw [hW1];exact Reads.new_at _ _ _ _ _ rfl _ (by rw [hW0];simp)
     have hb1:W1.heap[w.heap.size]? = some (.cells #[.int .i64 6,.int .i64 i,.float .f64 f,.string t,.slice B 1 cb] 101):=by rw [hW1];exact obj_old HB0.out _
     have HK1':=Hi hk1
     have HR1:=Hi hr1
     have HB1':=Hi hb1
     have HW1:Hid (W1=(w.alloc (.cells #[.int .i64 6,.int .i64 i,.float .f64 f,.string t,.slice B 1 cb] 101)).alloc (.cells #[.int .u8 1] 5)):=Hi (by rw [hW1,hW0])
     clear hk1 hr1 hb1 hW1 hW0
     go_enter Tryz.func146,Tryz.ntmps146
     go_wp2_with (first | (go_at_call 145;refine (refFlag_calls _ _).mono ?_;rintro e w1 ⟨rfl,rfl⟩) | (at_builtin;rw [← HW1.out];refine wpList_append_bytes (w0:=w) w.heap.size rfl _ _ 31 5 rfl Tryz.underlying31 info_u8b (.slice none 0 0) [] [1] rfl (OwnB.nil _ _ _) (some ⟨w.heap.size+1,0,none⟩) 1 rfl HR1.out (by simp) HK1'.out.size HK1'.out ?_))
     intro v1 w1 hown1 hkb1 hg1 _
     have hbx1:=(hg1.block _ (obj_lt HB1'.out) (by simp [Value.ownBlock])).trans HB1'.out
     obtain ⟨A1,M1,c1,rfl,hown1'⟩:=hown1.named (l':=head) (by rw [HH.out])
     have HO1:=Hi hown1'
     have HB1:=Hi hbx1
     have HK1:Hid (Keeps w w1):=Hi hkb1
     clear hown1 hown1' hbx1 hkb1 hg1
     go_wp2_with fail
     go_loopw [3,7] (fun b j wr=>∃ (m:Nat) (A':Option Addr) (c' M:Nat),m≤1∧j=.int .i64 (m:Int)∧b=.slice A' M c'∧OwnB 5 wr w.heap.size (.slice A' M c') (head++putVas (items.take m))∧wr.heap[w.heap.size]? = some (.cells #[.int .i64 6,.int .i64 i,.float .f64 f,.string t,.slice B 1 cb] 101)∧Keeps w wr) (fun _ j _=>1-(intOf j).toNat)
     case atStart=>exact ⟨0,_,_,_,Nat.zero_le _,rfl,rfl,by simpa [putVas] using HO1.out,HB1.out,HK1.out⟩
     case round=>
      obtain ⟨m,A',c',M,hm,rfl,rfl,hown,hbx,hkp⟩:=hrel
      obtain ⟨d0,d1,d2,d3,d4,_⟩:=cells5 hbx
      have u1:=obj_lt hbx
      by_cases hlt:m<1
      · have hlt1:m<items.length:=by rw [HN.out];exact hlt
        obtain ⟨ad,A2,c2,rfl,_,x0,x1,x2,x3,x4,hel⟩:=(VaS.of_at (HV.out.later hkp.below)).elem m hlt1
        have htk:=putVas_take items m hlt1
        have hle:=putVas_le items (m+1)
        rw [htk,List.length_append] at hle
        have hsz:SizeOf.sizeOf (items[m]'hlt1)<n:=by
         have h1:=List.sizeOf_lt_of_mem (List.getElem_mem hlt1)
         have h2:=HSZ.out
         simp only [Va.mk.sizeOf_spec] at h2
         omega
        have hc:=IH.out (items[m]'hlt1) _ (d+1) wr hsz (Va.wfs_get items m hlt1 HWF.out) (vaChecks_get items _ m hlt1 HCS.out) hel.at (by have h1:=HLP.out;omega)
        have HTK:=Hi htk
        have HLE:=Hi hle
        clear hel htk hsz hle
        obtain ⟨x,hx⟩:∃ x,x=items[m]'hlt1:=⟨_,rfl⟩
        rw [← hx] at x0 x1 x2 x3 x4 hc HTK HLE
        have HC:=Hi hc
        have HO:=Hi hown
        have HBX:=Hi hbx
        have HK:=Hi hkp
        clear hc hown hbx hkp hx hlt1
        generalize x.items.length=nx at x4 HC
        generalize x.kind=kx at x0 HC
        generalize x.int=ix at x1 HC
        generalize x.fl=fx at x2 HC
        generalize x.text=tx at x3 HC
        go_wp2_with fail
        refine HC.out.mono ?_
        rintro e w2 ⟨v2,rfl,hown2,hk2⟩
        obtain ⟨A3,M3,c3,rfl,HM3,HR3⟩:=hown2.seen
        have HK2:=Hi (HK.out.trans hk2)
        have HO2:=Hi (HO.out.below hk2)
        have HB2:=Hi ((hk2.below.block _ (obj_lt HBX.out)).trans HBX.out)
        clear hown2 hk2 HC d0 d1 d2 d3 d4 u1 x0 x1 x2 x3 x4
        go_wp2_with (at_builtin;refine wpList_append_bytes (w0:=w) w.heap.size rfl _ _ 31 5 rfl Tryz.underlying31 info_u8b (.slice A' M c') (head++putVas (items.take m)) (putVa x) rfl HO2.out A3 c3 (by rw [HM3.out];rfl) HR3.out ?c2 HK2.out.size HK2.out ?_)
        case c2=>have:=HLE.out;have:=HLP.out;have:=HLH.out;rw [List.length_append];omega
        intro v3 w3 hown3 hb3 hg3 _
        have hbx3:=(hg3.block _ (obj_lt HB2.out) (fun e=>own_obj_ne HO2.out HB2.out (by decide) e.symm)).trans HB2.out
        obtain ⟨A4,M4,c4,rfl,hown4⟩:=hown3.named (l':=head++putVas (items.take (m+1))) (by rw [HTK.out];try simp only [List.append_assoc])
        have HO3:=Hi hown4
        have HB3:=Hi hb3
        have HBX3:=Hi hbx3
        clear hown3 hown4 hb3 hg3 hbx3
        go_wp2
        exact ⟨⟨m+1,A4,c4,_,by omega,by go_num,rfl,HO3.out,HBX3.out,HB3.out⟩,by simp [intOf];omega⟩
      · have e:items.take m=items:=List.take_of_length_le (by rw [HN.out];omega)
        rw [e,← HPUT.out] at hown
        have HO:=Hi hown
        have HK:=Hi hkp
        clear hown hkp e hbx
        go_wp2
        go_ret
        exact ⟨_,rfl,HO.out,HK.out⟩
 · rw [if_neg (by omega)] at hhead
   have HH:=Hi hhead
   have HP:=Hi (ref3Put_calls N (by omega) W0)
   clear hhead HOPT
   go_enter Tryz.func146,Tryz.ntmps146
   go_wp2_with fail
   rw [← hW0]
   clear hW0
   refine HP.out.mono ?_
   rintro e w1 ⟨v1,rfl,hown1,hk1⟩
   obtain ⟨A1,M1,c1,rfl,hown1'⟩:=hown1.named HH.out.symm
   have HO1:=Hi (hown1'.weaken HK0.out.size)
   have HB1:=Hi ((hk1.below.block _ (obj_lt HB0.out)).trans HB0.out)
   have HK1:=Hi (HK0.out.trans hk1)
   clear hown1 hown1' hk1 HP
   obtain ⟨d0,d1,d2,d3,d4,_⟩:=cells5 HB1.out
   have u1:=obj_lt HB1.out
   go_wp2_with fail
   clear d0 d1 d2 d3 d4 u1
   go_loopw [3,7] (fun b j wr=>∃ (m:Nat) (A':Option Addr) (c' M:Nat),m≤N∧j=.int .i64 (m:Int)∧b=.slice A' M c'∧OwnB 5 wr w.heap.size (.slice A' M c') (head++putVas (items.take m))∧wr.heap[w.heap.size]? = some (.cells #[.int .i64 7,.int .i64 i,.float .f64 f,.string t,.slice B N cb] 101)∧Keeps w wr) (fun _ j _=>N-(intOf j).toNat)
   case atStart=>exact ⟨0,_,_,_,Nat.zero_le _,rfl,rfl,by simpa [putVas] using HO1.out,HB1.out,HK1.out⟩
   case round=>
    obtain ⟨m,A',c',M,hm,rfl,rfl,hown,hbx,hkp⟩:=hrel
    obtain ⟨d0,d1,d2,d3,d4,_⟩:=cells5 hbx
    have u1:=obj_lt hbx
    by_cases hlt:m<N
    · have hlt1:m<items.length:=by rw [HN.out];exact hlt
      obtain ⟨ad,A2,c2,rfl,_,x0,x1,x2,x3,x4,hel⟩:=(VaS.of_at (HV.out.later hkp.below)).elem m hlt1
      have htk:=putVas_take items m hlt1
      have hle:=putVas_le items (m+1)
      rw [htk,List.length_append] at hle
      have hsz:SizeOf.sizeOf (items[m]'hlt1)<n:=by
       have h1:=List.sizeOf_lt_of_mem (List.getElem_mem hlt1)
       have h2:=HSZ.out
       simp only [Va.mk.sizeOf_spec] at h2
       omega
      have hc:=IH.out (items[m]'hlt1) _ (d+1) wr hsz (Va.wfs_get items m hlt1 HWF.out) (vaChecks_get items _ m hlt1 HCS.out) hel.at (by have h1:=HLP.out;omega)
      have HTK:=Hi htk
      have HLE:=Hi hle
      clear hel htk hsz hle
      obtain ⟨x,hx⟩:∃ x,x=items[m]'hlt1:=⟨_,rfl⟩
      rw [← hx] at x0 x1 x2 x3 x4 hc HTK HLE
      have HC:=Hi hc
      have HO:=Hi hown
      have HBX:=Hi hbx
      have HK:=Hi hkp
      clear hc hown hbx hkp hx hlt1
      generalize x.items.length=nx at x4 HC
      generalize x.kind=kx at x0 HC
      generalize x.int=ix at x1 HC
      generalize x.fl=fx at x2 HC
      generalize x.text=tx at x3 HC
      go_wp2_with fail
      refine HC.out.mono ?_
      rintro e w2 ⟨v2,rfl,hown2,hk2⟩
      obtain ⟨A3,M3,c3,rfl,HM3,HR3⟩:=hown2.seen
      have HK2:=Hi (HK.out.trans hk2)
      have HO2:=Hi (HO.out.below hk2)
      have HB2:=Hi ((hk2.below.block _ (obj_lt HBX.out)).trans HBX.out)
      clear hown2 hk2 HC d0 d1 d2 d3 d4 u1 x0 x1 x2 x3 x4
      go_wp2_with (at_builtin;refine wpList_append_bytes (w0:=w) w.heap.size rfl _ _ 31 5 rfl Tryz.underlying31 info_u8b (.slice A' M c') (head++putVas (items.take m)) (putVa x) rfl HO2.out A3 c3 (by rw [HM3.out];rfl) HR3.out ?c2 HK2.out.size HK2.out ?_)
      case c2=>have:=HLE.out;have:=HLP.out;have:=HLH.out;rw [List.length_append];omega
      intro v3 w3 hown3 hb3 hg3 _
      have hbx3:=(hg3.block _ (obj_lt HB2.out) (fun e=>own_obj_ne HO2.out HB2.out (by decide) e.symm)).trans HB2.out
      obtain ⟨A4,M4,c4,rfl,hown4⟩:=hown3.named (l':=head++putVas (items.take (m+1))) (by rw [HTK.out];try simp only [List.append_assoc])
      have HO3:=Hi hown4
      have HB3:=Hi hb3
      have HBX3:=Hi hbx3
      clear hown3 hown4 hb3 hg3 hbx3
      go_wp2
      exact ⟨⟨m+1,A4,c4,_,by omega,by go_num,rfl,HO3.out,HBX3.out,HB3.out⟩,by simp [intOf];omega⟩
    · have e:items.take m=items:=List.take_of_length_le (by rw [HN.out];omega)
      rw [e,← HPUT.out] at hown
      have HO:=Hi hown
      have HK:=Hi hkp
      clear hown hkp e hbx
      go_wp2
      go_ret
      exact ⟨_,rfl,HO.out,HK.out⟩
theorem refValueBytes_calls (n:Nat):RefPutV n:=by
 induction n with
 | zero=>intro x xv d w hn;exact absurd hn (by omega)
 | succ n ih=>
   intro x xv d w hn hwf hck hv hlen
   obtain ⟨B,cb,rfl⟩:=hv.form
   cases x with
   | mk k i f t l=>
     have how:=(vaCheck_ok hck).2.1
     have hts:=(vaCheck_ok hck).2.2.1
     obtain ⟨h1,h7⟩:=vaOwn_kind how
     have hw:=hwf
     rw [Va.wf] at hw
     show Calls _ _ #[.agg #[.int .i64 k,.int .i64 i,.float .f64 f,.string t,.slice B l.length cb]] w _
     by_cases hk:k=6∨k=7
     · exact refVaB_items k hk n ih i f t B cb d l w hn hwf hck hv hlen
     · obtain rfl | rfl | rfl | h45:k=1∨k=2∨k=3∨k=4∨k=5:=by omega
       · have:=refVaB_one i (vaOwn_bool how) f t B l.length cb w
         rw [putVa,if_pos rfl];exact this
       · have:=refVaB_two i hw.1 hw.2.1 f t B l.length cb w
         rw [putVa,if_neg (by omega),if_pos rfl];exact this
       · have:=refVaB_three i f hw.2.2.1 t B l.length cb w
         rw [putVa,if_neg (by omega),if_neg (by omega),if_pos rfl];exact this
       · have:=refVaB_text k h45 i f t hts B l.length cb w
         rw [putVa,if_neg (by omega),if_neg (by omega),if_neg (by omega),if_pos h45];exact this
def Col.fine (c:Col):Prop:=tyCheck c.ty 1=0∧c.dflt.wf∧(c.has=true→vaCheck c.dflt 1=0)
set_option maxRecDepth 20000 in
set_option maxHeartbeats 4000000 in
theorem refBytesOf_calls (A:Option Addr) (c:Nat) (l:List Col) (w:World) (hs:SchS w (fun b=>b<w.heap.size) A l) (hc:∀ j (h:j<l.length),(l[j]'h).fine) (hlen:(putS l).length≤140737488354000) :
 Calls Tryz.prog 106 #[.agg #[.slice A l.length c]] w (NewB w (putS l)):=by
 obtain ⟨W0,hW0⟩:∃ W0,W0=w.alloc (.cells #[.slice A l.length c] 30):=⟨_,rfl⟩
 have hk0:Keeps w W0:=by rw [hW0];exact (Keeps.refl w).alloc _
 have hb0:W0.heap[w.heap.size]? = some (.cells #[.slice A l.length c] 30):=by rw [hW0];exact obj_new w _
 have hil:=hs.len
 have hp:=ref3Put_calls l.length (by omega) W0
 have hP:putS l=leb l.length++putCols l:=rfl
 generalize putS l=P at hP hlen ⊢
 have hlenp:(leb l.length).length+(putCols l).length≤140737488354000:=by rw [hP,List.length_append] at hlen;exact hlen
 have HS:=Hi hs
 have HC:=Hi hc
 have HP:=Hi hp
 have HPP:=Hi hP
 have HLP:=Hi hlenp
 have HK0:=Hi hk0
 have HB0:=Hi hb0
 clear hs hc hp hP hlenp hk0 hb0 hlen
 generalize hN:l.length=N at hil HP HPP HLP HB0 hW0 ⊢
 have HN:=Hi hN
 clear hN
 go_enter Tryz.func106,Tryz.ntmps106
 go_wp2_with fail
 rw [← hW0]
 clear hW0
 refine HP.out.mono ?_
 rintro e w1 ⟨v1,rfl,hown1,hk1⟩
 have hb1:w1.heap[w.heap.size]? = some (.cells #[.slice A N c] 30):=by rw [hk1.below.block _ (obj_lt HB0.out)];exact HB0.out
 obtain ⟨t0,_⟩:=cells1 hb1
 have u1:=obj_lt hb1
 obtain ⟨A1,M1,c1,rfl,hown1'⟩:=(hown1.weaken HK0.out.size).named (l':=leb N) rfl
 have HO1:=Hi hown1'
 have HB1:=Hi hb1
 have HK1:=Hi (HK0.out.trans hk1)
 clear hown1 hown1' hk1 HP hb1 HB0
 go_wp2_with fail
 clear t0 u1
 go_loopw [3,4] (fun b j wr=>∃ (m:Nat) (A':Option Addr) (c' M:Nat),m≤N∧j=.int .i64 (m:Int)∧b=.slice A' M c'∧OwnB 5 wr w.heap.size (.slice A' M c') (leb N++putCols (l.take m))∧wr.heap[w.heap.size]? = some (.cells #[.slice A N c] 30)∧Keeps w wr) (fun _ j _=>N-(intOf j).toNat)
 case atStart=>exact ⟨0,A1,c1,M1,Nat.zero_le _,rfl,rfl,by simpa [putCols] using HO1.out,HB1.out,HK1.out⟩
 case round=>
  obtain ⟨m,A',c',M,hm,rfl,rfl,hown,hbs,hk⟩:=hrel
  obtain ⟨t0,_⟩:=cells1 hbs
  have u0:=obj_lt hbs
  by_cases hlt:m<N
  · have hlt1:m<l.length:=by rw [HN.out];exact hlt
    obtain ⟨ad,x0,x1,x2,x3,x4,x5,x6,x7,x8,rfl,_,hcol,c0,c1,c2,c3,c4,c5,c6,c7,c8⟩:=(HS.out.later hk.below).get m hlt1
    have hcp:=HC.out m hlt1
    have htk:=putCols_take l m hlt1
    have hle:=putCols_le l (m+1)
    rw [htk,List.length_append] at hle
    obtain ⟨y,hy⟩:∃ y,y=l[m]'hlt1:=⟨_,rfl⟩
    rw [← hy] at hcol hcp htk hle
    clear hy hlt1
    obtain ⟨⟨A2,k2,e2⟩,A8,k8,e8⟩:=hcol.form
    have hnm:=hcol.nm;have htkd:=hcol.tk;have hhs:=hcol.hs;have hdk:=hcol.dk;have hdi:=hcol.di;have hdf:=hcol.df;have hdt:=hcol.dt
    subst hnm htkd e2 hhs hdk hdi hdf hdt e8
    obtain ⟨W1,hW1⟩:∃ W1,W1=wr.alloc (.cells #[.string y.name,.int .i64 y.ty.kind,.slice A2 y.ty.of.length k2,.bool y.has,.int .i64 y.dflt.kind,.int .i64 y.dflt.int,.float .f64 y.dflt.fl,.string y.dflt.text,.slice A8 y.dflt.items.length k8] 103):=⟨_,rfl⟩
    have hkw1:Keeps wr W1:=by rw [hW1];exact (Keeps.refl wr).alloc _
    have hbc:W1.heap[wr.heap.size]? = some (.cells #[.string y.name,.int .i64 y.ty.kind,.slice A2 y.ty.of.length k2,.bool y.has,.int .i64 y.dflt.kind,.int .i64 y.dflt.int,.float .f64 y.dflt.fl,.string y.dflt.text,.slice A8 y.dflt.items.length k8] 103):=by rw [hW1];exact obj_new wr _
    have hpl:(putCol y).length=(textBytes y.name).length+((putTy y.ty).length+(1+(if y.has=true then putVa y.dflt else []).length)):=by
     unfold putCol;rw [List.length_append,List.length_append,List.length_cons];omega
    have htl:(textBytes y.name).length=(leb y.name.size).length+y.name.size:=by unfold textBytes;rw [List.length_append];rfl
    have hlp:=HLP.out
    have hll:(leb N++putCols (l.take m)).length=(leb N).length+(putCols (l.take m)).length:=List.length_append
    have hnb:y.name.size≤140737488354000:=by omega
    have hput:=ref3Put_calls y.name.size (by omega) W1
    have hvb:∀ k,(Value.slice A' M c').ownBlock=some k→k<wr.heap.size:=fun k e=>own_lt hown k e
    have HPN:=Hi hput
    have HVB:=Hi hvb
    have HOWN:=Hi hown
    have HBS:=Hi hbs
    have HBC:=Hi hbc
    have HTK:=Hi htk
    have HCOL:=Hi hcol
    have HK:=Hi hk
    have HCP:=Hi hcp
    have HPL:=Hi hpl
    have HTL:=Hi htl
    have HLE:=Hi hle
    have HLL:=Hi hll
    have HKW1:=Hi hkw1
    clear hput hvb hbs hbc htk hcol hk hcp hown hkw1 hle hlp hll hpl htl
    go_wp2_with fail
    rw [← hW1]
    clear hW1 t0 u0 c0 c1 c2 c3 c4 c5 c6 c7 c8
    refine HPN.out.mono ?_
    rintro e w2 ⟨vn,rfl,hownN,hk2⟩
    have hb2:=(hk2.below.block _ (obj_lt HBC.out)).trans HBC.out
    obtain ⟨⟨d0,d1,d2,d3,d4,d5,d6,d7,d8⟩,_⟩:=cells9 hb2
    have u2:=obj_lt hb2
    have hk02:=HKW1.out.trans hk2
    have htb:=refTypeBytes_calls 4 y.ty 1 _ w2 (by omega) HCP.out.1 (HCOL.out.ty.later hk02.below).at
    obtain ⟨An,Mn,cn,rfl,hownN'⟩:=hownN.named (l':=leb y.name.size) rfl
    have HTB:=Hi htb
    have HON:=Hi hownN'
    have HB2:=Hi hb2
    have HK2:=Hi hk02
    clear htb hownN hownN' hb2 hk02 hk2 HPN HBC
    go_wp2_with fail
    refine HTB.out.mono ?_
    rintro e w3 ⟨vt,rfl,hownT,hk3⟩
    clear d0 d1 d2 d3 d4 d5 d6 d7 d8 u2
    have hb3:=(hk3.below.block _ (obj_lt HB2.out)).trans HB2.out
    obtain ⟨⟨d0,d1,d2,d3,d4,d5,d6,d7,d8⟩,_⟩:=cells9 hb3
    have u3:=obj_lt hb3
    obtain ⟨At,Mt,ct,rfl,hownT'⟩:=hownT.named (l':=putTy y.ty) rfl
    have HOT:=Hi hownT'
    have HB3:=Hi hb3
    have HK3:=Hi (HK2.out.trans hk3)
    have hs23:=HK2.out.size
    have hs3:=hk3.size
    have HSZ:=Hi (show wr.heap.size≤w2.heap.size∧w2.heap.size≤w3.heap.size from ⟨hs23,hs3⟩)
    obtain ⟨An2,Mn2,cn2,en2,HMN,HRN⟩:=(HON.out.below hk3).seen
    injection en2 with g1 g2 g3
    subst g1 g2 g3
    have HOB:=Hi (HOWN.out.below HK3.out)
    clear hownT hownT' hb3 hk3 hs23 hs3 HTB HB2
    go_wp2_with (at_builtin;refine wpList_append_bytes (w0:=w3) w.heap.size rfl _ _ 31 5 rfl Tryz.underlying31 info_u8b (.slice A' M c') (leb N++putCols (l.take m)) (leb y.name.size) rfl HOB.out An cn (by rw [HMN.out];rfl) HRN.out ?c2 ?c3 (Below.refl _ _) ?_)
    case c2=>have h1:=HLP.out;have h2:=HLL.out;have h3:=HPL.out;have h4:=HLE.out;have h5:=HTL.out;omega
    case c3=>have h1:=HK.out.size;have h2:=HSZ.out;omega
    intro v4 w4 hown4 _ hg4 ha4
    obtain ⟨A4,M4,c4,rfl,hown4'⟩:=hown4.named (l':=leb N++putCols (l.take m)++leb y.name.size) (by first | rfl | simp only [List.append_assoc,List.cons_append,List.nil_append])
    have hG4:=Grows.of hown4' hg4 ha4
    have hb4:=hG4.touch.obj HB3.out (fun e=>own_obj_ne HOB.out HB3.out (by decide) e)
    clear d0 d1 d2 d3 d4 d5 d6 d7 d8 u3
    obtain ⟨⟨d0,d1,d2,d3,d4,d5,d6,d7,d8⟩,_⟩:=cells9 hb4
    have u4:=obj_lt hb4
    have HG4:=Hi hG4
    clear hown4 hown4' hg4 ha4 hG4 hb4
    go_wp2_with (at_builtin;refine wpList_append_text w.heap.size rfl _ _ 31 9 5 rfl Tryz.underlying31 Tryz.underlying9 info_u8b (.slice A4 M4 c4) (leb N++putCols (l.take m)++leb y.name.size) rfl HG4.out.own y.name rfl ?e1 ?e2 ?_)
    case e1=>have h1:=HLP.out;have h2:=HLL.out;have h3:=HPL.out;have h4:=HLE.out;have h5:=HTL.out;rw [List.length_append];omega
    case e2=>have h1:=HK.out.size;have h2:=HSZ.out;have h3:=HG4.out.touch.size;omega
    intro v5 w5 hown5 hg5 ha5
    obtain ⟨A5,M5,c5,rfl,hown5'⟩:=hown5.named (l':=leb N++putCols (l.take m)++textBytes y.name) (by unfold textBytes;first | rfl | simp only [List.append_assoc,List.cons_append,List.nil_append])
    have hG5:=HG4.out.trans (Grows.of hown5' hg5 ha5)
    have hb5:=hG5.touch.obj HB3.out (fun e=>own_obj_ne HOB.out HB3.out (by decide) e)
    clear d0 d1 d2 d3 d4 d5 d6 d7 d8 u4
    obtain ⟨⟨d0,d1,d2,d3,d4,d5,d6,d7,d8⟩,_⟩:=cells9 hb5
    have u5:=obj_lt hb5
    have hT5:OwnB 5 w5 w2.heap.size (.slice At Mt ct) (putTy y.ty):=hG5.touch.ownB HOT.out (fun k e e'=>by have h1:=HOT.out.ge k e;have h2:=HVB.out k e';have h3:=HSZ.out;omega)
    obtain ⟨At2,Mt2,ct2,et2,HMT,HRT⟩:=hT5.seen
    injection et2 with g1 g2 g3
    subst g1 g2 g3
    have HG5:=Hi hG5
    clear hown5 hown5' hg5 ha5 hG5 hb5 hT5 HG4
    go_wp2_with (at_builtin;refine wpList_append_bytes (w0:=w5) w.heap.size rfl _ _ 31 5 rfl Tryz.underlying31 info_u8b (.slice A5 M5 c5) (leb N++putCols (l.take m)++textBytes y.name) (putTy y.ty) rfl HG5.out.own At ct (by rw [HMT.out];rfl) HRT.out ?f2 ?f3 (Below.refl _ _) ?_)
    case f2=>have h1:=HLP.out;have h2:=HLL.out;have h3:=HPL.out;have h4:=HLE.out;rw [List.length_append];omega
    case f3=>have h1:=HK.out.size;have h2:=HSZ.out;have h3:=HG5.out.touch.size;omega
    intro v6 w6 hown6 _ hg6 ha6
    obtain ⟨A6,M6,c6,rfl,hown6'⟩:=hown6.named (l':=leb N++putCols (l.take m)++textBytes y.name++putTy y.ty) (by first | rfl | simp only [List.append_assoc,List.cons_append,List.nil_append])
    have hG6:=HG5.out.trans (Grows.of hown6' hg6 ha6)
    have hb6:=hG6.touch.obj HB3.out (fun e=>own_obj_ne HOB.out HB3.out (by decide) e)
    clear d0 d1 d2 d3 d4 d5 d6 d7 d8 u5
    obtain ⟨⟨d0,d1,d2,d3,d4,d5,d6,d7,d8⟩,_⟩:=cells9 hb6
    have u6:=obj_lt hb6
    have HG6:=Hi hG6
    clear hown6 hown6' hg6 ha6 hG6 hb6 HG5
    cases hh:y.has with
    | true=>
      rw [hh] at d3
      have HH:=Hi hh
      clear hh
      obtain ⟨W6,hW6⟩:∃ W6,W6=w6.alloc (.cells #[.int .u8 1] 5):=⟨_,rfl⟩
      have hk6:Keeps w6 W6:=by rw [hW6];exact (Keeps.refl w6).alloc _
      have HR6:=Hi (show Reads W6 (some ⟨w6.heap.size,0,none⟩) [1] by rw [hW6];exact Reads.new _ _ _ _ _ rfl)
      have HK6:=Hi hk6
      have HW6:=Hi hW6
      clear hk6 hW6
      go_wp2_with (first | (go_at_call 145;refine (refFlag_calls _ _).mono ?_;rintro e w7 ⟨rfl,rfl⟩) | (at_builtin;rw [← HW6.out];refine wpList_append_bytes (w0:=W6) w.heap.size rfl _ _ 31 5 rfl Tryz.underlying31 info_u8b (.slice A6 M6 c6) (leb N++putCols (l.take m)++textBytes y.name++putTy y.ty) [1] rfl (HG6.out.own.below HK6.out) (some ⟨w6.heap.size,0,none⟩) 1 rfl HR6.out ?g2 ?g3 (Below.refl _ _) ?_))
      case g2=>have h1:=HLP.out;have h2:=HLL.out;have h3:=HPL.out;have h4:=HLE.out;rw [List.length_append,List.length_append];simp only [List.length_cons,List.length_nil];omega
      case g3=>have h1:=HK.out.size;have h2:=HSZ.out;have h3:=HG6.out.touch.size;have h4:=HK6.out.size;omega
      intro v7 w7 hown7 _ hg7 ha7
      obtain ⟨A7,M7,c7,rfl,hown7'⟩:=hown7.named (l':=leb N++putCols (l.take m)++textBytes y.name++putTy y.ty++[1]) (by first | rfl | simp only [List.append_assoc,List.cons_append,List.nil_append])
      have hG7:=HG6.out.trans (Grows.first HK6.out (Grows.of hown7' hg7 ha7))
      have hb7:=hG7.touch.obj HB3.out (fun e=>own_obj_ne HOB.out HB3.out (by decide) e)
      clear d0 d1 d2 d3 d4 d5 d6 d7 d8 u6
      obtain ⟨⟨d0,d1,d2,d3,d4,d5,d6,d7,d8⟩,_⟩:=cells9 hb7
      rw [HH.out] at d3
      have u7:=obj_lt hb7
      have hdv:VaAt w7 (.agg #[.int .i64 y.dflt.kind,.int .i64 y.dflt.int,.float .f64 y.dflt.fl,.string y.dflt.text,.slice A8 y.dflt.items.length k8]) y.dflt:=((HCOL.out.dv.later HK3.out.below).touch hG7.touch (fun b hb e=>by have:=HOWN.out.ge b e;omega)).at
      have hcv:=refValueBytes_calls (SizeOf.sizeOf y.dflt+1) y.dflt _ 1 w7 (by omega) HCP.out.2.1 (HCP.out.2.2 HH.out) hdv (by have h1:=HLP.out;have h2:=HLL.out;have h3:=HPL.out;have h4:=HLE.out;rw [HH.out,if_pos rfl] at h3;omega)
      have HCV:=Hi hcv
      have HG7:=Hi hG7
      clear hcv hdv hown7 hown7' hg7 ha7 hG7 hb7 HG6
      go_wp2_with fail
      refine HCV.out.mono ?_
      rintro e w8 ⟨v8,rfl,hown8,hk8⟩
      obtain ⟨Av,Mv,cv,rfl,HMV,HRV⟩:=hown8.seen
      have HG8:=Hi (HG7.out.later hk8)
      clear hown8 hk8 HCV HG7 d0 d1 d2 d3 d4 d5 d6 d7 d8 u7
      go_wp2_with (at_builtin;refine wpList_append_bytes (w0:=w8) w.heap.size rfl _ _ 31 5 rfl Tryz.underlying31 info_u8b (.slice A7 M7 c7) (leb N++putCols (l.take m)++textBytes y.name++putTy y.ty++[1]) (putVa y.dflt) rfl HG8.out.own Av cv (by rw [HMV.out];rfl) HRV.out ?i2 ?i3 (Below.refl _ _) ?_)
      case i2=>have h1:=HLP.out;have h2:=HLL.out;have h3:=HPL.out;have h4:=HLE.out;rw [HH.out,if_pos rfl] at h3;rw [List.length_append,List.length_append,List.length_append];simp only [List.length_cons,List.length_nil];omega
      case i3=>have h1:=HK.out.size;have h2:=HSZ.out;have h3:=HG8.out.touch.size;omega
      intro v9 w9 hown9 _ hg9 ha9
      have hE:leb N++putCols (l.take m)++textBytes y.name++putTy y.ty++[1]++putVa y.dflt=leb N++putCols (l.take (m+1)):=by
       rw [HTK.out];unfold putCol;rw [HH.out];simp
      obtain ⟨A9,M9,c9,rfl,hown9'⟩:=hown9.named ((by first | rfl | simp only [List.append_assoc,List.cons_append,List.nil_append]:_=leb N++putCols (l.take m)++textBytes y.name++putTy y.ty++[1]++putVa y.dflt).trans hE)
      have hG9:=HG8.out.trans (Grows.of hown9' hg9 ha9)
      have hbz:=(hG9.touch.obj ((HK3.out.below.block _ (obj_lt HBS.out)).trans HBS.out) (fun e=>own_obj_ne HOWN.out HBS.out (by decide) e))
      have HG9:=Hi hG9
      have HBZ:=Hi hbz
      clear hown9 hown9' hg9 ha9 hG9 hE hbz HG8
      go_wp2
      exact ⟨⟨m+1,A9,c9,M9,by omega,by go_num,rfl,HG9.out.own,HBZ.out,(HK.out.trans HK3.out).grow HG9.out HOWN.out.ge⟩,by simp [intOf];omega⟩
    | false=>
      rw [hh] at d3
      have HH:=Hi hh
      clear hh
      obtain ⟨W6,hW6⟩:∃ W6,W6=w6.alloc (.cells #[.int .u8 0] 5):=⟨_,rfl⟩
      have hk6:Keeps w6 W6:=by rw [hW6];exact (Keeps.refl w6).alloc _
      have HR6:=Hi (show Reads W6 (some ⟨w6.heap.size,0,none⟩) [0] by rw [hW6];exact Reads.new _ _ _ _ _ rfl)
      have HK6:=Hi hk6
      have HW6:=Hi hW6
      clear hk6 hW6
      go_wp2_with (first | (go_at_call 145;refine (refFlag_calls _ _).mono ?_;rintro e w7 ⟨rfl,rfl⟩) | (at_builtin;rw [← HW6.out];refine wpList_append_bytes (w0:=W6) w.heap.size rfl _ _ 31 5 rfl Tryz.underlying31 info_u8b (.slice A6 M6 c6) (leb N++putCols (l.take m)++textBytes y.name++putTy y.ty) [0] rfl (HG6.out.own.below HK6.out) (some ⟨w6.heap.size,0,none⟩) 1 rfl HR6.out ?j2 ?j3 (Below.refl _ _) ?_))
      case j2=>have h1:=HLP.out;have h2:=HLL.out;have h3:=HPL.out;have h4:=HLE.out;rw [List.length_append,List.length_append];simp only [List.length_cons,List.length_nil];omega
      case j3=>have h1:=HK.out.size;have h2:=HSZ.out;have h3:=HG6.out.touch.size;have h4:=HK6.out.size;omega
      intro v7 w7 hown7 _ hg7 ha7
      have hE:leb N++putCols (l.take m)++textBytes y.name++putTy y.ty++[0]=leb N++putCols (l.take (m+1)):=by
       rw [HTK.out];unfold putCol;rw [HH.out];simp
      obtain ⟨A7,M7,c7,rfl,hown7'⟩:=hown7.named ((by first | rfl | simp only [List.append_assoc,List.cons_append,List.nil_append]:_=leb N++putCols (l.take m)++textBytes y.name++putTy y.ty++[0]).trans hE)
      have hG7:=HG6.out.trans (Grows.first HK6.out (Grows.of hown7' hg7 ha7))
      have hb7:=hG7.touch.obj HB3.out (fun e=>own_obj_ne HOB.out HB3.out (by decide) e)
      have hbz:=(hG7.touch.obj ((HK3.out.below.block _ (obj_lt HBS.out)).trans HBS.out) (fun e=>own_obj_ne HOWN.out HBS.out (by decide) e))
      clear d0 d1 d2 d3 d4 d5 d6 d7 d8 u6
      obtain ⟨⟨d0,d1,d2,d3,d4,d5,d6,d7,d8⟩,_⟩:=cells9 hb7
      rw [HH.out] at d3
      have u7:=obj_lt hb7
      have HG7:=Hi hG7
      have HBZ:=Hi hbz
      clear hown7 hown7' hg7 ha7 hG7 hE hbz HG6 hb7
      go_wp2
      exact ⟨⟨m+1,A7,c7,M7,by omega,by go_num,rfl,HG7.out.own,HBZ.out,(HK.out.trans HK3.out).grow HG7.out HOWN.out.ge⟩,by simp [intOf];omega⟩
  · have e8:l.take m=l:=List.take_of_length_le (by rw [HN.out];omega)
    rw [e8] at hown
    have HO:=Hi hown
    have HK:=Hi hk
    clear hown hk e8 hbs
    go_wp2
    go_ret
    exact ⟨_,rfl,by rw [HPP.out];exact HO.out,HK.out⟩
theorem col_fine {ns:List ByteArray} {c:Col} (h:colCheck ns c=0) (hw:c.dflt.wf):c.fine:=
 ⟨(colCheck_ok h).2.2.1,hw,fun hh=>((colCheck_ok h).2.2.2.2 hh).1⟩
set_option maxRecDepth 20000 in
set_option maxHeartbeats 4000000 in
theorem refCheck_calls (A:Option Addr) (c:Nat) (l:List Col) (w:World) (hcap:l.length≤c) (hs:SchS w (fun b=>b<w.heap.size) A l) (hw:∀ x∈l,x.dflt.wf) (htb:Tabs w) :
 Calls Tryz.prog 69 #[.agg #[.slice A l.length c]] w fun e w'=>e=.returned (.int .i64 (schCheck l))∧Keeps w w':=by
 obtain ⟨R,hR⟩:∃ R,R=schCheck l:=⟨_,rfl⟩
 rw [← hR]
 unfold schCheck at hR
 have hil:=hs.len
 by_cases h0:l.length=0
 · rw [if_pos h0] at hR
   subst hR
   rw [h0]
   clear hs hw htb h0 hil hcap
   go_enter Tryz.func69,Tryz.ntmps69
   go_wp2
   go_ret
   exact ⟨rfl,(Keeps.refl w).alloc _⟩
 by_cases h16:16<l.length
 · rw [if_neg h0,if_pos h16] at hR
   subst hR
   have q0:((l.length:Int)==0)=false:=by rw [beq_eq_false_iff_ne];omega
   clear hs hw htb h0 hcap
   generalize l.length=N at *
   go_enter Tryz.func69,Tryz.ntmps69
   go_wp2
   go_ret
   exact ⟨rfl,(Keeps.refl w).alloc _⟩
 rw [if_neg h0,if_neg h16] at hR
 have hl16:l.length≤16:=by omega
 have hl0:1≤l.length:=by omega
 have q0:((l.length:Int)==0)=false:=by rw [beq_eq_false_iff_ne];omega
 obtain ⟨W0,hW0⟩:∃ W0,W0=w.alloc (.cells #[.slice A l.length c] 30):=⟨_,rfl⟩
 have hk0:Keeps w W0:=by rw [hW0];exact (Keeps.refl w).alloc _
 have hb0:W0.heap[w.heap.size]? = some (.cells #[.slice A l.length c] 30):=by rw [hW0];exact obj_new w _
 have HR:=Hi hR
 have HS:=Hi hs
 have HW:=Hi hw
 have HTB:=Hi htb
 have HK0:=Hi hk0
 have HB0:=Hi hb0
 clear hR hs hw htb h0 h16 hil hk0 hb0
 generalize hLn:l.length=N at hl16 hl0 q0 hcap hW0 HB0 ⊢
 have HL:=Hi hLn
 clear hLn
 have HW0:=Hi hW0
 clear hW0
 go_enter Tryz.func69,Tryz.ntmps69
 go_wp2_with fail
 go_loopw [3] (fun j wr=>∃ m:Nat,m≤N∧j=.int .i64 (m:Int)∧colsCheck [] l=colsCheck ((l.take m).map Col.name) (l.drop m)∧Keeps W0 wr) (fun j _=>N-(intOf j).toNat)
 case atStart=>exact ⟨0,Nat.zero_le _,rfl,rfl,by rw [HW0.out];exact Keeps.refl _⟩
 case round=>
  obtain ⟨m,hm,rfl,hres,hkp⟩:=hrel
  have hkw:Keeps w wr:=HK0.out.trans hkp
  have hbs:=(hkp.below.block _ (obj_lt HB0.out)).trans HB0.out
  obtain ⟨t0,_⟩:=cells1 hbs
  have u0:=obj_lt hbs
  by_cases hlt:m<N
  · have hlt1:m<l.length:=by rw [HL.out];exact hlt
    have hss:=HS.out.later hkw.below
    have hssd:=(HS.out.later (hkw.trans (Keeps.drew wr)).below).mono (S':=fun b=>b<wr.drew.heap.size) fun b _ hb=>by have:=(hkw.trans (Keeps.drew wr)).size;omega
    have htake:=hssd.take m
    obtain ⟨ad,x0,x1,x2,x3,x4,x5,x6,x7,x8,rfl,_,hcol,c0,c1,c2,c3,c4,c5,c6,c7,c8⟩:=hss.get m hlt1
    have hdr:=colsCheck_drop l m hlt1
    rw [hdr] at hres
    have hcold:ColC wr.drew (fun b=>b<wr.drew.heap.size) x0 x1 x2 x3 x4 x5 x6 x7 x8 (l[m]'hlt1):=(hcol.later (Keeps.drew wr).below).mono fun b _ hb=>by have h1:=hkw.size;have h2:wr.drew.heap.size=wr.heap.size:=rfl;omega
    have hlen:(l.take m).length=m:=by rw [List.length_take];omega
    have hc:=refColumn_calls (some ad) c (l.take m) x0 x1 x2 x3 x4 x5 x6 x7 x8 (l[m]'hlt1) wr.drew htake hcold (HTB.out.below (hkw.trans (Keeps.drew wr)).below)
    rw [hlen] at hc
    obtain ⟨⟨A2,k2,e2⟩,A8,k8,e8⟩:=hcol.form
    have hnm:=hcol.nm;have htkd:=hcol.tk;have hhs:=hcol.hs;have hdk:=hcol.dk;have hdi:=hcol.di;have hdf:=hcol.df;have hdt:=hcol.dt
    subst hnm htkd e2 hhs hdk hdi hdf hdt e8
    have HRES:=Hi hres
    have HKP:=Hi hkp
    have HKW:=Hi hkw
    clear hres hkp hkw hbs hss hssd htake hdr hcol hcold hlen
    generalize colCheck ((l.take m).map Col.name) (l[m]'hlt1)=E at hc HRES
    generalize (l[m]'hlt1).name=y0 at c0 hc
    generalize (l[m]'hlt1).ty.kind=y1 at c1 hc
    generalize (l[m]'hlt1).ty.of.length=y2 at c2 hc
    generalize (l[m]'hlt1).has=y3 at c3 hc
    generalize (l[m]'hlt1).dflt.kind=y4 at c4 hc
    generalize (l[m]'hlt1).dflt.int=y5 at c5 hc
    generalize (l[m]'hlt1).dflt.fl=y6 at c6 hc
    generalize (l[m]'hlt1).dflt.text=y7 at c7 hc
    generalize (l[m]'hlt1).dflt.items.length=y8 at c8 hc
    have HC:=Hi hc
    clear hc hlt1
    have hmc:m≤c:=by omega
    by_cases he:E=0
    · subst he
      have HRE:Hid (colsCheck [] l=colsCheck ((l.take (m+1)).map Col.name) (l.drop (m+1))):=Hi (by rw [HRES.out,if_pos rfl])
      clear HRES
      go_wp2_with fail
      go_region_law (go_simp;go_at_call 105;refine HC.out.mono ?_;rintro e w2 ⟨rfl,hk2⟩)
      all_goals
       have HK2:=Hi (HKP.out.trans ((Keeps.drew wr).trans hk2))
       clear hk2
       go_wp2
       exact ⟨⟨m+1,by omega,by go_num,HRE.out,HK2.out⟩,by simp [intOf];omega⟩
    · have qe:(E != 0)=true:=by simpa using he
      have HRE:Hid (R=E):=Hi (by
       have h2:colsCheck [] l=E:=by rw [HRES.out,if_neg he]
       rw [HR.out,h2,if_neg he])
      clear HRES he
      go_wp2_with fail
      go_region_law (go_simp;go_at_call 105;refine HC.out.mono ?_;rintro e w2 ⟨rfl,hk2⟩)
      all_goals
       have HK2:=Hi (HKW.out.trans ((Keeps.drew wr).trans hk2))
       clear hk2
       go_wp2
       go_ret
       exact ⟨by rw [HRE.out];rfl,HK2.out⟩
  · have hcc:colsCheck [] l=0:=by
     rw [hres,List.drop_eq_nil_of_le (by rw [HL.out];omega),colsCheck]
    have hR:=HR.out
    rw [if_pos hcc] at hR
    have hpc:=refBytesOf_calls A c l wr ((HS.out.later hkw.below).mono fun b _ hb=>by have:=hkw.size;omega) (fun j hj=>by
     have hmem:=List.getElem_mem hj
     obtain ⟨ns,hns⟩:=colsCheck_ok l [] hcc _ hmem
     exact col_fine hns (HW.out _ hmem)) (putS_bound (by rw [HL.out];exact hl16) hcc HW.out)
    rw [HL.out] at hpc
    generalize hP:putS l=P at hpc hR
    have HPC:=Hi hpc
    have HRR:=Hi hR
    have HKW:=Hi hkw
    clear hpc hR hkw hkp hbs hres hcc hP
    go_wp2_with fail
    refine HPC.out.mono ?_
    rintro e w2 ⟨v2,rfl,hown,hk2⟩
    obtain ⟨A',c',rfl,hlc,_⟩:=hown.form
    clear hown
    generalize P.length=L at HRR hlc ⊢
    by_cases hL:1024<L
    · have HE:Hid (R=2):=Hi (by rw [HRR.out,if_pos hL])
      clear HRR
      go_wp2
      go_ret
      exact ⟨by rw [HE.out];rfl,HKW.out.trans hk2⟩
    · have HE:Hid (R=0):=Hi (by rw [HRR.out,if_neg hL])
      have hL2:L≤1024:=by omega
      clear HRR hL
      go_wp2
      go_ret
      exact ⟨by rw [HE.out];rfl,HKW.out.trans hk2⟩
set_option maxRecDepth 20000 in
set_option maxHeartbeats 1000000 in
theorem refSchEncode_calls (A:Option Addr) (c:Nat) (l:List Col) (w:World) (hcap:l.length≤c) (hs:SchS w (fun b=>b<w.heap.size) A l) (hw:∀ x∈l,x.dflt.wf) (htb:Tabs w) :
 Calls Tryz.prog 123 #[.agg #[.slice A l.length c]] w (EncPost w l):=by
 obtain ⟨W0,hW0⟩:∃ W0,W0=w.alloc (.cells #[.slice A l.length c] 30):=⟨_,rfl⟩
 have hk0:Keeps w W0:=by rw [hW0];exact (Keeps.refl w).alloc _
 have hb0:W0.heap[w.heap.size]? = some (.cells #[.slice A l.length c] 30):=by rw [hW0];exact obj_new w _
 have hs0:=(hs.later hk0.below).mono (S':=fun b=>b<W0.heap.size) fun b hb _=>hb
 have hcc:=refCheck_calls A c l W0 hcap hs0 hw (htb.below hk0.below)
 have HK0:=Hi hk0
 have HB0:=Hi hb0
 have HS0:=Hi hs0
 have HW:=Hi hw
 clear hk0 hb0 hs0 hs htb hcap
 by_cases hz:schCheck l=0
 · have hok:=hz
   unfold schCheck at hok
   have h16:l.length≤16:=by
    split at hok
    · omega
    split at hok
    · omega
    · omega
   have hcl:colsCheck [] l=0:=by
    split at hok
    · omega
    split at hok
    · omega
    split at hok
    · assumption
    · contradiction
   have hputs:∀ j (h:j<l.length),(l[j]'h).fine:=fun j hj=>by
    have hmem:=List.getElem_mem hj
    obtain ⟨ns,hns⟩:=colsCheck_ok l [] hcl _ hmem
    exact col_fine hns (hw _ hmem)
   have hbd:=putS_bound h16 hcl hw
   rw [hz] at hcc
   have HE:Hid (∀ e w',(∃ A c,e=.returned (.tuple #[.slice A (putS l).length c,.int .i64 0])∧OwnB 5 w' w.heap.size (.slice A (putS l).length c) (putS l)∧Keeps w w')→EncPost w l e w'):=Hi fun e w' h=>by unfold EncPost;rw [if_pos hz];exact h
   have HCC:=Hi hcc
   have HPT:=Hi hputs
   have HBD:=Hi hbd
   clear hcc hputs hbd hok hcl hz hw
   generalize hLn:l.length=N at h16 hW0 HB0 HCC ⊢
   have HL:=Hi hLn
   clear hLn
   go_enter Tryz.func123,Tryz.ntmps123
   go_wp2_with fail
   rw [← hW0]
   clear hW0
   refine HCC.out.mono ?_
   rintro e w1 ⟨rfl,hk1⟩
   have hb1:=(hk1.below.block _ (obj_lt HB0.out)).trans HB0.out
   obtain ⟨d0,_⟩:=cells1 hb1
   have u1:=obj_lt hb1
   have hpc:=refBytesOf_calls A c l w1 ((HS0.out.later hk1.below).mono fun b hb _=>hb) HPT.out HBD.out
   rw [HL.out] at hpc
   have HPC:=Hi hpc
   have HK1:=Hi (HK0.out.trans hk1)
   clear hpc hk1 hb1 HCC
   go_wp2_with fail
   refine HPC.out.mono ?_
   rintro e w2 ⟨v2,rfl,hown,hk2⟩
   obtain ⟨A',c',rfl,hlc,_⟩:=hown.form
   have hown2:=hown.weaken HK1.out.size
   have HO:=Hi hown2
   have HK2:=Hi (HK1.out.trans hk2)
   clear hown hk2 hown2
   go_wp2
   go_ret2
   exact HE.out _ _ ⟨A',c',rfl,HO.out,HK2.out⟩
 · have HE:Hid (∀ e w',(e=.returned (.tuple #[.slice none 0 0,.int .i64 (schCheck l)])∧Keeps w w')→EncPost w l e w'):=Hi fun e w' h=>by unfold EncPost;rw [if_neg hz];exact h
   have qe:(schCheck l != 0)=true:=by simpa using hz
   generalize schCheck l=E at hcc qe HE
   have HCC:=Hi hcc
   clear hcc hz hw HB0 HS0 HW
   generalize l.length=N at hW0 HCC ⊢
   go_enter Tryz.func123,Tryz.ntmps123
   go_wp2_with fail
   rw [← hW0]
   clear hW0
   refine HCC.out.mono ?_
   rintro e w1 ⟨rfl,hk1⟩
   go_wp2
   go_ret2
   exact HE.out _ _ ⟨rfl,HK0.out.trans hk1⟩
end Go.Proofs.YtihodcnnappkbaaGreatDoor
