/-
  The walk of the reference's Same of values. Condition: the values stand for trees. The walk of the reference's SameType. Condition: the values stand for types. The walk of the reference's Same of schemas. Condition: both schemas read. Each frame is the same as itself: plain. (The text FrSames holds these laws too: import one of the two.)
-/
import Derived.Test.YtihodcnnappkbaaGreatDoorG1
import Derived.Test.YtihodcnnappkbaaGreatDoorG2
import Derived.Deep.RegionLaw
import Derived.Test.YtihodcnnappkbaaGreatDoorG8
import Derived.Test.YtihodcnnappkbaaGreatDoorG10
set_option linter.unusedVariables false
set_option linter.unusedSimpArgs false
set_option maxHeartbeats 2000000
set_option maxRecDepth 20000
namespace Go.Proofs.YtihodcnnappkbaaGreatDoor
section
open Go.RowKit Go.BigFrame
attribute [local go_sem] run_store_float
theorem refSameItems_calls (n:Nat) (ih:SameV 79 n) (a b:Va) (k0 k0' i0 i0':Int) (f0 f0':Nat) (t0 t0':ByteArray) (A B:Option Addr) (na nb c d:Nat) (w:World) (hn:SizeOf.sizeOf a<n+1)
 (ha:VaAt w (.agg #[.int .i64 k0,.int .i64 i0,.float .f64 f0,.string t0,.slice A na c]) a) (hb:VaAt w (.agg #[.int .i64 k0',.int .i64 i0',.float .f64 f0',.string t0',.slice B nb d]) b) (aF:a.items.length=na) (aG:b.items.length=nb) :
 Calls Tryz.prog 114 #[.slice A na c,.slice B nb d] w fun e w'=>e=.returned (.bool (Va.sames a.items b.items))∧Keeps w w':=by
 have IH:=Hi ih
 have aZ:=ha.bound
 have ba:=hb.bound
 rw [aF] at aZ
 rw [aG] at ba
 have HA:=Hi ha
 have HB:=Hi hb
 have HN:=Hi hn
 have ay:=Hi aF
 have aA:=Hi aG
 clear ih ha hb hn aF aG
 by_cases hl:na=nb
 · subst hl
   have q2:((na:Int) != (na:Int))=false:=by simp
   go_enter Tryz.func114,Tryz.ntmps114
   go_wp2_with fail
   go_loopw [5] (fun i wr=>∃ k:Nat,k≤na∧i=.int .i64 (k:Int)∧Va.sames a.items b.items=Va.sames (a.items.drop k) (b.items.drop k)∧Keeps w wr) (fun i _=>na-(intOf i).toNat)
   case atStart=>exact ⟨0,Nat.zero_le _,rfl,rfl,Keeps.refl _⟩
   case round=>
    obtain ⟨k,hk,rfl,aw,ag⟩:=hrel
    by_cases au:k<na
    · have ae:k<a.items.length:=by rw [ay.out];exact au
      have af:k<b.items.length:=by rw [aA.out];exact au
      have ak:=HA.out.later ag.below
      have am:=HB.out.later ag.below
      obtain ⟨a1,k1,i1,f1,t1,s1,rfl,x1,x2,x3,x4,x5,aq⟩:=ak.elem k ae
      obtain ⟨b1,k2,i2,f2,t2,s2,rfl,y1,y2,y3,y4,y5,ar⟩:=am.elem k af
      obtain ⟨A1,c1,n1,rfl⟩:∃ A1 c1 n1,s1=Value.slice A1 n1 c1:=by
       obtain ⟨A1,c1,e1⟩:=aq.form
       simp only [Value.agg.injEq,Array.mk.injEq,List.cons.injEq] at e1
       exact ⟨_,_,_,e1.2.2.2.2.1⟩
      obtain ⟨B1,d1,n2,rfl⟩:∃ A1 c1 n1,s2=Value.slice A1 n1 c1:=by
       obtain ⟨A1,c1,e1⟩:=ar.form
       simp only [Value.agg.injEq,Array.mk.injEq,List.cons.injEq] at e1
       exact ⟨_,_,_,e1.2.2.2.2.1⟩
      rw [Nat.mul_comm 5 k] at x1 x2 x3 x4 x5 y1 y2 y3 y4 y5
      rw [← addr_add_add,addr_add_pos _ _ (by omega)] at x2 x3 x4 x5 y2 y3 y4 y5
      have az:=Va.sames_drop a.items b.items k ae af
      have aH:=Va.elem_lt a k ae
      obtain ⟨ta,ah⟩:∃ ta,ta=a.items[k]'ae:=⟨_,rfl⟩
      obtain ⟨tb,ai⟩:∃ tb,tb=b.items[k]'af:=⟨_,rfl⟩
      rw [← ah,← ai] at az
      rw [← ah] at aH aq
      rw [← ai] at ar
      have bi:=Hi aq
      have bl:=Hi ar
      have aR:=Hi ag
      have aM:=Hi aw
      have aP:=Hi az
      have bq:=Hi aH
      have hc:=(IH.out ta tb _ _ wr.drew (by have:=HN.out;have:=bq.out;omega) (bi.out.later (Keeps.drew wr).below) (bl.out.later (Keeps.drew wr).below)).mono fun e w' h=>(⟨h.1,(Keeps.drew wr).trans h.2⟩:_∧Keeps wr w')
      have aD:=Hi aR.out
      clear aq ar ak am ag aw az aH ah ai ae af bi bl IH aR HA HB
      go_wp2_with fail
      cases hr:Va.same ta tb with
      | false=>
        rw [hr] at hc
        have HC:=Hi hc
        have HR:=Hi hr
        clear hc hr
        go_region_law (go_simp;go_at_call 79;refine HC.out.mono ?_;rintro e w2 ⟨rfl,aa⟩)
        all_goals
         go_wp2
         go_ret
         refine ⟨ret_bool ?_,aD.out.trans aa⟩
         rw [aM.out,aP.out,HR.out]
         simp
      | true=>
        rw [hr] at hc
        have HC:=Hi hc
        have HR:=Hi hr
        clear hc hr
        go_region_law (go_simp;go_at_call 79;refine HC.out.mono ?_;rintro e w2 ⟨rfl,aa⟩)
        all_goals
         have aN:=Hi (aD.out.trans aa)
         clear aa
         go_wp2
         refine ⟨⟨k+1,by omega,by go_num, ?_,aN.out⟩,by simp [intOf];omega⟩
         rw [aM.out,aP.out,HR.out]
         simp
    · go_wp2_with fail
      go_ret
      refine ⟨ret_bool ?_,ag⟩
      have e:k=na:=by omega
      subst e
      rw [aw,List.drop_eq_nil_of_le (by rw [ay.out];exact Nat.le_refl _),List.drop_eq_nil_of_le (by rw [aA.out];exact Nat.le_refl _)]
      simp [Va.sames]
 · have q2:((na:Int) != (nb:Int))=true:=by rw [bne_iff_ne];omega
   go_enter Tryz.func114,Tryz.ntmps114
   go_wp2_with fail
   go_ret
   refine ⟨ret_bool ?_,Keeps.refl w⟩
   cases h:Va.sames a.items b.items with
   | false=>rfl
   | true=>exact absurd (Va.sames_length _ _ h) (by rw [ay.out,aA.out];exact hl)
theorem refSameValue_calls (n:Nat):SameV 79 n:=by
 induction n with
 | zero=>intro a b va vb w hn;exact absurd hn (by omega)
 | succ n ih=>
   intro a b va vb w hn ha hb
   obtain ⟨A,c,rfl⟩:=ha.form
   obtain ⟨B,d,rfl⟩:=hb.form
   have hs:Va.same a b=(decide (a.kind=b.kind)&&decide (a.int=b.int)&&decide (fbits a.fl=fbits b.fl)&&decide (a.text=b.text)&&Va.sames a.items b.items):=by cases a;cases b;rfl
   have aa:Keeps w ((w.alloc (.cells #[.int .i64 a.kind,.int .i64 a.int,.float .f64 a.fl,.string a.text,.slice A a.items.length c] 101)).alloc (.cells #[.int .i64 b.kind,.int .i64 b.int,.float .f64 b.fl,.string b.text,.slice B b.items.length d] 101)):=((Keeps.refl w).alloc _).alloc _
   have hc:=refSameItems_calls n ih a b _ _ _ _ _ _ _ _ A B _ _ c d _ hn (ha.later aa.below) (hb.later aa.below) rfl rfl
   have hf:=refRealSame_calls a.fl b.fl
   generalize a.kind=k at hs aa hc ⊢
   generalize b.kind=k' at hs aa hc ⊢
   generalize a.int=i at hs aa hc ⊢
   generalize b.int=i' at hs aa hc ⊢
   generalize decide (fbits a.fl=fbits b.fl)=r at hs hf
   generalize a.fl=f at hf aa hc ⊢
   generalize b.fl=f' at hf aa hc ⊢
   generalize a.text=t at hs aa hc ⊢
   generalize b.text=t' at hs aa hc ⊢
   generalize a.items.length=la at aa hc ⊢
   generalize b.items.length=lb at aa hc ⊢
   have HS:=Hi hs
   have HK:=Hi aa
   have HC:=Hi hc
   clear hs aa hc ih ha hb hn
   have e1:(k==k')=decide (k=k'):=rfl
   have e2:(i==i')=decide (i=i'):=rfl
   by_cases q1:k=k' <;> by_cases q2:i=i' <;> cases r <;> by_cases q3:t=t'
   all_goals try subst q1
   all_goals try subst q2
   all_goals try subst q3
   all_goals try have q4:=texts_ne q3
   all_goals
    have HF:=Hi hf
    clear hf
    go_enter Tryz.func79,Tryz.ntmps79
    go_wp2_with (first
     | (go_at_call 113;refine (HF.out _).mono ?_;rintro e w2 ⟨rfl,rfl⟩)
     | (go_at_call 114;refine HC.out.mono ?_;rintro e w2 ⟨rfl,aC⟩))
   all_goals go_ret
   all_goals
    refine ⟨ret_bool ?_, ?_⟩
    · rw [HS.out];simp_all
    · first | exact HK.out | exact HK.out.trans aC
end
section
open Go.RowKit Go.BigFrame
theorem refSameType_calls (n:Nat):∀ (a b:Ty) (va vb:Value) (w:World),SizeOf.sizeOf a<n→TyAt w va a→TyAt w vb b →
 Calls Tryz.prog 78 #[va,vb] w fun e w'=>e=.returned (.bool (Ty.same a b))∧Keeps w w':=by
 induction n with
 | zero=>intro a b va vb w hn;exact absurd hn (by omega)
 | succ n ih=>
   intro a b va vb w hn ha hb
   have IH:=Hi ih
   clear ih
   obtain ⟨A,c,rfl⟩:=ha.form
   obtain ⟨B,d,rfl⟩:=hb.form
   have aZ:=ha.bound
   have ba:=hb.bound
   have hs:Ty.same a b=(decide (a.kind=b.kind)&&Ty.sames a.of b.of):=by rw [Ty.eta a,Ty.eta b];rfl
   have HA:=Hi ha
   have HB:=Hi hb
   have HS:=Hi hs
   have HN:=Hi hn
   clear ha hb hs hn
   generalize bg:a.kind=ka at HA HS ⊢
   generalize bh:b.kind=kb at HB HS ⊢
   generalize aF:a.of.length=na at HA aZ ⊢
   generalize aG:b.of.length=nb at HB ba ⊢
   have bA:=Hi bg
   have bv:=Hi bh
   have ay:=Hi aF
   have aA:=Hi aG
   clear bg bh aF aG
   by_cases hk:ka=kb
   · subst hk
     by_cases hl:na=nb
     · subst hl
       have q1:(ka != ka)=false:=by simp
       have q2:((na:Int) != (na:Int))=false:=by simp
       go_enter Tryz.func78,Tryz.ntmps78
       go_wp2_with fail
       go_loopw [5] (fun i wr=>∃ k:Nat,k≤na∧i=.int .i64 (k:Int)∧Ty.sames a.of b.of=Ty.sames (a.of.drop k) (b.of.drop k)∧Keeps ((w.alloc (.cells #[.int .i64 ka,.slice A na c] 97)).alloc (.cells #[.int .i64 ka,.slice B na d] 97)) wr) (fun i _=>na-(intOf i).toNat)
       case atStart=>exact ⟨0,Nat.zero_le _,rfl,rfl,Keeps.refl _⟩
       case round=>
        obtain ⟨k,hk,rfl,aw,aE⟩:=hrel
        have ag:Keeps w wr:=(((Keeps.refl w).alloc _).alloc _).trans aE
        by_cases au:k<na
        · have ae:k<a.of.length:=by rw [ay.out];exact au
          have af:k<b.of.length:=by rw [aA.out];exact au
          have ak:=HA.out.later ag.below
          have am:=HB.out.later ag.below
          obtain ⟨a1,k1,s1,rfl,x1,x2,aq⟩:=ak.elem k ae
          obtain ⟨b1,k2,s2,rfl,y1,y2,ar⟩:=am.elem k af
          obtain ⟨A1,c1,n1,rfl⟩:∃ A1 c1 n1,s1=Value.slice A1 n1 c1:=by
           obtain ⟨A1,c1,e1⟩:=aq.form
           injection e1 with e1
           injection e1 with e1
           injection e1 with e1 e2
           injection e2 with e2 _
           exact ⟨_,_,_,e2⟩
          obtain ⟨B1,d1,n2,rfl⟩:∃ A1 c1 n1,s2=Value.slice A1 n1 c1:=by
           obtain ⟨A1,c1,e1⟩:=ar.form
           injection e1 with e1
           injection e1 with e1
           injection e1 with e1 e2
           injection e2 with e2 _
           exact ⟨_,_,_,e2⟩
          rw [Nat.mul_comm 2 k] at x1 x2 y1 y2
          have x2':wr.cell? ⟨(a1.add (k*2)).block,(a1.add (k*2)).off+1,none⟩=some (Value.slice A1 n1 c1):=by rw [← addr_add_pos _ 1 (by omega),addr_add_add];exact x2
          have y2':wr.cell? ⟨(b1.add (k*2)).block,(b1.add (k*2)).off+1,none⟩=some (Value.slice B1 n2 d1):=by rw [← addr_add_pos _ 1 (by omega),addr_add_add];exact y2
          have z0:wr.cell? ⟨w.heap.size,1,none⟩=some (.slice (some a1) na c):=by
           rw [aE.below.cell (by simp;omega)]
           have:=obj_cell (obj_old (obj_new w (.cells #[.int .i64 ka,.slice (some a1) na c] 97)) (.cells #[.int .i64 ka,.slice (some b1) na d] 97)) 1
           rw [this];rfl
          have z1:wr.cell? ⟨w.heap.size+1,1,none⟩=some (.slice (some b1) na d):=by
           rw [aE.below.cell (by simp)]
           have:=obj_cell (obj_new_at (w.alloc (.cells #[.int .i64 ka,.slice (some a1) na c] 97)) (.cells #[.int .i64 ka,.slice (some b1) na d] 97) (w.heap.size+1) (by simp)) 1
           rw [this];rfl
          have az:=Ty.sames_drop a.of b.of k ae af
          have aH:=Ty.elem_lt a k ae
          obtain ⟨ta,ah⟩:∃ ta,ta=a.of[k]'ae:=⟨_,rfl⟩
          obtain ⟨tb,ai⟩:∃ tb,tb=b.of[k]'af:=⟨_,rfl⟩
          rw [← ah,← ai] at az
          rw [← ah] at aH aq
          rw [← ai] at ar
          have hc:Calls Tryz.prog 78 #[.agg #[.int .i64 k1,.slice A1 n1 c1],.agg #[.int .i64 k2,.slice B1 n2 d1]] wr.drew fun e w'=>e=.returned (.bool (Ty.same ta tb))∧Keeps wr w':=
           (IH.out ta tb _ _ wr.drew (by have:=HN.out;omega) (aq.later (Keeps.drew wr).below) (ar.later (Keeps.drew wr).below)).mono fun e w' h=>⟨h.1,(Keeps.drew wr).trans h.2⟩
          have aP:=Hi az
          have aD:=Hi aE
          have aW:=Hi ag
          have aM:=Hi aw
          clear aq ar ak am x2 y2 aE ag aw az aH ah ai ae af IH HA HB
          go_wp2_with fail
          cases hr:Ty.same ta tb with
          | false=>
            rw [hr] at hc
            have HC:=Hi hc
            have HR:=Hi hr
            clear hc hr
            go_region_law (go_simp;go_at_call 78;refine HC.out.mono ?_;rintro e w2 ⟨rfl,aa⟩)
            all_goals
             go_wp2
             go_ret
             refine ⟨ret_bool ?_,aW.out.trans aa⟩
             rw [HS.out,aM.out,aP.out,HR.out]
             simp
          | true=>
            rw [hr] at hc
            have HC:=Hi hc
            have HR:=Hi hr
            clear hc hr
            go_region_law (go_simp;go_at_call 78;refine HC.out.mono ?_;rintro e w2 ⟨rfl,aa⟩)
            all_goals
             have aN:=Hi (aD.out.trans aa)
             clear aa
             go_wp2
             refine ⟨⟨k+1,by omega,by go_num, ?_,aN.out⟩,by simp [intOf];omega⟩
             rw [aM.out,aP.out,HR.out]
             simp
        · have z0:wr.cell? ⟨w.heap.size,1,none⟩=some (.slice A na c):=by
           rw [aE.below.cell (by simp;omega)]
           have:=obj_cell (obj_old (obj_new w (.cells #[.int .i64 ka,.slice A na c] 97)) (.cells #[.int .i64 ka,.slice B na d] 97)) 1
           rw [this];rfl
          go_wp2_with fail
          go_ret
          refine ⟨ret_bool ?_,ag⟩
          have e:k=na:=by omega
          subst e
          rw [HS.out,aw,List.drop_eq_nil_of_le (by rw [ay.out];exact Nat.le_refl _),List.drop_eq_nil_of_le (by rw [aA.out];exact Nat.le_refl _)]
          simp [Ty.sames]
     · have q1:(ka != ka)=false:=by simp
       have q2:((na:Int) != (nb:Int))=true:=by rw [bne_iff_ne];omega
       go_enter Tryz.func78,Tryz.ntmps78
       go_wp2_with fail
       go_ret
       refine ⟨ret_bool ?_,((Keeps.refl w).alloc _).alloc _⟩
       rw [HS.out]
       cases h:Ty.sames a.of b.of with
       | false=>simp
       | true=>exact absurd (Ty.sames_length _ _ h) (by rw [ay.out,aA.out];exact hl)
   · have q1:(ka != kb)=true:=by rw [bne_iff_ne];exact hk
     go_enter Tryz.func78,Tryz.ntmps78
     go_wp2_with fail
     go_ret
     refine ⟨ret_bool ?_,((Keeps.refl w).alloc _).alloc _⟩
     rw [HS.out,decide_eq_false hk]
     rfl
end
section
open Go.RowKit Go.BigFrame
attribute [local go_sem] run_store_float
theorem refSchSame_calls (A B:Option Addr) (c d:Nat) (S T:Nat→Prop) (l m:List Col) (w:World) (hs:SchS w S A l) (ht:SchS w T B m) :
 Calls Tryz.prog 40 #[.agg #[.slice A l.length c],.agg #[.slice B m.length d]] w fun e w'=>e=.returned (.bool (sameCols l m))∧Keeps w w':=by
 have bt:=hs.len
 have bp:=ht.len
 by_cases al:l.length=m.length
 · obtain ⟨R,hR⟩:∃ R,R=sameCols l m:=⟨_,rfl⟩
   rw [← hR]
   have h0:R=sameCols (l.drop 0) (m.drop 0):=hR
   rw [← al]
   have HS:=Hi hs
   have HT:=Hi ht
   have H0:=Hi h0
   clear hs ht hR h0 bp
   generalize hN:l.length=N at bt al ⊢
   have HN:=Hi hN
   have HM:=Hi al
   clear hN al
   obtain ⟨W,hW⟩:∃ W,W=(w.alloc (.cells #[.slice A N c] 30)).alloc (.cells #[.slice B N d] 30):=⟨_,rfl⟩
   have be:Keeps w W:=by rw [hW];exact ((Keeps.refl w).alloc _).alloc _
   have bc:W.heap[w.heap.size+1]? = some (.cells #[.slice B N d] 30):=by rw [hW];exact obj_new_at _ _ _ (by simp)
   have br:W.heap[w.heap.size]? = some (.cells #[.slice A N c] 30):=by rw [hW];exact obj_old (obj_new w _) _
   have bk:=Hi br
   have HB:=Hi bc
   have HK:=Hi be
   have aY:=Keeps.refl W
   rw [hW] at aY
   clear bc be
   go_enter Tryz.func40,Tryz.ntmps40
   go_wp2_with fail
   go_loopw [5] (fun i wr=>∃ j:Nat,j≤N∧i=.int .i64 (j:Int)∧R=sameCols (l.drop j) (m.drop j)∧Keeps W wr) (fun i _=>N-(intOf i).toNat)
   case atStart=>exact ⟨0,by omega,rfl,H0.out,by rw [hW];exact aY⟩
   case round=>
    obtain ⟨j,hj,rfl,a9,ag⟩:=hrel
    clear hW aY
    have aS:=HK.out.trans ag
    have hb:=(ag.below.block _ (obj_lt HB.out)).trans HB.out
    have bw:=(cells1 hb).1
    have b9:=(ag.below.block _ (obj_lt bk.out)).trans bk.out
    have bs:=(cells1 b9).1
    have bu:=obj_lt hb
    by_cases au:j<N
    · have aX:j<l.length:=by rw [HN.out];exact au
      have aV:j<m.length:=by rw [← HM.out];exact au
      obtain ⟨ad,x0,x1,x2,x3,x4,x5,x6,x7,x8,rfl,_,ac,c0,c1,c2,c3,c4,c5,c6,c7,c8⟩:=(HS.out.later aS.below).get j aX
      obtain ⟨bd,y0,y1,y2,y3,y4,y5,y6,y7,y8,rfl,_,ab,d0,d1,d2,d3,d4,d5,d6,d7,d8⟩:=(HT.out.later aS.below).get j aV
      rw [List.drop_eq_getElem_cons aX,List.drop_eq_getElem_cons aV,sameCols,Col.same] at a9
      generalize l[j]'aX=x at ac a9
      generalize m[j]'aV=y at ab a9
      obtain ⟨⟨A2,k2,e2⟩,A8,k8,e8⟩:=ac.form
      obtain ⟨⟨B2,q2,g2⟩,B8,q8,g8⟩:=ab.form
      have aT:=ac.ty
      have aB:=ac.dv
      have ap:=ab.ty
      have aj:=ab.dv
      rw [ac.nm] at c0
      rw [ac.tk] at c1 aT
      rw [e2] at c2 aT
      rw [ac.hs] at c3
      rw [ac.dk] at c4 aB
      rw [ac.di] at c5 aB
      rw [ac.df] at c6 aB
      rw [ac.dt] at c7 aB
      rw [e8] at c8 aB
      rw [ab.nm] at d0
      rw [ab.tk] at d1 ap
      rw [g2] at d2 ap
      rw [ab.hs] at d3
      rw [ab.dk] at d4 aj
      rw [ab.di] at d5 aj
      rw [ab.df] at d6 aj
      rw [ab.dt] at d7 aj
      rw [g8] at d8 aj
      have bm:∀ w',Keeps wr w'→Calls Tryz.prog 78 _ w' fun e w''=>e=.returned (.bool (Ty.same x.ty y.ty))∧Keeps w' w'':=fun w' hk=>refSameType_calls _ _ _ _ _ w' (Nat.lt_succ_self _) (aT.later hk.below).at (ap.later hk.below).at
      have bf:∀ w',Keeps wr w'→Calls Tryz.prog 79 _ w' fun e w''=>e=.returned (.bool (Va.same x.dflt y.dflt))∧Keeps w' w'':=fun w' hk=>refSameValue_calls _ _ _ _ _ w' (Nat.lt_succ_self _) (aB.later hk.below).at (aj.later hk.below).at
      generalize Ty.same x.ty y.ty=p1 at *
      generalize Va.same x.dflt y.dflt=p2 at *
      generalize x.name=nx at *
      generalize y.name=ny at *
      generalize x.has=hx at *
      generalize y.has=hy at *
      generalize x.ty.of.length=z1 at *
      generalize y.ty.of.length=z2 at *
      generalize x.ty.kind=z3 at *
      generalize y.ty.kind=z4 at *
      generalize x.dflt.items.length=z5 at *
      generalize y.dflt.items.length=z6 at *
      generalize x.dflt.kind=z7 at *
      generalize y.dflt.kind=z8 at *
      generalize x.dflt.int=z9 at *
      generalize y.dflt.int=z10 at *
      generalize x.dflt.fl=z11 at *
      generalize y.dflt.fl=z12 at *
      generalize x.dflt.text=z13 at *
      generalize y.dflt.text=z14 at *
      have bz:(bd.add (j*9)).block<wr.heap.size:=World.block_lt_of_cell? wr _ d0
      obtain ⟨W2,aO⟩:∃ W2,W2=(wr.alloc (.cells #[.string nx,.int .i64 z3,.slice A2 z1 k2,.bool hx,.int .i64 z7,.int .i64 z9,.float .f64 z11,.string z13,.slice A8 z5 k8] 103)).alloc (.cells #[.string ny,.int .i64 z4,.slice B2 z2 q2,.bool hy,.int .i64 z8,.int .i64 z10,.float .f64 z12,.string z14,.slice B8 z6 q8] 103):=⟨_,rfl⟩
      have aa:Keeps wr W2:=by rw [aO];exact ((Keeps.refl wr).alloc _).alloc _
      have bx:W2.heap[wr.heap.size]? = some (.cells #[.string nx,.int .i64 z3,.slice A2 z1 k2,.bool hx,.int .i64 z7,.int .i64 z9,.float .f64 z11,.string z13,.slice A8 z5 k8] 103):=by rw [aO];exact obj_old (obj_new wr _) _
      have bY:W2.heap[wr.heap.size+1]? = some (.cells #[.string ny,.int .i64 z4,.slice B2 z2 q2,.bool hy,.int .i64 z8,.int .i64 z10,.float .f64 z12,.string z14,.slice B8 z6 q8] 103):=by rw [aO];exact obj_new_at _ _ _ (by simp)
      have bb:=Hi (bm W2 aa)
      have bo:=Hi bf
      have bj:=Hi bx
      have bn:=Hi bY
      have aD:=Hi aa
      have aR:=Hi ag
      have ao:=Hi a9
      clear bm bf bx bY aa ag a9 ac ab aT ap aB aj e2 e8 g2 g8 aS hb
      go_wp2_with fail
      rw [← aO]
      clear aO
      refine bb.out.mono ?_
      rintro e w3 ⟨rfl,aC⟩
      have aJ:=aD.out.trans aC
      have bx3:=(aC.below.block _ (obj_lt bj.out)).trans bj.out
      have bY3:=(aC.below.block _ (obj_lt bn.out)).trans bn.out
      have aK:=Hi (bo.out w3 aJ)
      have aN:=Hi (aR.out.trans aJ)
      obtain ⟨⟨a0,a1,a2,a3,a4,a5,a6,a7,a8⟩,_⟩:=cells9 bx3
      obtain ⟨⟨b0,b1,b2,b3,b4,b5,b6,b7,b8⟩,_⟩:=cells9 bY3
      have aL:=Hi bx3
      have aI:=Hi bY3
      clear aC bx3 bY3 bb bo
      go_wp2_with fail
      refine aK.out.mono ?_
      rintro e w4 ⟨rfl,aU⟩
      have aQ:=Hi (aN.out.trans aU)
      have bx4:=(aU.below.block _ (obj_lt aL.out)).trans aL.out
      have bY4:=(aU.below.block _ (obj_lt aI.out)).trans aI.out
      obtain ⟨⟨f0,f1,f2,f3,f4,f5,f6,f7,f8⟩,_⟩:=cells9 bx4
      obtain ⟨⟨g0,g1,g2,g3,g4,g5,g6,g7,g8⟩,_⟩:=cells9 bY4
      clear aU bx4 bY4 aK a0 a1 a2 a3 a4 a5 a6 a7 a8 b0 b1 b2 b3 b4 b5 b6 b7 b8
      by_cases an:nx=ny
      · subst an
        have qn:(nx.toList==nx.toList)=true:=by simp
        by_cases ax:hx=hy
        · subst ax
          cases p1 <;> cases p2
          all_goals
           have a9:=ao.out
           try simp only [Bool.true_and,Bool.and_true,Bool.false_and,Bool.and_false,decide_true] at a9
           have av:=Hi a9
           clear a9
           go_wp2
           first
            | (go_ret
               exact ⟨by rw [av.out];rfl,HK.out.trans aQ.out⟩)
            | exact ⟨⟨j+1,by omega,by go_num,av.out,aQ.out⟩,by simp [intOf];omega⟩
            | (go_roundw
               case rel=>exact ⟨j+1,by omega,by go_num,av.out,aQ.out⟩
               case measure=>simp [intOf];omega)
        · have a9:=ao.out
          simp only [ax,decide_false,decide_true,Bool.true_and,Bool.false_and] at a9
          have qh:(hx != hy)=true:=by simpa using ax
          have av:=Hi a9
          clear a9
          go_wp2
          go_ret
          exact ⟨by rw [av.out];rfl,HK.out.trans aQ.out⟩
      · have a9:=ao.out
        simp only [an,decide_false,Bool.false_and] at a9
        have qn:=texts_ne an
        have av:=Hi a9
        clear a9
        go_wp2
        go_ret
        exact ⟨by rw [av.out];rfl,HK.out.trans aQ.out⟩
    · have e1:l.drop j=[]:=List.drop_eq_nil_of_le (by rw [HN.out];omega)
      have e2:m.drop j=[]:=List.drop_eq_nil_of_le (by rw [← HM.out];omega)
      rw [e1,e2,sameCols] at a9
      have ao:=Hi a9
      clear a9 e1 e2 H0
      go_wp2
      go_ret
      exact ⟨by rw [ao.out];rfl,aS⟩
 · have e:sameCols l m=false:=by
    cases h:sameCols l m with
    | false=>rfl
    | true=>exact absurd (sameCols_length l m h) al
   rw [e]
   clear e hs ht
   have hq:¬((l.length:Nat):Int)=((m.length:Nat):Int):=by omega
   generalize l.length=N at *
   generalize m.length=M at *
   go_enter Tryz.func40,Tryz.ntmps40
   go_wp2
   go_ret
   exact ⟨rfl,((Keeps.refl w).alloc _).alloc _⟩
end
section
open Go.RowKit Go.BigFrame
mutual
theorem Va.same_self:∀ (a:Va),Va.same a a=true
 | .mk k i f t l=>by rw [Va.same,Va.sames_self l];simp
theorem Va.sames_self:∀ (a:List Va),Va.sames a a=true
 | []=>rfl
 | a :: l=>by rw [Va.sames,Va.same_self a,Va.sames_self l];rfl
end
mutual
theorem Ty.same_comm:∀ (a b:Ty),Ty.same a b=Ty.same b a
 | .mk k l,.mk k' l'=>by
   rw [Ty.same,Ty.same,Ty.sames_comm l l',show decide (k=k')=decide (k'=k) by rw [decide_eq_decide];exact eq_comm]
theorem Ty.sames_comm:∀ (a b:List Ty),Ty.sames a b=Ty.sames b a
 | [],[]=>rfl
 | [],_ :: _=>by simp [Ty.sames]
 | _ :: _,[]=>by simp [Ty.sames]
 | a :: l,b :: l'=>by rw [Ty.sames,Ty.sames,Ty.same_comm a b,Ty.sames_comm l l']
end
theorem dec_comm {α:Type} [DecidableEq α] (a b:α):decide (a=b)=decide (b=a):=by rw [decide_eq_decide];exact eq_comm
theorem Col.same_comm (a b:Col):Col.same a b=Col.same b a:=by
 unfold Col.same
 rw [Va.same_comm a.dflt,Ty.same_comm a.ty,dec_comm a.name,dec_comm a.has]
theorem sameCols_comm:∀ (l m:List Col),sameCols l m=sameCols m l
 | [],[]=>rfl
 | [],_ :: _=>by simp [sameCols]
 | _ :: _,[]=>by simp [sameCols]
 | a :: l,b :: m=>by rw [sameCols,sameCols,Col.same_comm a b,sameCols_comm l m]
end
end Go.Proofs.YtihodcnnappkbaaGreatDoor
