/-
  The walk of schema.SameType. Condition: the values stand for types. Values as trees in memory, and when two are the same: plain. No condition. The walk of value.same at the items of two values, by a contract of value.Same at smaller ones. Condition: the values stand for trees. The walk of value.Same. Condition: the values stand for trees. Reading a number in base 128 at a place: plain. No condition. The walk of leb.Get. Condition: the slice reads as a list of bytes. The reader of schema's bytes in memory; what it gives up with; its byte, number, bit. Condition: the block stands for the reader. The reader of schema's bytes: its byte, where there is none, its bit, its text. Condition: the block stands for the reader. The reader of schema's bytes: its text. Condition: the block stands for the reader. Names, and texts that are right UTF-8: plain. No condition. The walks of schema.Name and value.Utf. Condition of Utf: the tables of unicode/utf8 are as laid. The walk of value.Utf. Condition: the tables of unicode/utf8 are as laid; the text's length is Go's. Types and values as trees in memory, with the blocks that they lie in. No condition.
-/
import Derived.Test.YtihodcnnappkbaaGreatDoorG1
import Derived.Deep.RegionLaw
import Derived.IntWalk
import Derived.WalkLawsBesides
import Derived.StillTailTactics
import Derived.RegionDies
import Derived.Laws.RangeAny
import Derived.Lib.OthersKept
import Derived.Test.YtihodcnnappkbaaGreatDoorShelf
set_option linter.unusedVariables false
set_option linter.unusedSimpArgs false
set_option maxHeartbeats 1000000
set_option maxRecDepth 20000
namespace Go.Proofs.YtihodcnnappkbaaGreatDoor
section
open Go.RowKit Go.BigFrame
theorem sameType_calls (n:Nat):∀ (a b:Ty) (va vb:Value) (w:World),SizeOf.sizeOf a<n→TyAt w va a→TyAt w vb b →
 Calls Tryz.prog 116 #[va,vb] w fun e w'=>e=.returned (.bool (Ty.same a b))∧Keeps w w':=by
 induction n with
 | zero=>intro a b va vb w hn;exact absurd hn (by omega)
 | succ n ih=>
   intro a b va vb w hn ha hb
   have IH:=Hi ih
   clear ih
   obtain ⟨A,c,rfl⟩:=ha.form
   obtain ⟨B,d,rfl⟩:=hb.form
   have bg:=ha.bound
   have bc:=hb.bound
   have hs:Ty.same a b=(decide (a.kind=b.kind)&&Ty.sames a.of b.of):=by rw [Ty.eta a,Ty.eta b];rfl
   have HA:=Hi ha
   have HB:=Hi hb
   have HS:=Hi hs
   have HN:=Hi hn
   clear ha hb hs hn
   generalize bC:a.kind=ka at HA HS ⊢
   generalize bD:b.kind=kb at HB HS ⊢
   generalize aH:a.of.length=na at HA bg ⊢
   generalize av:b.of.length=nb at HB bc ⊢
   have bY:=Hi bC
   have bZ:=Hi bD
   have aD:=Hi aH
   have ax:=Hi av
   clear bC bD aH av
   by_cases hk:ka=kb
   · subst hk
     by_cases hl:na=nb
     · subst hl
       have q1:(ka != ka)=false:=by simp
       have q2:((na:Int) != (na:Int))=false:=by simp
       go_enter Tryz.func116,Tryz.ntmps116
       go_wp2_with fail
       go_loopw [24] (fun i wr=>∃ k:Nat,k≤na∧i=.int .i64 (k:Int)∧Ty.sames a.of b.of=Ty.sames (a.of.drop k) (b.of.drop k)∧Keeps ((w.alloc (.cells #[.int .i64 ka,.slice A na c] 97)).alloc (.cells #[.int .i64 ka,.slice B na d] 97)) wr) (fun i _=>na-(intOf i).toNat)
       case atStart=>exact ⟨0,Nat.zero_le _,rfl,rfl,Keeps.refl _⟩
       case round=>
        obtain ⟨k,hk,rfl,aC,b8⟩:=hrel
        have am:Keeps w wr:=(((Keeps.refl w).alloc _).alloc _).trans b8
        by_cases aa:k<na
        · have a9:k<a.of.length:=by rw [aD.out];exact aa
          have a7:k<b.of.length:=by rw [ax.out];exact aa
          have ap:=HA.out.later am.below
          have ao:=HB.out.later am.below
          obtain ⟨a1,k1,s1,rfl,x1,x2,ak⟩:=ap.elem k a9
          obtain ⟨b1,k2,s2,rfl,y1,y2,al⟩:=ao.elem k a7
          obtain ⟨A1,c1,n1,rfl⟩:∃ A1 c1 n1,s1=Value.slice A1 n1 c1:=by
           obtain ⟨A1,c1,e1⟩:=ak.form
           injection e1 with e1
           injection e1 with e1
           injection e1 with e1 e2
           injection e2 with e2 _
           exact ⟨_,_,_,e2⟩
          obtain ⟨B1,d1,n2,rfl⟩:∃ A1 c1 n1,s2=Value.slice A1 n1 c1:=by
           obtain ⟨A1,c1,e1⟩:=al.form
           injection e1 with e1
           injection e1 with e1
           injection e1 with e1 e2
           injection e2 with e2 _
           exact ⟨_,_,_,e2⟩
          rw [Nat.mul_comm 2 k] at x1 x2 y1 y2
          have u1:=World.block_lt_of_cell? _ _ x1
          have u2:=World.block_lt_of_cell? _ _ y1
          rw [addr_add_block] at u1 u2
          have x2':wr.cell? ⟨(a1.add (k*2)).block,(a1.add (k*2)).off+1,none⟩=some (Value.slice A1 n1 c1):=by rw [← addr_add_pos _ 1 (by omega),addr_add_add];exact x2
          have y2':wr.cell? ⟨(b1.add (k*2)).block,(b1.add (k*2)).off+1,none⟩=some (Value.slice B1 n2 d1):=by rw [← addr_add_pos _ 1 (by omega),addr_add_add];exact y2
          have z1:wr.cell? ⟨w.heap.size+1,1,none⟩=some (.slice (some b1) na d):=by
           rw [b8.below.cell (by simp)]
           have:=obj_cell (obj_new_at (w.alloc (.cells #[.int .i64 ka,.slice (some a1) na c] 97)) (.cells #[.int .i64 ka,.slice (some b1) na d] 97) (w.heap.size+1) (by simp)) 1
           rw [this];rfl
          have u3:w.heap.size+1<wr.heap.size:=World.block_lt_of_cell? _ _ z1
          have aG:=Hi ak
          have aJ:=Hi al
          have bx:=Hi b8
          have aN:=Hi am
          have aO:=Hi aC
          clear ak al ap ao x2 y2 b8 am aC
          have aE:=Ty.sames_drop a.of b.of k a9 a7
          have aw:=Ty.elem_lt a k a9
          obtain ⟨ta,ak⟩:∃ ta,ta=a.of[k]'a9:=⟨_,rfl⟩
          obtain ⟨tb,al⟩:∃ tb,tb=b.of[k]'a7:=⟨_,rfl⟩
          rw [← ak,← al] at aE
          rw [← ak] at aw aG
          rw [← al] at aJ
          have aT:=Hi aE
          have bi:=Hi aw
          clear aE aw ak al a9 a7
          go_wp2_with fail
          obtain ⟨W1,af⟩:∃ W1,W1=wr.alloc (.cells #[.int .i64 k1,.slice A1 n1 c1] 97):=⟨_,rfl⟩
          rw [← af]
          have a6:Keeps wr W1:=by rw [af];exact (Keeps.refl wr).alloc _
          have n0:W1.cell? ⟨wr.heap.size,0,none⟩=some (.int .i64 k1):=by rw [af,obj_cell (obj_new wr _) 0];rfl
          have n1':W1.cell? ⟨wr.heap.size,1,none⟩=some (.slice A1 n1 c1):=by rw [af,obj_cell (obj_new wr _) 1];rfl
          have Y1:W1.cell? (b1.add (k*2))=some (.int .i64 k2):=by rw [a6.below.cell (World.block_lt_of_cell? _ _ y1)];exact y1
          have Y2:W1.cell? ⟨(b1.add (k*2)).block,(b1.add (k*2)).off+1,none⟩=some (Value.slice B1 n2 d1):=by rw [a6.below.cell (World.block_lt_of_cell? _ _ y2')];exact y2'
          have Z1:W1.cell? ⟨w.heap.size+1,1,none⟩=some (.slice (some b1) na d):=by rw [a6.below.cell (World.block_lt_of_cell? _ _ z1)];exact z1
          have hc:Calls Tryz.prog 116 #[.agg #[.int .i64 k1,.slice A1 n1 c1],.agg #[.int .i64 k2,.slice B1 n2 d1]] W1.drew fun e w'=>e=.returned (.bool (Ty.same ta tb))∧Keeps W1 w':=
           (IH.out ta tb _ _ W1.drew (by have:=HN.out;have:=bi.out;omega) ((aG.out.later a6.below).later (Keeps.drew W1).below) ((aJ.out.later a6.below).later (Keeps.drew W1).below)).mono fun e w' h=>⟨h.1,(Keeps.drew W1).trans h.2⟩
          have b7:=Hi (bx.out.trans a6)
          have bf:=Hi (aN.out.trans a6)
          clear x1 x2' y1 y2' z1 u1 u2 u3 a6 af aG aJ IH bx aN HA HB
          cases hr:Ty.same ta tb with
          | false=>
            rw [hr] at hc
            have HC:=Hi hc
            have HR:=Hi hr
            clear hc hr
            go_region_law (go_simp;go_at_call 116;refine HC.out.mono ?_;rintro e w2 ⟨rfl,a8⟩)
            all_goals
             go_wp2
             go_ret
             refine ⟨ret_bool ?_,bf.out.trans a8⟩
             rw [HS.out,aO.out,aT.out,HR.out]
             simp
          | true=>
            rw [hr] at hc
            have HC:=Hi hc
            have HR:=Hi hr
            clear hc hr
            go_region_law (go_simp;go_at_call 116;refine HC.out.mono ?_;rintro e w2 ⟨rfl,a8⟩)
            all_goals
             have bj:=Hi (b7.out.trans a8)
             clear a8
             go_wp2
             refine ⟨⟨k+1,by omega,by go_num, ?_,bj.out⟩,by simp [intOf];omega⟩
             rw [aO.out,aT.out,HR.out]
             simp
        · go_wp2_with fail
          go_ret
          refine ⟨ret_bool ?_,am⟩
          have e:k=na:=by omega
          subst e
          rw [HS.out,aC,List.drop_eq_nil_of_le (by rw [aD.out];exact Nat.le_refl _),List.drop_eq_nil_of_le (by rw [ax.out];exact Nat.le_refl _)]
          simp [Ty.sames]
     · have q1:(ka != ka)=false:=by simp
       have q2:((na:Int) != (nb:Int))=true:=by rw [bne_iff_ne];omega
       go_enter Tryz.func116,Tryz.ntmps116
       go_wp2_with fail
       go_ret
       refine ⟨ret_bool ?_,((Keeps.refl w).alloc _).alloc _⟩
       rw [HS.out]
       cases h:Ty.sames a.of b.of with
       | false=>simp
       | true=>exact absurd (Ty.sames_length _ _ h) (by rw [aD.out,ax.out];exact hl)
   · have q1:(ka != kb)=true:=by rw [bne_iff_ne];exact hk
     go_enter Tryz.func116,Tryz.ntmps116
     go_wp2_with fail
     go_ret
     refine ⟨ret_bool ?_,((Keeps.refl w).alloc _).alloc _⟩
     rw [HS.out,decide_eq_false hk]
     rfl
end
section
open Go.RowKit
inductive Va where
 | mk (kind:Int) (int:Int) (fl:Nat) (text:ByteArray) (l:List Va):Va
def Va.kind:Va→Int | .mk k _ _ _ _=>k
def Va.int:Va→Int | .mk _ i _ _ _=>i
def Va.fl:Va→Nat | .mk _ _ f _ _=>f
def Va.text:Va→ByteArray | .mk _ _ _ t _=>t
def Va.items:Va→List Va | .mk _ _ _ _ l=>l
mutual
def Va.same:Va→Va→Bool
 | .mk k i f t l,.mk k' i' f' t' l'=>decide (k=k')&&decide (i=i')&&decide (fbits f=fbits f')&&decide (t=t')&&Va.sames l l'
def Va.sames:List Va→List Va→Bool
 | [],[]=>true
 | a :: l,b :: l'=>Va.same a b&&Va.sames l l'
 | _,_=>false
end
theorem Va.sames_length:∀ (l l':List Va),Va.sames l l'=true→l.length=l'.length
 | [],[],_=>rfl
 | a :: l,b :: l',h=>by
   simp only [Va.sames,Bool.and_eq_true] at h
   simp [Va.sames_length l l' h.2]
 | [],_ :: _,h=>by simp [Va.sames] at h
 | _ :: _,[],h=>by simp [Va.sames] at h
theorem Va.sames_drop:∀ (l l':List Va) (k:Nat) (h:k<l.length) (h':k<l'.length),Va.sames (l.drop k) (l'.drop k)=(Va.same (l[k]'h) (l'[k]'h')&&Va.sames (l.drop (k+1)) (l'.drop (k+1))):=by
 intro l l' k h h'
 rw [List.drop_eq_getElem_cons h,List.drop_eq_getElem_cons h']
 simp only [Va.sames]
inductive VaAt (w:World):Value→Va→Prop
 | mk (k i:Int) (f:Nat) (t:ByteArray) (A:Option Addr) (c:Nat) (l:List Va) (vs:Nat→Value) (hn:l.length≤1152921504606846976)
    (h0:∀ j,(h:j<l.length)→∃ ad k' i' f' t' s',A=some ad∧w.cell? (ad.add (5*j))=some (.int .i64 k')∧w.cell? (ad.add (5*j+1))=some (.int .i64 i')∧w.cell? (ad.add (5*j+2))=some (.float .f64 f') ∧
      w.cell? (ad.add (5*j+3))=some (.string t')∧w.cell? (ad.add (5*j+4))=some s'∧vs j=.agg #[.int .i64 k',.int .i64 i',.float .f64 f',.string t',s'])
    (h1:∀ j,(h:j<l.length)→VaAt w (vs j) (l[j]'h)):VaAt w (.agg #[.int .i64 k,.int .i64 i,.float .f64 f,.string t,.slice A l.length c]) (.mk k i f t l)
theorem VaAt.later {w w':World} {v:Value} {t:Va} (h:VaAt w v t) (hb:Below w.heap.size w w'):VaAt w' v t:=by
 induction h with
 | mk k i f t A c l vs hn h0 h1 ih=>
   refine .mk k i f t A c l vs hn (fun j hj=>?_) ih
   obtain ⟨ad,k',i',f',t',s',e,c1,c2,c3,c4,c5,hv⟩:=h0 j hj
   have hk:∀ {p:Addr} {u:Value},w.cell? p=some u→w'.cell? p=some u:=fun hc=>by rw [hb.cell (World.block_lt_of_cell? w _ hc)];exact hc
   exact ⟨ad,k',i',f',t',s',e,hk c1,hk c2,hk c3,hk c4,hk c5,hv⟩
theorem VaAt.form {w:World} {v:Value} {t:Va} (h:VaAt w v t):∃ A c,v=.agg #[.int .i64 t.kind,.int .i64 t.int,.float .f64 t.fl,.string t.text,.slice A t.items.length c]:=by
 cases h with
 | mk k i f t A c l vs hn h0 h1=>exact ⟨A,c,rfl⟩
theorem VaAt.bound {w:World} {v:Value} {t:Va} (h:VaAt w v t):t.items.length≤1152921504606846976:=by
 cases h with
 | mk k i f t A c l vs hn h0 h1=>exact hn
theorem VaAt.elem {w:World} {k i:Int} {f:Nat} {tx:ByteArray} {A:Option Addr} {n c:Nat} {t:Va} (h:VaAt w (.agg #[.int .i64 k,.int .i64 i,.float .f64 f,.string tx,.slice A n c]) t) (j:Nat) (hj:j<t.items.length) :
 ∃ ad k' i' f' t' s',A=some ad∧w.cell? (ad.add (5*j))=some (.int .i64 k')∧w.cell? (ad.add (5*j+1))=some (.int .i64 i')∧w.cell? (ad.add (5*j+2))=some (.float .f64 f') ∧
  w.cell? (ad.add (5*j+3))=some (.string t')∧w.cell? (ad.add (5*j+4))=some s'∧VaAt w (.agg #[.int .i64 k',.int .i64 i',.float .f64 f',.string t',s']) (t.items[j]'hj):=by
 generalize hv:Value.agg #[.int .i64 k,.int .i64 i,.float .f64 f,.string tx,.slice A n c]=v at h
 cases h with
 | mk k2 i2 f2 t2 A2 c2 l vs hn h0 h1=>
   simp only [Value.agg.injEq,Array.mk.injEq,List.cons.injEq,Value.slice.injEq] at hv
   obtain ⟨_,_,_,_,⟨e2,_,_⟩,_⟩:=hv
   subst e2
   obtain ⟨ad,k',i',f',t',s',e,c1,c2,c3,c4,c5,bS⟩:=h0 j hj
   refine ⟨ad,k',i',f',t',s',e,c1,c2,c3,c4,c5, ?_⟩
   rw [← bS]
   exact h1 j hj
theorem Va.elem_lt (t:Va) (i:Nat) (hi:i<t.items.length):SizeOf.sizeOf (t.items[i]'hi)<SizeOf.sizeOf t:=by
 cases t with
 | mk k j f t l=>
   have:=List.sizeOf_lt_of_mem (List.getElem_mem hi)
   simp only [Va.items,Va.mk.sizeOf_spec] at this ⊢
   omega
end
section
open Go.RowKit Go.BigFrame
theorem run_store_float (P:Program) (w:World) (a:Addr) (m:Mode) (k:FloatKind) (x:Nat):(store a (.float k x) m).run P w=stored P w a (.float k x) m:=run_store P w a _ m rfl
attribute [local go_sem] run_store_float
def SameV (F n:Nat):Prop:=∀ (a b:Va) (va vb:Value) (w:World),SizeOf.sizeOf a<n→VaAt w va a→VaAt w vb b →
    Calls Tryz.prog F #[va,vb] w fun e w'=>e=.returned (.bool (Va.same a b))∧Keeps w w'
theorem sameItems_calls (n:Nat) (ih:SameV 101 n) (a b:Va) (k0 k0' i0 i0':Int) (f0 f0':Nat) (t0 t0':ByteArray) (A B:Option Addr) (na nb c d:Nat) (w:World) (hn:SizeOf.sizeOf a<n+1)
 (ha:VaAt w (.agg #[.int .i64 k0,.int .i64 i0,.float .f64 f0,.string t0,.slice A na c]) a) (hb:VaAt w (.agg #[.int .i64 k0',.int .i64 i0',.float .f64 f0',.string t0',.slice B nb d]) b) (aH:a.items.length=na) (av:b.items.length=nb) :
 Calls Tryz.prog 132 #[.slice A na c,.slice B nb d] w fun e w'=>e=.returned (.bool (Va.sames a.items b.items))∧Keeps w w':=by
 have IH:=Hi ih
 have bg:=ha.bound
 have bc:=hb.bound
 rw [aH] at bg
 rw [av] at bc
 have HA:=Hi ha
 have HB:=Hi hb
 have HN:=Hi hn
 have aD:=Hi aH
 have ax:=Hi av
 clear ih ha hb hn aH av
 by_cases hl:na=nb
 · subst hl
   have q2:((na:Int) != (na:Int))=false:=by simp
   go_enter Tryz.func132,Tryz.ntmps132
   go_wp2_with fail
   go_loopw [14] (fun i wr=>∃ k:Nat,k≤na∧i=.int .i64 (k:Int)∧Va.sames a.items b.items=Va.sames (a.items.drop k) (b.items.drop k)∧Keeps w wr) (fun i _=>na-(intOf i).toNat)
   case atStart=>exact ⟨0,Nat.zero_le _,rfl,rfl,Keeps.refl _⟩
   case round=>
    obtain ⟨k,hk,rfl,aC,am⟩:=hrel
    by_cases aa:k<na
    · have a9:k<a.items.length:=by rw [aD.out];exact aa
      have a7:k<b.items.length:=by rw [ax.out];exact aa
      have ap:=HA.out.later am.below
      have ao:=HB.out.later am.below
      obtain ⟨a1,k1,i1,f1,t1,s1,rfl,x1,x2,x3,x4,x5,ak⟩:=ap.elem k a9
      obtain ⟨b1,k2,i2,f2,t2,s2,rfl,y1,y2,y3,y4,y5,al⟩:=ao.elem k a7
      obtain ⟨A1,c1,n1,rfl⟩:∃ A1 c1 n1,s1=Value.slice A1 n1 c1:=by
       obtain ⟨A1,c1,e1⟩:=ak.form
       simp only [Value.agg.injEq,Array.mk.injEq,List.cons.injEq] at e1
       exact ⟨_,_,_,e1.2.2.2.2.1⟩
      obtain ⟨B1,d1,n2,rfl⟩:∃ A1 c1 n1,s2=Value.slice A1 n1 c1:=by
       obtain ⟨A1,c1,e1⟩:=al.form
       simp only [Value.agg.injEq,Array.mk.injEq,List.cons.injEq] at e1
       exact ⟨_,_,_,e1.2.2.2.2.1⟩
      rw [Nat.mul_comm 5 k] at x1 x2 x3 x4 x5 y1 y2 y3 y4 y5
      rw [← addr_add_add,addr_add_pos _ _ (by omega)] at x2 x3 x4 x5 y2 y3 y4 y5
      have aE:=Va.sames_drop a.items b.items k a9 a7
      have aw:=Va.elem_lt a k a9
      obtain ⟨ta,aB⟩:∃ ta,ta=a.items[k]'a9:=⟨_,rfl⟩
      obtain ⟨tb,aF⟩:∃ tb,tb=b.items[k]'a7:=⟨_,rfl⟩
      rw [← aB,← aF] at aE
      rw [← aB] at aw ak
      rw [← aF] at al
      have aG:=Hi ak
      have aJ:=Hi al
      have aN:=Hi am
      have aO:=Hi aC
      have aT:=Hi aE
      have bi:=Hi aw
      have Y1:=Hi y1
      have Y2:=Hi y2
      have Y3:=Hi y3
      have Y4:=Hi y4
      have Y5:=Hi y5
      clear ak al ap ao am aC aE aw aB aF a9 a7 y1 y2 y3 y4 y5
      go_wp2_with fail
      obtain ⟨W1,af⟩:∃ W1,W1=wr.alloc (.cells #[.int .i64 k1,.int .i64 i1,.float .f64 f1,.string t1,.slice A1 n1 c1] 101):=⟨_,rfl⟩
      rw [← af]
      have a6:Keeps wr W1:=by rw [af];exact (Keeps.refl wr).alloc _
      have ai:∀ {p:Addr} {u:Value},wr.cell? p=some u→W1.cell? p=some u:=fun hc=>by rw [a6.below.cell (World.block_lt_of_cell? _ _ hc)];exact hc
      have aj:∀ i,W1.cell? ⟨wr.heap.size,i,none⟩=#[Value.int .i64 k1,.int .i64 i1,.float .f64 f1,.string t1,.slice A1 n1 c1][i]?:=fun i=>by rw [af];exact obj_cell (obj_new wr _) i
      have m0:=aj 0
      have m1:=aj 1
      have m2:=aj 2
      have m3:=aj 3
      have m4:=aj 4
      simp only [List.getElem?_toArray,List.getElem?_cons_zero,List.getElem?_cons_succ] at m0 m1 m2 m3 m4
      have z1:=ai Y1.out
      have z2:=ai Y2.out
      have z3:=ai Y3.out
      have z4:=ai Y4.out
      have z5:=ai Y5.out
      have hc:=(IH.out ta tb _ _ W1.drew (by have:=HN.out;have:=bi.out;omega) ((aG.out.later a6.below).later (Keeps.drew W1).below) ((aJ.out.later a6.below).later (Keeps.drew W1).below)).mono fun e w' h=>(⟨h.1,(Keeps.drew W1).trans h.2⟩:_∧Keeps W1 w')
      have b7:=Hi (aN.out.trans a6)
      clear x1 x2 x3 x4 x5 a6 af aG aJ IH aN HA HB ai aj Y1 Y2 Y3 Y4 Y5
      cases hr:Va.same ta tb with
      | false=>
        rw [hr] at hc
        have HC:=Hi hc
        have HR:=Hi hr
        clear hc hr
        go_region_law (go_simp;go_at_call 101;refine HC.out.mono ?_;rintro e w2 ⟨rfl,a8⟩)
        all_goals
         go_wp2
         go_ret
         refine ⟨ret_bool ?_,b7.out.trans a8⟩
         rw [aO.out,aT.out,HR.out]
         simp
      | true=>
        rw [hr] at hc
        have HC:=Hi hc
        have HR:=Hi hr
        clear hc hr
        go_region_law (go_simp;go_at_call 101;refine HC.out.mono ?_;rintro e w2 ⟨rfl,a8⟩)
        all_goals
         have bj:=Hi (b7.out.trans a8)
         clear a8
         go_wp2
         refine ⟨⟨k+1,by omega,by go_num, ?_,bj.out⟩,by simp [intOf];omega⟩
         rw [aO.out,aT.out,HR.out]
         simp
    · go_wp2_with fail
      go_ret
      refine ⟨ret_bool ?_,am⟩
      have e:k=na:=by omega
      subst e
      rw [aC,List.drop_eq_nil_of_le (by rw [aD.out];exact Nat.le_refl _),List.drop_eq_nil_of_le (by rw [ax.out];exact Nat.le_refl _)]
      simp [Va.sames]
 · have q2:((na:Int) != (nb:Int))=true:=by rw [bne_iff_ne];omega
   go_enter Tryz.func132,Tryz.ntmps132
   go_wp2_with fail
   go_ret
   refine ⟨ret_bool ?_,Keeps.refl w⟩
   cases h:Va.sames a.items b.items with
   | false=>rfl
   | true=>exact absurd (Va.sames_length _ _ h) (by rw [aD.out,ax.out];exact hl)
theorem texts_ne {t t':ByteArray} (h:t≠t'):(t.toList==t'.toList)=false:=by
 rw [beq_eq_false_iff_ne]
 intro e
 apply h
 cases t;cases t';simpa [ByteArray.toList_eq] using e
theorem sameValue_calls (n:Nat):SameV 101 n:=by
 induction n with
 | zero=>intro a b va vb w hn;exact absurd hn (by omega)
 | succ n ih=>
   intro a b va vb w hn ha hb
   obtain ⟨A,c,rfl⟩:=ha.form
   obtain ⟨B,d,rfl⟩:=hb.form
   have hs:Va.same a b=(decide (a.kind=b.kind)&&decide (a.int=b.int)&&decide (fbits a.fl=fbits b.fl)&&decide (a.text=b.text)&&Va.sames a.items b.items):=by cases a;cases b;rfl
   have a8:Keeps w ((w.alloc (.cells #[.int .i64 a.kind,.int .i64 a.int,.float .f64 a.fl,.string a.text,.slice A a.items.length c] 101)).alloc (.cells #[.int .i64 b.kind,.int .i64 b.int,.float .f64 b.fl,.string b.text,.slice B b.items.length d] 101)):=((Keeps.refl w).alloc _).alloc _
   have hc:=sameItems_calls n ih a b _ _ _ _ _ _ _ _ A B _ _ c d _ hn (ha.later a8.below) (hb.later a8.below) rfl rfl
   have hf:=realSame_calls a.fl b.fl
   generalize a.kind=k at hs a8 hc ⊢
   generalize b.kind=k' at hs a8 hc ⊢
   generalize a.int=i at hs a8 hc ⊢
   generalize b.int=i' at hs a8 hc ⊢
   generalize decide (fbits a.fl=fbits b.fl)=r at hs hf
   generalize a.fl=f at hf a8 hc ⊢
   generalize b.fl=f' at hf a8 hc ⊢
   generalize a.text=t at hs a8 hc ⊢
   generalize b.text=t' at hs a8 hc ⊢
   generalize a.items.length=la at a8 hc ⊢
   generalize b.items.length=lb at a8 hc ⊢
   have HS:=Hi hs
   have HK:=Hi a8
   have HC:=Hi hc
   clear hs a8 hc ih ha hb hn
   have e1:(k==k')=decide (k=k'):=rfl
   have e2:(i==i')=decide (i=i'):=rfl
   by_cases q1:k=k' <;> by_cases q2:i=i' <;> cases r <;> by_cases q3:t=t'
   all_goals try subst q1
   all_goals try subst q2
   all_goals try subst q3
   all_goals try have q4:=texts_ne q3
   all_goals
    have HF:=Hi hf
    clear hf
    go_enter Tryz.func101,Tryz.ntmps101
    go_wp2_with (first
     | (go_at_call 131;refine (HF.out _).mono ?_;rintro e w2 ⟨rfl,rfl⟩)
     | (go_at_call 132;refine HC.out.mono ?_;rintro e w2 ⟨rfl,bJ⟩))
   all_goals go_ret
   all_goals
    refine ⟨ret_bool ?_, ?_⟩
    · rw [HS.out];simp_all
    · first | exact HK.out | exact HK.out.trans bJ
end
def lg:List UInt8→Nat→Nat→Except Int (Nat×Nat)
 | [],_,_=>.error 30
 | c :: l,k,n=>if (k=9∧1<c.toNat)∨(c.toNat=0∧0<k) then .error 5 else if c.toNat<128 then .ok (n+c.toNat*128 ^ k,k+1) else lg l (k+1) (n+c.toNat % 128*128 ^ k)
def lebGet (l:List UInt8) (at':Nat):Except Int (Nat×Nat):=
 match lg (l.drop at') 0 0 with
 | .error e=>.error e
 | .ok (n,k)=>.ok (n,at'+k)
def getOut:Except Int (Nat×Nat)→Value
 | .error e=>.tuple #[.int .u64 0,.int .i64 0,.int .i64 e]
 | .ok (n,k)=>.tuple #[.int .u64 (n:Int),.int .i64 (k:Int),.int .i64 0]
theorem lg_form (c:UInt8) (l:List UInt8) (k n:Nat) (h:(k=9∧1<c.toNat)∨(c.toNat=0∧0<k)):lg (c :: l) k n=.error 5:=by rw [lg,if_pos h]
theorem lg_last (c:UInt8) (l:List UInt8) (k n:Nat) (h:¬((k=9∧1<c.toNat)∨(c.toNat=0∧0<k))) (hc:c.toNat<128):lg (c :: l) k n=.ok (n+c.toNat*128 ^ k,k+1):=by rw [lg,if_neg h,if_pos hc]
theorem lg_more (c:UInt8) (l:List UInt8) (k n:Nat) (h:¬((k=9∧1<c.toNat)∨(c.toNat=0∧0<k))) (hc:¬c.toNat<128):lg (c :: l) k n=lg l (k+1) (n+c.toNat % 128*128 ^ k):=by rw [lg,if_neg h,if_neg hc]
theorem or_add {n k c:Nat} (hn:n<128 ^ k) (hs:n+c*128 ^ k<18446744073709551616):bits BinOp.or IntKind.u64 (n:Int) ((c*128 ^ k:Nat):Int)=((n+c*128 ^ k:Nat):Int):=by
 have h1:n ||| c*128 ^ k=n+c*128 ^ k:=by
  have e:(128:Nat) ^ k=2 ^ (7*k):=by rw [Nat.pow_mul]
  rw [e] at hn ⊢
  rw [Nat.or_comm,Nat.mul_comm,← Nat.two_pow_add_eq_or_of_lt hn,Nat.add_comm]
 have h2:n<18446744073709551616:=by omega
 have h3:c*128 ^ k<18446744073709551616:=by omega
 rw [u64_or_nat _ _ h2 h3,h1]
theorem shl_wrap (c k:Nat) (hs:c*128 ^ k<18446744073709551616):IntKind.u64.wrap ((c:Int)*2 ^ (7*k))=((c*128 ^ k:Nat):Int):=by
 have e2:(c:Int)*2 ^ (7*k)=((c*128 ^ k:Nat):Int):=by
  have:(128:Nat) ^ k=2 ^ (7*k):=by rw [Nat.pow_mul]
  rw [this]
  simp
 rw [e2,IntWalk.u64_in _ (by omega)]
theorem and127_fin:∀ b:Fin 256,bits BinOp.and IntKind.u8 ((b.val:Nat):Int) 127=((b.val % 128:Nat):Int):=by decide +kernel
theorem and127 (c:Nat) (hc:c<256):bits BinOp.and IntKind.u8 (c:Int) 127=((c % 128:Nat):Int):=and127_fin ⟨c,hc⟩
theorem pow128_le {k:Nat} (hk:k≤9):128 ^ k≤9223372036854775808:=by
 have:=Nat.pow_le_pow_right (n:=128) (by omega) hk
 omega
theorem lg_room {n k c:Nat} (hk:k≤9) (hn:n<128 ^ k) (hc:c<128) (h9:k=9→c≤1):n+c*128 ^ k<18446744073709551616:=by
 by_cases h:k=9
 · subst h
   have:=h9 rfl
   have:c*128 ^ 9≤1*128 ^ 9:=Nat.mul_le_mul_right _ this
   omega
 · have h1:n+c*128 ^ k<128 ^ (k+1):=by
    rw [Nat.pow_succ]
    have:c*128 ^ k≤127*128 ^ k:=Nat.mul_le_mul_right _ (by omega)
    omega
   have:=pow128_le (k:=k+1) (by omega)
   omega
theorem lg_next {n k c:Nat} (hn:n<128 ^ k) (hc:c<128):n+c*128 ^ k<128 ^ (k+1):=by
 rw [Nat.pow_succ]
 have:c*128 ^ k≤127*128 ^ k:=Nat.mul_le_mul_right _ (by omega)
 omega
section
open Go.RowKit
theorem get_error {l:List UInt8} {a:Nat} {e:Int} (h:Hid (lg (l.drop a) 0 0=.error e)):Ending.returned (.tuple #[.int .u64 0,.int .i64 0,.int .i64 e])=.returned (getOut (lebGet l a)):=by
 unfold lebGet;rw [h.out];rfl
theorem get_ok {l:List UInt8} {a n k:Nat} {x y:Int} (h:Hid (lg (l.drop a) 0 0=.ok (n,k))) (hx:x=n) (hy:y=((a+k:Nat):Int)):Ending.returned (.tuple #[.int .u64 x,.int .i64 y,.int .i64 0])=.returned (getOut (lebGet l a)):=by
 unfold lebGet;rw [h.out,hx,hy];rfl
theorem lebGet_calls (A:Option Addr) (c:Nat) (l:List UInt8) (a:Nat) (w:World) (hl:l.length≤140737488355328) (bA:l.length≤c) (hc:c≤9223372036854775807) (hr:Reads w A l) (ha:a≤4611686018427387904) :
 Calls Tryz.prog 156 #[.slice A l.length c,.int .i64 (a:Int)] w fun e w'=>e=.returned (getOut (lebGet l a))∧w=w':=by
 generalize hn:l.length=n at hl bA ⊢
 have HN:=Hi hn
 clear hn
 by_cases aa:a<n
 · obtain ⟨ad,rfl⟩:∃ ad,A=some ad:=by
    obtain ⟨ad,e,_⟩:=hr.out a (by rw [HN.out];exact aa)
    exact ⟨ad,e⟩
   have aV:(l.drop a).length=n-a:=by rw [List.length_drop,HN.out]
   have bt:Reads w (some (ad.add a)) (l.drop a):=hr.drop a fun i=>by rw [addr_add_add]
   have HR:=Hi bt
   have aY:=Hi aV
   clear hr bt aV
   go_enter Tryz.func156,Tryz.ntmps156
   go_wp2_with fail
   go_step3
   go_wp2_with fail
   go_step3
   go_wp2_with fail
   go_loop [7,8,9,25] (fun s e t i=>∃ k m:Nat,k≤9∧k≤n-a∧s=.int .u64 (m:Int)∧e=.int .i64 30∧i=.int .i64 (k:Int)∧m<128 ^ k∧lg (l.drop a) 0 0=lg ((l.drop a).drop k) k m) (fun _ _ _ i=>10-(intOf i).toNat)
   case atStart=>exact ⟨0,0,by omega,by omega,rfl,rfl,rfl,by simp,rfl⟩
   case round=>
    obtain ⟨k,m,hk,bX,rfl,rfl,rfl,hm,ac⟩:=hrel
    by_cases a7:k<n-a
    · obtain ⟨cc,ba⟩:∃ cc,cc=(l.drop a)[k]'(by rw [aY.out];exact a7):=⟨_,rfl⟩
      have ab:w.cell? ((ad.add a).add k)=some (.int .u8 ((cc.toNat:Nat):Int)):=by
       obtain ⟨x,e,h⟩:=HR.out.out k (by rw [aY.out];exact a7)
       cases e
       rw [ba];exact h
      have aA:(l.drop a).drop k=cc :: (l.drop a).drop (k+1):=by
       rw [ba];exact List.drop_eq_getElem_cons (by rw [aY.out];exact a7)
      rw [aA] at ac
      have hb:cc.toNat<256:=cc.toNat_lt
      clear ba aA
      obtain ⟨x,hx⟩:∃ x,x=cc.toNat:=⟨_,rfl⟩
      rw [← hx] at ab hb
      have hp:=pow128_le hk
      by_cases hf:(k=9∧1<x)∨(x=0∧0<k)
      · rw [lg_form _ _ _ _ (by rw [← hx];exact hf)] at ac
        have ah:=Hi ac
        have HM:=Hi hm
        clear ac hm hx hp
        go_wp2
        all_goals
         go_ret3
         exact ⟨get_error ah,rfl⟩
      · have aP:k=9→x≤1:=fun h=>by omega
        have aL:x=0→k=0:=fun h=>by omega
        by_cases be:x<128
        · rw [lg_last _ _ _ _ (by rw [← hx];exact hf) (by rw [← hx];exact be),← hx] at ac
          have a0:=lg_room hk hm be aP
          have bl:=or_add hm a0
          have aW:IntKind.u64.wrap ((x:Int)*2 ^ (7*k))=((x*128 ^ k:Nat):Int):=shl_wrap x k (by omega)
          have ah:=Hi ac
          clear ac hm hx hp a0
          generalize hM:x*128 ^ k=M at bl aW ah
          clear hM
          by_cases h9:k=9
          · have bw:((k:Int)==9)=true:=by simp;omega
            have bV:=aP h9
            have bk:((x:Int)==0)=false:=by simp;omega
            clear h9 aP aL hf
            go_wp2
            go_ret3
            exact ⟨get_ok ah (by omega) (by omega),rfl⟩
          · have bw:((k:Int)==9)=false:=by simp;omega
            by_cases h0:x=0
            · have bk:((x:Int)==0)=true:=by simp;omega
              have a6:decide ((0:Int)<(k:Int))=false:=by simp;exact aL h0
              have a8:decide (0<k)=false:=by simp;exact aL h0
              clear h9 aP aL hf h0
              go_wp2
              go_ret3
              exact ⟨get_ok ah (by omega) (by omega),rfl⟩
            · have bk:((x:Int)==0)=false:=by simp;omega
              clear h9 aP aL hf h0
              go_wp2
              go_ret3
              exact ⟨get_ok ah (by omega) (by omega),rfl⟩
        · rw [lg_more _ _ _ _ (by rw [← hx];exact hf) (by rw [← hx];exact be),← hx] at ac
          have bL:k<9:=by omega
          have a0:=lg_room (c:=x % 128) hk hm (by omega) (by omega)
          have az:=lg_next (c:=x % 128) hm (by omega)
          have bl:=or_add hm a0
          have aW:IntKind.u64.wrap (((x % 128:Nat):Int)*2 ^ (7*k))=((x % 128*128 ^ k:Nat):Int):=shl_wrap (x % 128) k (by omega)
          have bw:((k:Int)==9)=false:=by simp;omega
          have bk:((x:Int)==0)=false:=by simp;omega
          have bN:=and127 x hb
          have ah:=Hi ac
          have bB:=Hi az
          clear ac hm hx hp a0 az
          generalize hM:x % 128*128 ^ k=M at bl aW ah bB
          clear hM
          have bP:x % 128<128:=Nat.mod_lt _ (by omega)
          generalize hX:x % 128=X at aW bN bP
          clear hX
          go_wp2
          go_round
          case rel=>exact ⟨k+1,m+M,by omega,by omega,by go_num,rfl,by go_num,bB.out,ah.out⟩
          case measure=>simp [intOf];omega
    · have e0:(l.drop a).drop k=[]:=List.drop_eq_nil_of_le (by rw [aY.out];omega)
      rw [e0,lg] at ac
      have ah:=Hi ac
      clear ac hm e0
      go_wp2
      go_ret3
      exact ⟨get_error ah,rfl⟩
 · have ac:lg (l.drop a) 0 0=.error 30:=by rw [List.drop_eq_nil_of_le (by rw [HN.out];omega),lg]
   have ah:=Hi ac
   clear ac hr
   have h1:n≤a:=by omega
   have h2:decide (n≤a)=true:=by simpa using h1
   have h3:decide ((a:Int)<0)=false:=by simp
   clear aa
   go_enter Tryz.func156,Tryz.ntmps156
   go_wp2
   go_step3
   go_wp2
   rw [Exit.noGoto_ret]
   all_goals
    go_ret3
    exact ⟨get_error ah,rfl⟩
end
section
open Go.RowKit Go.BigFrame
abbrev raised (e:Int):Ending:=.panicked [{ v:=.iface 193 (.agg #[.int .i64 e]),recovered:=false }]
structure RdAt (w:World) (g:Nat) (A:Option Addr) (c:Nat) (l:List UInt8) (a:Nat):Prop where
 obj:w.heap[g]? = some (.cells #[.slice A l.length c,.int .i64 (a:Int)] 166 (0,0))
 reads:Reads w A l
 far:∀ b,A=some b→l≠[]→b.block≠g
 len:l.length≤140737488355328
 room:l.length≤c
 cap:c≤9223372036854775807
 within:a≤l.length
theorem RdAt.cells {w:World} {g:Nat} {A:Option Addr} {c:Nat} {l:List UInt8} {a:Nat} (h:RdAt w g A c l a) :
 w.cell? ⟨g,0,none⟩=some (.slice A l.length c)∧w.cell? ⟨g,1,none⟩=some (.int .i64 (a:Int))∧w.frozen? ⟨g,1,none⟩=false:=
 ⟨(cells2 h.obj).1,(cells2 h.obj).2.1,(cells2 h.obj).2.2.2⟩
theorem RdAt.touch {F:Nat→Prop} {w w':World} {g:Nat} {A:Option Addr} {c:Nat} {l:List UInt8} {a:Nat} (h:RdAt w g A c l a) (ht:Touch F w w') (hg:¬F g) (hA:∀ b,A=some b→l≠[]→¬F b.block):RdAt w' g A c l a:=
 ⟨ht.obj h.obj hg,ht.reads h.reads hA,h.far,h.len,h.room,h.cap,h.within⟩
theorem RdAt.below {w w':World} {g:Nat} {A:Option Addr} {c:Nat} {l:List UInt8} {a:Nat} (h:RdAt w g A c l a) (hb:Below w.heap.size w w'):RdAt w' g A c l a:=
 ⟨by rw [hb.block g (obj_lt h.obj)];exact h.obj,h.reads.below hb,h.far,h.len,h.room,h.cap,h.within⟩
theorem RdAt.drewN {w:World} {g:Nat} {A:Option Addr} {c:Nat} {l:List UInt8} {a:Nat} (h:RdAt w g A c l a) (n:Nat):RdAt (w.drewN n) g A c l a:=⟨h.obj,h.reads,h.far,h.len,h.room,h.cap,h.within⟩
theorem RdAt.put {w:World} {g:Nat} {A:Option Addr} {c:Nat} {l:List UInt8} {a:Nat} (h:RdAt w g A c l a) (k:Nat) (hk:k≤l.length):RdAt (w.setCell ⟨g,1,none⟩ (.int .i64 (k:Int))) g A c l k:=
 ⟨obj_set h.obj 1 _,((Touch.refl (At g) w).set 1 _).reads h.reads (fun b e hn=>h.far b e hn),h.far,h.len,h.room,h.cap,hk⟩
theorem RdAt.put' {w:World} {g:Nat} {A:Option Addr} {c:Nat} {l:List UInt8} {a:Nat} (h:RdAt w g A c l a) (k:Nat) (hk:k≤l.length) (x:Int) (hx:x=k):RdAt (w.setCell ⟨g,1,none⟩ (.int .i64 x)) g A c l k:=by
 subst hx;exact h.put k hk
theorem must_ok (p:Addr) (e:Int) (w:World) :
 Calls Tryz.prog 150 #[.pointer (some p),.bool true,.int .i64 e] w fun e' w'=>e'=.returned (.tuple #[])∧w=w':=by
 go_enter Tryz.func150,Tryz.ntmps150
 go_wp2
 go_end0
 exact ⟨rfl,rfl⟩
theorem must_no (p:Addr) (e:Int) (w:World) :
 Calls Tryz.prog 150 #[.pointer (some p),.bool false,.int .i64 e] w fun e' w'=>e'=raised e∧w=w':=by
 go_enter Tryz.func150,Tryz.ntmps150
 go_wp2
 exact ⟨rfl,rfl,rfl⟩
def rByte (l:List UInt8) (a:Nat):Except Int (Nat×Nat):=if h:a<l.length then .ok ((l[a]'h).toNat,a+1) else .error 30
def rBit (l:List UInt8) (a:Nat):Except Int (Nat×Nat):=
 match rByte l a with
 | .error e=>.error e
 | .ok (c,k)=>if c<2 then .ok (c,k) else .error 5
theorem lg_le:∀ (l:List UInt8) (k n m j:Nat),lg l k n=.ok (m,j)→j≤k+l.length
 | [],k,n,m,j,h=>by simp [lg] at h
 | c :: l,k,n,m,j,h=>by
   rw [lg] at h
   split at h
   · cases h
   · split at h
     · injection h with h;injection h with h1 h2;simp;omega
     · have:=lg_le l _ _ m j h;simp;omega
theorem lebGet_le {l:List UInt8} {a n k:Nat} (ha:a≤l.length) (h:lebGet l a=.ok (n,k)):k≤l.length:=by
 unfold lebGet at h
 split at h
 · cases h
 · rename_i m j hl
   have:=lg_le _ _ _ _ _ hl
   injection h with h;injection h with h1 h2
   rw [List.length_drop] at this
   omega
theorem lg_num:∀ (l:List UInt8) (k n m j:Nat),k≤9→n<128 ^ k→lg l k n=.ok (m,j)→m<18446744073709551616
 | [],k,n,m,j,_,_,h=>by simp [lg] at h
 | c :: l,k,n,m,j,hk,hn,h=>by
   rw [lg] at h
   split at h
   · cases h
   · rename_i hf
     split at h
     · rename_i hc
       injection h with h;injection h with h1 h2
       rw [← h1]
       exact lg_room hk hn hc (by omega)
     · rename_i hc
       exact lg_num l _ _ m j (by omega) (lg_next hn (by omega)) h
theorem lebGet_num {l:List UInt8} {a n k:Nat} (h:lebGet l a=.ok (n,k)):n<18446744073709551616:=by
 unfold lebGet at h
 split at h
 · cases h
 · rename_i m j hl
   injection h with h;injection h with h1 h2
   have:=lg_num _ _ _ _ _ (by omega) (by omega) hl
   omega
theorem number_ok (g:Nat) (A:Option Addr) (c:Nat) (l:List UInt8) (a n k:Nat) (w:World) (hr:RdAt w g A c l a) (h:lebGet l a=.ok (n,k)) :
 Calls Tryz.prog 149 #[.pointer (some ⟨g,0,none⟩)] w fun e w'=>e=.returned (.int .u64 (n:Int))∧RdAt w' g A c l k∧Touch (At g) w w':=by
 obtain ⟨c0,c1,fz⟩:=hr.cells
 have hg:=obj_lt hr.obj
 have hk:=lebGet_le hr.within h
 have hc:∀ w1,Quiet w w1→Calls Tryz.prog 156 #[.slice A l.length c,.int .i64 (a:Int)] w1 fun e w'=>e=.returned (.tuple #[.int .u64 (n:Int),.int .i64 (k:Int),.int .i64 0])∧w1=w':=by
  intro w1 hq
  have:=lebGet_calls A c l a w1 hr.len hr.room hr.cap (hr.reads.quiet hq) (by have:=hr.within;have:=hr.len;omega)
  rw [h] at this
  exact this
 have HR:=Hi hr
 have HC:=Hi hc
 clear hr hc h
 have HK:=Hi hk
 clear hk
 generalize hL:l.length=L at c0 HC
 clear hL
 go_enter Tryz.func149,Tryz.ntmps149
 go_wp2_with fail
 go_quiet ((go_at_call 156;exact quiet_eq (HC.out _ ⟨_,rfl⟩)))
 go_wp2_with fail
 refine (must_ok _ _ _).mono ?_
 rintro e w1 ⟨rfl,rfl⟩
 go_wp2
 go_ret
 exact ⟨rfl,(HR.out.drewN nq).put k HK.out,((Touch.refl (At g) w).drewN nq).set 1 _⟩
theorem number_no (g:Nat) (A:Option Addr) (c:Nat) (l:List UInt8) (a:Nat) (er:Int) (w:World) (hr:RdAt w g A c l a) (h:lebGet l a=.error er) (h0:er≠0) :
 Calls Tryz.prog 149 #[.pointer (some ⟨g,0,none⟩)] w fun e w'=>e=raised er∧Touch (At g) w w':=by
 obtain ⟨c0,c1,fz⟩:=hr.cells
 have hg:=obj_lt hr.obj
 have hc:∀ w1,Quiet w w1→Calls Tryz.prog 156 #[.slice A l.length c,.int .i64 (a:Int)] w1 fun e w'=>e=.returned (.tuple #[.int .u64 0,.int .i64 0,.int .i64 er])∧w1=w':=by
  intro w1 hq
  have:=lebGet_calls A c l a w1 hr.len hr.room hr.cap (hr.reads.quiet hq) (by have:=hr.within;have:=hr.len;omega)
  rw [h] at this
  exact this
 have HR:=Hi hr
 have HC:=Hi hc
 have q0:(er==0)=false:=by simpa using h0
 clear hr hc h h0
 generalize hL:l.length=L at c0 HC
 clear hL
 go_enter Tryz.func149,Tryz.ntmps149
 go_wp2_with fail
 go_quiet ((go_at_call 156;exact quiet_eq (HC.out _ ⟨_,rfl⟩)))
 go_wp2_with fail
 refine (must_no _ _ _).mono ?_
 rintro e w1 ⟨rfl,rfl⟩
 go_wp2
 exact ⟨rfl,rfl,(Touch.refl (At g) w).drewN nq⟩
theorem byte_ok (g:Nat) (A:Option Addr) (c:Nat) (l:List UInt8) (a x k:Nat) (w:World) (hr:RdAt w g A c l a) (h:rByte l a=.ok (x,k)) :
 Calls Tryz.prog 173 #[.pointer (some ⟨g,0,none⟩)] w fun e w'=>e=.returned (.int .u8 (x:Int))∧RdAt w' g A c l k∧Touch (At g) w w':=by
 obtain ⟨c0,c1,fz⟩:=hr.cells
 have hg:=obj_lt hr.obj
 have ae:=hr.len
 have a0:=hr.room
 unfold rByte at h
 split at h
 case isFalse=>cases h
 rename_i aa
 injection h with h;injection h with h1 h2
 subst h2
 obtain ⟨ad,rfl,ab⟩:=hr.reads.out a aa
 have bb:(ad.add a).block≠g:=by rw [addr_add_block];exact hr.far ad rfl (fun e=>by rw [e] at aa;simp at aa)
 rw [h1] at ab
 have HR:=Hi hr
 have HL:=Hi (show a+1≤l.length by omega)
 clear hr h1
 generalize hL:l.length=L at c0 ae aa a0
 have HX:=Hi hL
 clear hL
 go_enter Tryz.func173,Tryz.ntmps173
 go_wp2_with fail
 go_quiet ((go_at_call 150;exact quiet_eq (must_ok _ _ _)))
 go_wp2_with fail
 obtain ⟨W,hW⟩:∃ W,W=(w.drewN nq).setCell ⟨g,1,none⟩ (.int .i64 ((a:Int)+1)):=⟨_,rfl⟩
 rw [← hW]
 have hR:RdAt W g (some ad) c l (a+1):=by rw [hW];exact (HR.out.drewN nq).put' (a+1) HL.out _ (by omega)
 have hT:Touch (At g) w W:=by rw [hW];exact ((Touch.refl (At g) w).drewN nq).set 1 _
 have bd:=hT.cell ab bb
 obtain ⟨b0,b1,bz⟩:=hR.cells
 have bF:=obj_lt hR.obj
 rw [show ((a+1:Nat):Int)=(a:Int)+1 by omega] at b1
 have bI:=HL.out
 rw [HX.out] at b0
 have bh:=Hi hR
 have HT:=Hi hT
 clear hW hR hT HR ab c0 c1 fz bz hg bI
 have e1:IntKind.i64.wrap (a:Int)=(a:Int):=IntWalk.i64_in _ (by omega)
 go_quiet (fail)
 clear e1
 go_wp2
 go_ret
 exact ⟨rfl,bh.out.drewN _,HT.out.drewN _⟩
theorem must_okB (p:Addr) (b:Bool) (e:Int) (w:World) (hb:b=true) :
 Calls Tryz.prog 150 #[.pointer (some p),.bool b,.int .i64 e] w fun e' w'=>e'=.returned (.tuple #[])∧w=w':=by rw [hb];exact must_ok p e w
theorem must_noB (p:Addr) (b:Bool) (e:Int) (w:World) (hb:b=false) :
 Calls Tryz.prog 150 #[.pointer (some p),.bool b,.int .i64 e] w fun e' w'=>e'=raised e∧w=w':=by rw [hb];exact must_no p e w
theorem byte_no (g:Nat) (A:Option Addr) (c:Nat) (l:List UInt8) (a:Nat) (er:Int) (w:World) (hr:RdAt w g A c l a) (h:rByte l a=.error er) :
 Calls Tryz.prog 173 #[.pointer (some ⟨g,0,none⟩)] w fun e w'=>e=raised er∧Touch (At g) w w':=by
 obtain ⟨c0,c1,fz⟩:=hr.cells
 have hg:=obj_lt hr.obj
 have ae:=hr.len
 unfold rByte at h
 split at h
 case isTrue=>cases h
 rename_i aa
 injection h with h
 subst h
 clear hr
 generalize hL:l.length=L at c0 ae aa
 clear hL
 have h1:L≤a:=by omega
 clear aa
 go_enter Tryz.func173,Tryz.ntmps173
 go_wp2_with fail
 go_region_dies
 all_goals
  refine (must_noB _ _ _ _ (by simp <;> omega)).mono ?_
  rintro e w2 ⟨rfl,rfl⟩
  go_wp2
  exact ⟨rfl,rfl,(Touch.refl (At g) w).drew⟩
theorem bit_ok (g:Nat) (A:Option Addr) (c:Nat) (l:List UInt8) (a x k:Nat) (w:World) (hr:RdAt w g A c l a) (h:rBit l a=.ok (x,k)) :
 Calls Tryz.prog 154 #[.pointer (some ⟨g,0,none⟩)] w fun e w'=>e=.returned (.int .i64 (x:Int))∧RdAt w' g A c l k∧Touch (At g) w w':=by
 unfold rBit at h
 split at h
 · cases h
 rename_i c1 k1 hb
 split at h
 case isFalse=>cases h
 rename_i hx
 injection h with h;injection h with h1 h2
 subst h1 h2
 have HC:=Hi (byte_ok g A c l a c1 k1 w hr hb)
 clear hb hr
 go_enter Tryz.func154,Tryz.ntmps154
 go_wp2_with fail
 refine HC.out.mono ?_
 rintro e w1 ⟨rfl,hR,hT⟩
 have HR:=Hi hR
 have HT:=Hi hT
 clear hR hT HC
 go_wp2_with fail
 refine (must_okB _ _ _ _ (by simp <;> omega)).mono ?_
 rintro e w2 ⟨rfl,rfl⟩
 go_wp2
 go_ret
 exact ⟨rfl,HR.out,HT.out⟩
theorem bit_no (g:Nat) (A:Option Addr) (c:Nat) (l:List UInt8) (a:Nat) (er:Int) (w:World) (hr:RdAt w g A c l a) (h:rBit l a=.error er) :
 Calls Tryz.prog 154 #[.pointer (some ⟨g,0,none⟩)] w fun e w'=>e=raised er∧Touch (At g) w w':=by
 unfold rBit at h
 split at h
 · rename_i e1 hb
   injection h with h
   subst h
   have HC:=Hi (byte_no g A c l a e1 w hr hb)
   clear hb hr
   go_enter Tryz.func154,Tryz.ntmps154
   go_wp2_with fail
   refine HC.out.mono ?_
   rintro e w1 ⟨rfl,hT⟩
   go_wp2
   exact ⟨rfl,rfl,hT⟩
 · rename_i c1 k1 hb
   split at h
   · cases h
   rename_i hx
   injection h with h
   subst h
   have bV:2≤c1:=by omega
   have HC:=Hi (byte_ok g A c l a c1 k1 w hr hb)
   clear hb hr hx
   go_enter Tryz.func154,Tryz.ntmps154
   go_wp2_with fail
   refine HC.out.mono ?_
   rintro e w1 ⟨rfl,hR,hT⟩
   have HT:=Hi hT
   clear hR hT HC
   go_wp2_with fail
   refine (must_noB _ _ _ _ (by simp <;> omega)).mono ?_
   rintro e w2 ⟨rfl,rfl⟩
   go_wp2
   exact ⟨rfl,rfl,HT.out⟩
def rText (most:Nat) (long:Int) (l:List UInt8) (a:Nat):Except Int (List UInt8×Nat):=
 match lebGet l a with
 | .error e=>.error e
 | .ok (n,k)=>if n≤most then (if n≤l.length-k then .ok ((l.drop k).take n,k+n) else .error 30) else .error long
theorem lg_err:∀ (l:List UInt8) (k n:Nat) (e:Int),lg l k n=.error e→e≠0
 | [],k,n,e,h=>by simp [lg] at h;omega
 | c :: l,k,n,e,h=>by
   rw [lg] at h
   split at h
   · injection h with h;omega
   · split at h
     · cases h
     · exact lg_err l _ _ _ h
theorem lebGet_err {l:List UInt8} {a:Nat} {e:Int} (h:lebGet l a=.error e):e≠0:=by
 unfold lebGet at h
 split at h
 · rename_i e1 hl
   injection h with h
   rw [← h]
   exact lg_err _ _ _ _ hl
 · cases h
theorem rText_le {most:Nat} {long:Int} {l t:List UInt8} {a k:Nat} (ha:a≤l.length) (h:rText most long l a=.ok (t,k)):k≤l.length∧t.length≤most:=by
 unfold rText at h
 split at h
 · cases h
 · rename_i n k1 hg
   have:=lebGet_le ha hg
   split at h
   · split at h
     · injection h with h;injection h with h1 h2
       subst h1
       rw [List.length_take]
       omega
     · cases h
   · cases h
theorem text_ok (g:Nat) (A:Option Addr) (c:Nat) (l t:List UInt8) (a k:Nat) (most:Nat) (long:Int) (w:World) (hm:most≤1024) (hr:RdAt w g A c l a) (h:rText most long l a=.ok (t,k)) :
 Calls Tryz.prog 151 #[.pointer (some ⟨g,0,none⟩),.int .i64 (most:Int),.int .i64 long] w fun e w'=>e=.returned (.string (str t))∧RdAt w' g A c l k∧Touch (At g) w w':=by
 have aU:=rText_le hr.within h
 unfold rText at h
 split at h
 · cases h
 rename_i n k1 hg
 split at h
 case isFalse=>cases h
 rename_i hn
 split at h
 case isFalse=>cases h
 rename_i ae
 injection h with h;injection h with h1 h2
 subst h1 h2
 have HC:=Hi (number_ok g A c l a n k1 w hr hg)
 clear hg hr
 have HL:=Hi aU.1
 clear aU
 go_enter Tryz.func151,Tryz.ntmps151
 go_wp2_with fail
 refine HC.out.mono ?_
 rintro e w1 ⟨rfl,hR,hT⟩
 obtain ⟨c0,c1,fz⟩:=hR.cells
 have hg:=obj_lt hR.obj
 have b9:=hR.len
 have a6:=hR.within
 have HR:=Hi hR
 have HT:=Hi hT
 clear hR hT HC
 generalize aZ:l.length=L at c0 b9 ae a6
 have HX:=Hi aZ
 clear aZ
 go_wp2_with fail
 refine (must_okB _ _ _ _ (by simp <;> omega)).mono ?_
 rintro e w2 ⟨rfl,rfl⟩
 go_wp2_with fail
 go_quiet ((go_at_call 150;exact quiet_eq (must_okB _ _ _ _ (by simp <;> omega))))
 go_wp2_with fail
 obtain ⟨W,hW⟩:∃ W,W=(w1.drewN nq).setCell ⟨g,1,none⟩ (.int .i64 ((k1:Int)+(n:Int))):=⟨_,rfl⟩
 rw [← hW]
 have hR:RdAt W g A c l (k1+n):=by rw [hW];exact (HR.out.drewN nq).put' (k1+n) HL.out _ (by omega)
 have hT:Touch (At g) w W:=by rw [hW];exact (HT.out.drewN nq).set 1 _
 obtain ⟨b0,b1,bz⟩:=hR.cells
 have bF:=obj_lt hR.obj
 have a0:=hR.room
 have bM:=hR.cap
 rw [show ((k1+n:Nat):Int)=(k1:Int)+(n:Int) by omega] at b1
 obtain ⟨Z,bQ⟩:∃ Z,(if c=k1 then A else Option.map (fun x=>x.add k1) A)=Z:=⟨_,rfl⟩
 have hz:Reads W Z ((l.drop k1).take n):=by
  have bA:=HL.out
  refine Reads.take (hR.reads.drop_any k1 Z fun aa ad e=>?_) n
  rw [← bQ,if_neg (by omega),e];rfl
 have aQ:∀ m,(convert 31 9 (.slice Z n (c-k1))).run Tryz.prog (W.drewN m)=.ok (.string (str ((l.drop k1).take n))) (W.drewN m):=by
  intro m
  have:=(hz.drewN m).conv (P:=Tryz.prog) 31 9 5 Tryz.underlying31 Tryz.underlying5 Tryz.underlying9 (c-k1)
  rw [show ((l.drop k1).take n).length=n by rw [List.length_take,List.length_drop,HX.out];omega] at this
  exact this
 rw [HX.out] at b0 a0
 have bh:=Hi hR
 have bK:=Hi hT
 clear hW hR hT HR HT c0 c1 fz hg hz
 generalize bv:str ((l.drop k1).take n)=T at aQ
 have bE:=Hi bv
 clear bv
 have e1:IntKind.i64.wrap (k1:Int)=(k1:Int):=IntWalk.i64_in _ (by omega)
 go_quiet (fail)
 clear e1
 go_wp2
 go_ret
 exact ⟨by rw [bE.out];rfl,bh.out.drewN _,bK.out.drewN _⟩
theorem text_no (g:Nat) (A:Option Addr) (c:Nat) (l:List UInt8) (a:Nat) (er:Int) (most:Nat) (long:Int) (w:World) (hm:most≤1024) (hr:RdAt w g A c l a) (h:rText most long l a=.error er) :
 Calls Tryz.prog 151 #[.pointer (some ⟨g,0,none⟩),.int .i64 (most:Int),.int .i64 long] w fun e w'=>e=raised er∧Touch (At g) w w':=by
 unfold rText at h
 split at h
 · rename_i e1 hg
   injection h with h
   subst h
   have HC:=Hi (number_no g A c l a e1 w hr hg (lebGet_err hg))
   clear hg hr
   go_enter Tryz.func151,Tryz.ntmps151
   go_wp2_with fail
   refine HC.out.mono ?_
   rintro e w1 ⟨rfl,hT⟩
   go_wp2
   exact ⟨rfl,rfl,hT⟩
 rename_i n k1 hg
 have bO:=lebGet_num hg
 have HC:=Hi (number_ok g A c l a n k1 w hr hg)
 clear hg
 by_cases hn:n≤most
 · rw [if_pos hn] at h
   split at h
   · cases h
   rename_i ae
   injection h with h
   subst h
   clear hr
   go_enter Tryz.func151,Tryz.ntmps151
   go_wp2_with fail
   refine HC.out.mono ?_
   rintro e w1 ⟨rfl,hR,hT⟩
   obtain ⟨c0,c1,fz⟩:=hR.cells
   have hg:=obj_lt hR.obj
   have b9:=hR.len
   have a6:=hR.within
   have HT:=Hi hT
   clear hR hT HC
   generalize aZ:l.length=L at c0 b9 ae a6
   clear aZ
   go_wp2_with fail
   refine (must_okB _ _ _ _ (by simp <;> omega)).mono ?_
   rintro e w2 ⟨rfl,rfl⟩
   go_wp2_with fail
   have e1:IntKind.i64.wrap (n:Int)=(n:Int):=IntWalk.i64_in _ (by omega)
   have e2:IntKind.i64.wrap ((L:Int)-(k1:Int))=(L:Int)-(k1:Int):=IntWalk.i64_in _ (by omega)
   go_region_dies
   all_goals
    refine (must_noB _ _ _ _ (by simp <;> omega)).mono ?_
    rintro e w2 ⟨rfl,rfl⟩
    go_wp2
    exact ⟨rfl,rfl,HT.out.drew⟩
 · rw [if_neg hn] at h
   injection h with h
   subst h
   clear hr
   go_enter Tryz.func151,Tryz.ntmps151
   go_wp2_with fail
   refine HC.out.mono ?_
   rintro e w1 ⟨rfl,hR,hT⟩
   clear hR HC
   go_wp2_with fail
   refine (must_noB _ _ _ _ (by simp <;> omega)).mono ?_
   rintro e w2 ⟨rfl,rfl⟩
   go_wp2
   exact ⟨rfl,rfl,hT⟩
end
def nameB (i c:Nat):Bool:=decide (97≤c∧c≤122)||(decide (0<i)&&(decide (48≤c∧c≤57)||decide (c=95)))
theorem nameB_true {i c:Nat} (h:(97≤c∧c≤122)∨(0<i∧((48≤c∧c≤57)∨c=95))):nameB i c=true:=by
 simpa only [nameB,Bool.or_eq_true,Bool.and_eq_true,decide_eq_true_eq] using h
theorem nameB_false {i c:Nat} (h:¬((97≤c∧c≤122)∨(0<i∧((48≤c∧c≤57)∨c=95)))):nameB i c=false:=by
 rw [← Bool.not_eq_true]
 simpa only [nameB,Bool.or_eq_true,Bool.and_eq_true,decide_eq_true_eq] using h
def nameTo (s:ByteArray) (n:Nat):Bool:=(List.range n).all fun i=>nameB i (s.get! i).toNat
def nameOk (s:ByteArray):Bool:=decide (0<s.size)&&decide (s.size≤16)&&nameTo s s.size
theorem nameTo_zero (s:ByteArray):nameTo s 0=true:=rfl
theorem nameTo_succ (s:ByteArray) (n:Nat):nameTo s (n+1)=(nameTo s n&&nameB n (s.get! n).toNat):=by
 unfold nameTo
 rw [List.range_succ,List.all_append]
 simp
theorem nameTo_cut {s:ByteArray} {n m:Nat} (h:n≤m) (hf:nameTo s n=false):nameTo s m=false:=by
 unfold nameTo at *
 rw [List.all_eq_false] at *
 obtain ⟨x,hx,hb⟩:=hf
 exact ⟨x,by simp at *;omega,hb⟩
theorem width_pos (s:ByteArray) (pos:Nat) (h:pos<s.size):1≤(Utf8.decode s pos).2:=by
 by_cases ha:(s[pos]'h).toNat<128
 · rw [decode_ascii s pos h ha]
   exact Nat.le_refl _
 · exact (decode_high s pos h (by omega)).2
def utfGo (s:ByteArray):Nat→Nat→Bool
 | 0,_=>true
 | f+1,pos=>if pos<s.size then (if (Utf8.decode s pos).1=65533∧(Utf8.decode s pos).2=1 then false else utfGo s f (pos+(Utf8.decode s pos).2)) else true
def utfOk (s:ByteArray):Bool:=utfGo s s.size 0
theorem utfGo_end (s:ByteArray) (f pos:Nat) (h:¬pos<s.size):utfGo s f pos=true:=by
 cases f with
 | zero=>rfl
 | succ f=>rw [utfGo,if_neg h]
theorem get_out (s:ByteArray) (i:Nat) (h:s.size≤i):s.get! i=default:=by
 show s.data[i]! = default
 rw [getElem!_neg]
 show ¬i<s.size
 omega
theorem get_extract (s:ByteArray) (p i:Nat):(s.extract p s.size).get! i=s.get! (p+i):=by
 by_cases h:p+i<s.size
 · have h1:i<(s.extract p s.size).size:=by rw [ByteArray.size_extract];omega
   have e1:(s.extract p s.size).get! i=(s.extract p s.size)[i]'h1:=get_at _ i h1
   have e2:s.get! (p+i)=s[p+i]'h:=get_at _ _ h
   rw [e1,e2,ByteArray.getElem_extract]
 · rw [get_out s (p+i) (by omega),get_out _ i (by rw [ByteArray.size_extract];omega)]
theorem decode_extract (s:ByteArray) (p:Nat):Utf8.decode (s.extract p s.size) 0=Utf8.decode s p:=by
 have hs:(s.extract p s.size).size=s.size-p:=by rw [ByteArray.size_extract];omega
 simp only [Utf8.decode,get_extract,hs,Nat.zero_add]
 simp only [Nat.add_zero]
 have bR:∀ k,decide (k<s.size-p)=decide (p+k<s.size):=fun k=>by
  rw [decide_eq_decide];omega
 simp only [bR]
section
open Go.RowKit Go.Proofs
theorem str_empty (s:ByteArray) (h:s.size=0):s.toList.isEmpty=true:=by
 rw [ByteArray.toList_eq,List.isEmpty_iff,← List.length_eq_zero_iff];exact h
theorem str_some (s:ByteArray) (h:0<s.size):s.toList.isEmpty=false:=by
 rw [ByteArray.toList_eq,← Bool.not_eq_true,List.isEmpty_iff,← List.length_eq_zero_iff]
 have:s.data.toList.length=s.size:=rfl
 omega
theorem name_calls (s:ByteArray) (w:World) :
 Calls Tryz.prog 99 #[.string s] w fun e w'=>e=.returned (.bool (nameOk s))∧Keeps w w':=by
 have aM:¬(0<s.size∧s.size≤16)→nameOk s=false:=fun h=>by
  unfold nameOk
  by_cases h1:0<s.size
  · have:¬s.size≤16:=fun h2=>h ⟨h1,h2⟩
    simp [this]
  · simp [h1]
 by_cases h0:0<s.size
 · have q0:=str_some s h0
   by_cases h1:s.size≤16
   · have aS:nameOk s=nameTo s s.size:=by unfold nameOk;simp [h0,h1]
     have HY:=Hi aS
     clear aS aM
     go_enter Tryz.func99,Tryz.ntmps99
     go_wp2_with fail
     go_loopw [] (fun wr=>∃ pos:Nat,wr=w.iter s pos∧pos≤s.size∧nameTo s pos=true) (fun wr=>s.size-wr.iterPos w.heap.size)
     case atStart=>exact ⟨0,rfl,by omega,rfl⟩
     case round=>
      obtain ⟨pos,rfl,bW,aX⟩:=hrel
      by_cases hp:pos<s.size
      · have an:=nameTo_succ s pos
        rw [aX,Bool.true_and] at an
        have c6:=Hi aX
        have HS:=Hi an
        clear aX an
        by_cases ha:(s[pos]'hp).toNat<128
        · have au:∀ ty,(Instr.next (.pointer (some ⟨w.heap.size,0,none⟩)) true ty).run Tryz.prog (w.iter s pos)=_:=fun ty=>run_next_ascii w s pos ty hp ha
          have hg:s.get! pos=s[pos]'hp:=get_at s pos hp
          generalize s[pos]'hp=cc at ha au hg
          obtain ⟨x,hx⟩:∃ x,x=cc.toNat:=⟨_,rfl⟩
          rw [← hx] at ha au
          rw [hg,← hx] at HS
          clear hg hx
          obtain ⟨b1,q1⟩:∃ b,decide ((97:Int)≤(x:Int))=b:=⟨_,rfl⟩
          obtain ⟨b2,q2⟩:∃ b,decide ((x:Int)≤122)=b:=⟨_,rfl⟩
          obtain ⟨b3,q3⟩:∃ b,((pos:Int)==0)=b:=⟨_,rfl⟩
          obtain ⟨b4,q4⟩:∃ b,decide ((x:Int)<48)=b:=⟨_,rfl⟩
          obtain ⟨b5,q5⟩:∃ b,decide ((57:Int)<(x:Int))=b:=⟨_,rfl⟩
          obtain ⟨b6,q6⟩:∃ b,((x:Int) != 95)=b:=⟨_,rfl⟩
          cases b1 <;> cases b2 <;> cases b3 <;> cases b4 <;> cases b5 <;> cases b6
          all_goals try (exfalso;simp only [decide_eq_true_eq,decide_eq_false_iff_not,beq_iff_eq,bne_iff_ne,beq_eq_false_iff_ne,bne_eq_false_iff_eq,ne_eq] at q1 q2 q3 q4 q5 q6;omega)
          all_goals go_wp2
          all_goals first
           | (go_ret
              refine ⟨ret_bool ?_,(Keeps.refl w).alloc _⟩
              rw [HY.out]
              refine (nameTo_cut (n:=pos+1) (by omega) ?_).symm
              rw [HS.out]
              simp only [decide_eq_true_eq,decide_eq_false_iff_not,beq_iff_eq,bne_iff_ne,beq_eq_false_iff_ne,bne_eq_false_iff_eq,ne_eq] at q1 q2 q3 q4 q5 q6
              exact nameB_false (by omega))
           | (refine ⟨⟨pos+1,rfl,by omega, ?_⟩,by simp;omega⟩
              rw [HS.out]
              simp only [decide_eq_true_eq,decide_eq_false_iff_not,beq_iff_eq,bne_iff_ne,beq_eq_false_iff_ne,bne_eq_false_iff_eq,ne_eq] at q1 q2 q3 q4 q5 q6
              exact nameB_true (by omega))
        · have au:∀ ty,(Instr.next (.pointer (some ⟨w.heap.size,0,none⟩)) true ty).run Tryz.prog (w.iter s pos)=_:=fun ty=>run_next_any w s pos ty hp
          have hd:=(decode_high s pos hp (by omega)).1
          have hg:s.get! pos=s[pos]'hp:=get_at s pos hp
          rw [hg] at HS
          have av:nameB pos (s[pos]'hp).toNat=false:=nameB_false (by omega)
          have ax:=Hi av
          generalize (Utf8.decode s pos).1=R at hd au
          generalize (Utf8.decode s pos).2=K at au
          clear hg av ha
          have q1:decide ((97:Int)≤(R:Int))=true:=by simp;omega
          have q2:decide ((R:Int)≤122)=false:=by simp;omega
          have q4:decide ((R:Int)<48)=false:=by simp;omega
          have q5:decide ((57:Int)<(R:Int))=true:=by simp;omega
          have q6:((R:Int) != 95)=true:=by simp;omega
          obtain ⟨b3,q3⟩:∃ b,((pos:Int)==0)=b:=⟨_,rfl⟩
          cases b3
          all_goals
           go_wp2
           go_ret
           refine ⟨ret_bool ?_,(Keeps.refl w).alloc _⟩
           rw [HY.out]
           refine (nameTo_cut (n:=pos+1) (by omega) ?_).symm
           rw [HS.out,ax.out]
      · have au:∀ ty,(Instr.next (.pointer (some ⟨w.heap.size,0,none⟩)) true ty).run Tryz.prog (w.iter s pos)=_:=fun ty=>run_next_end w s pos ty hp
        go_wp2
        go_ret
        have e:pos=s.size:=by omega
        subst e
        refine ⟨ret_bool ?_,(Keeps.refl w).alloc _⟩
        rw [HY.out,aX]
   · have HN:=Hi (aM (fun h=>h1 h.2))
     clear aM
     go_enter Tryz.func99,Tryz.ntmps99
     go_wp2
     go_ret
     exact ⟨ret_bool HN.out.symm,Keeps.refl w⟩
 · have q0:=str_empty s (by omega)
   have HN:=Hi (aM (fun h=>h0 h.1))
   clear aM
   go_enter Tryz.func99,Tryz.ntmps99
   go_wp2
   go_ret
   exact ⟨ret_bool HN.out.symm,Keeps.refl w⟩
abbrev Tabs (w:World):Prop:=Lib.Utf8Tabs 3 4 w
theorem Tabs.lt {w:World} (h:Tabs w):3<w.heap.size∧4<w.heap.size:=
 ⟨World.block_lt_of_cell? w _ (h.1 0 (by omega)),World.block_lt_of_cell? w _ (h.2 0 (by omega)).1⟩
theorem Tabs.below {w w':World} (h:Tabs w) (hb:Below w.heap.size w w'):Tabs w':=by
 have hl:=h.lt
 refine ⟨fun c hc=>?_,fun i hi=>⟨?_, ?_⟩⟩
 · rw [hb.cell (p:=⟨_,c,none⟩) hl.1];exact h.1 c hc
 · rw [hb.cell (p:=⟨_,2*i,none⟩) hl.2];exact (h.2 i hi).1
 · rw [hb.cell (p:=⟨_,2*i+1,none⟩) hl.2];exact (h.2 i hi).2
theorem Tabs.touch {F:Nat→Prop} {w w':World} (h:Tabs w) (ht:Touch F w w') (h1:¬F 3) (h2:¬F 4):Tabs w':=
 ⟨fun c hc=>ht.cell (h.1 c hc) h1,fun i hi=>⟨ht.cell (h.2 i hi).1 h2,ht.cell (h.2 i hi).2 h2⟩⟩
theorem Tabs.drewN {w:World} (h:Tabs w) (n:Nat):Tabs (w.drewN n):=h
theorem iterAt_touch (w:World) (k:Nat) (s:ByteArray) (p:Nat):Touch (At k) w (w.iterAt k s p):=
 ⟨rfl,rfl,rfl,by simp [World.iterAt],fun i hi hk=>by
  show (w.heap.setIfInBounds k _)[i]? = _
  rw [Array.getElem?_setIfInBounds_ne (fun e=>hk e.symm)]⟩
theorem iterPos_of {w:World} {k:Nat} {s:ByteArray} {p:Nat} (h:w.heap[k]? = some (.stringIter s p)):w.iterPos k=p:=by
 unfold World.iterPos;rw [h]
theorem utf_calls (s:ByteArray) (w:World) (ht:Tabs w) (hs:s.size≤140737488355328) :
 Calls Tryz.prog 165 #[.string s] w fun e w'=>e=.returned (.bool (utfOk s))∧Keeps w w':=by
 have HT:=Hi ht
 clear ht
 go_enter Tryz.func165,Tryz.ntmps165
 go_wp2_with fail
 go_loopw [] (fun wr=>∃ pos f:Nat,wr.heap[w.heap.size]? = some (.stringIter s pos)∧Keeps w wr∧s.size≤pos+f∧utfOk s=utfGo s f pos) (fun wr=>s.size-wr.iterPos w.heap.size)
 case atStart=>exact ⟨0,s.size,World.iter_heap w s 0,(Keeps.refl w).alloc _,by omega,rfl⟩
 case round=>
  obtain ⟨pos,f,aK,hk,hf,aR⟩:=hrel
  by_cases hp:pos<s.size
  · have au:∀ ty,(Instr.next (.pointer (some ⟨w.heap.size,0,none⟩)) true ty).run Tryz.prog wr=_:=fun ty=>Lib.run_next_any_at wr w.heap.size s pos ty aK hp
    obtain ⟨W1,af⟩:∃ W1,W1=wr.iterAt w.heap.size s (pos+(Utf8.decode s pos).2):=⟨_,rfl⟩
    rw [← af] at au
    have ar:W1.heap[w.heap.size]? = some (.stringIter s (pos+(Utf8.decode s pos).2)):=by rw [af];exact Lib.iterAt_heap wr _ s pos _ aK
    have a6:Keeps w W1:=by
     rw [af]
     exact Touch.nothing (F:=At w.heap.size) (((Touch.of_below hk.below fun k _ h=>by omega)).then (iterAt_touch wr _ s _)) fun k hk h=>by simp only [At] at h;omega
    have bU:=width_pos s pos hp
    have br:=decode_extract s pos
    have aV:=decode_le s pos
    have ay:=iterPos_of aK
    have aq:=iterPos_of ar
    have bm:utfGo s f pos=(if (Utf8.decode s pos).1=65533∧(Utf8.decode s pos).2=1 then false else utfGo s (f-1) (pos+(Utf8.decode s pos).2)):=by
     cases f with
     | zero=>omega
     | succ f=>rw [utfGo,if_pos hp];rfl
    have ag:=Tryz.utf8_DecodeRuneInString (s.extract pos s.size) W1 (HT.out.below a6.below)
    have bs:Lib.decodeGo (s.extract pos s.size)=Utf8.decode s pos:=by
     unfold Lib.decodeGo
     rw [if_neg (by rw [ByteArray.size_extract];omega),br]
    rw [bs] at ag
    obtain ⟨R,hR⟩:∃ R,R=(Utf8.decode s pos).1:=⟨_,rfl⟩
    obtain ⟨K,hK⟩:∃ K,K=(Utf8.decode s pos).2:=⟨_,rfl⟩
    rw [← hR,← hK] at ag bm
    rw [← hR] at au aV
    rw [← hK] at bU aq ar
    have HG:=Hi aR
    have aI:=Hi bm
    have HC:=Hi ag
    have bn:=Hi a6
    have bp:=Hi ar
    have bq:=Hi ay
    have bH:=Hi aq
    have aw:w.heap.size<W1.heap.size:=obj_lt ar
    clear aR bm ag a6 ar ay aq hk aK af bs br hR hK
    by_cases hr:R=65533
    · have bT:((R:Int)==65533)=true:=by simp;omega
      by_cases a6:K=1
      · have q1:((K:Int)==1)=true:=by simp;omega
        have HE:Hid (utfOk s=false):=Hi (by rw [HG.out,aI.out,if_pos ⟨hr,a6⟩])
        clear hr a6 aI HG
        go_wp2_with fail
        refine HC.out.mono ?_
        rintro e w2 ⟨rfl,hb⟩
        have HB:=Hi hb
        clear hb
        go_wp2
        go_ret
        exact ⟨ret_bool HE.out.symm,bn.out.trans HB.out⟩
      · have q1:((K:Int)==1)=false:=by simp;omega
        have HE:Hid (utfOk s=utfGo s (f-1) (pos+K)):=Hi (by rw [HG.out,aI.out,if_neg (fun h=>a6 h.2)])
        clear hr a6 aI HG
        go_wp2_with fail
        refine HC.out.mono ?_
        rintro e w2 ⟨rfl,hb⟩
        have bo:w2.heap[w.heap.size]? = some (.stringIter s (pos+K)):=by rw [hb.block _ aw];exact bp.out
        have HB:=Hi hb
        have bu:=Hi bo
        clear hb bo
        go_wp2
        exact ⟨⟨pos+K,f-1,bu.out,bn.out.trans HB.out,by omega,HE.out⟩,by rw [bq.out,iterPos_of bu.out];omega⟩
    · have bT:((R:Int)==65533)=false:=by simp;omega
      have HE:Hid (utfOk s=utfGo s (f-1) (pos+K)):=Hi (by rw [HG.out,aI.out,if_neg (fun h=>hr h.1)])
      clear hr aI HG
      go_wp2
      exact ⟨⟨pos+K,f-1,bp.out,bn.out,by omega,HE.out⟩,by rw [bq.out,bH.out];omega⟩
  · have au:∀ ty,(Instr.next (.pointer (some ⟨w.heap.size,0,none⟩)) true ty).run Tryz.prog wr=_:=fun ty=>Lib.run_next_end_at wr w.heap.size s pos ty aK hp
    rw [utfGo_end s f pos hp] at aR
    have HG:=Hi aR
    have HK:=Hi hk
    clear aR hk aK
    go_wp2
    go_ret
    exact ⟨ret_bool HG.out.symm,HK.out⟩
end
section
open Go.RowKit
inductive TyS (w:World) (S:Nat→Prop):Value→Ty→Prop
 | mk (k:Int) (A:Option Addr) (c:Nat) (l:List Ty) (vs:Nat→Value) (hn:l.length≤1152921504606846976)
    (h0:∀ i,(h:i<l.length)→∃ ad k' s',A=some ad∧S ad.block∧w.cell? (ad.add (2*i))=some (.int .i64 k')∧w.cell? (ad.add (2*i+1))=some s'∧vs i=.agg #[.int .i64 k',s'])
    (h1:∀ i,(h:i<l.length)→TyS w S (vs i) (l[i]'h)):TyS w S (.agg #[.int .i64 k,.slice A l.length c]) (.mk k l)
theorem TyS.at {w:World} {S:Nat→Prop} {v:Value} {t:Ty} (h:TyS w S v t):TyAt w v t:=by
 induction h with
 | mk k A c l vs hn h0 h1 ih=>
   exact .mk k A c l vs hn (fun i hi=>by obtain ⟨ad,k',s',e,_,c1,c2,hv⟩:=h0 i hi;exact ⟨ad,k',s',e,c1,c2,hv⟩) ih
theorem TyS.mono {w:World} {S S':Nat→Prop} {v:Value} {t:Ty} (h:TyS w S v t) (hS:∀ k,k<w.heap.size→S k→S' k):TyS w S' v t:=by
 induction h with
 | mk k A c l vs hn h0 h1 ih=>
   exact .mk k A c l vs hn (fun i hi=>by
    obtain ⟨ad,k',s',e,hs,c1,c2,hv⟩:=h0 i hi
    have:=World.block_lt_of_cell? w _ c1
    rw [addr_add_block] at this
    exact ⟨ad,k',s',e,hS _ this hs,c1,c2,hv⟩) ih
theorem TyS.touch {F:Nat→Prop} {w w':World} {S:Nat→Prop} {v:Value} {t:Ty} (h:TyS w S v t) (ht:Touch F w w') (hF:∀ k,S k→¬F k):TyS w' S v t:=by
 induction h with
 | mk k A c l vs hn h0 h1 ih=>
   refine .mk k A c l vs hn (fun i hi=>?_) ih
   obtain ⟨ad,k',s',e,hs,c1,c2,hv⟩:=h0 i hi
   exact ⟨ad,k',s',e,hs,ht.cell c1 (by rw [addr_add_block];exact hF _ hs),ht.cell c2 (by rw [addr_add_block];exact hF _ hs),hv⟩
theorem TyS.later {w w':World} {S:Nat→Prop} {v:Value} {t:Ty} (h:TyS w S v t) (hb:Below w.heap.size w w'):TyS w' S v t:=by
 induction h with
 | mk k A c l vs hn h0 h1 ih=>
   refine .mk k A c l vs hn (fun i hi=>?_) ih
   obtain ⟨ad,k',s',e,hs,c1,c2,hv⟩:=h0 i hi
   exact ⟨ad,k',s',e,hs,by rw [hb.cell (World.block_lt_of_cell? w _ c1)];exact c1,by rw [hb.cell (World.block_lt_of_cell? w _ c2)];exact c2,hv⟩
theorem TyS.of_at {w:World} {v:Value} {t:Ty} (h:TyAt w v t):TyS w (fun k=>k<w.heap.size) v t:=by
 induction h with
 | mk k A c l vs hn h0 h1 ih=>
   refine .mk k A c l vs hn (fun i hi=>?_) ih
   obtain ⟨ad,k',s',e,c1,c2,hv⟩:=h0 i hi
   have:=World.block_lt_of_cell? w _ c1
   rw [addr_add_block] at this
   exact ⟨ad,k',s',e,this,c1,c2,hv⟩
theorem TyS.leaf (w:World) (S:Nat→Prop) (k:Int) (A:Option Addr) (c:Nat):TyS w S (.agg #[.int .i64 k,.slice A 0 c]) (.mk k []):=
 .mk k A c [] (fun _=>.nilIface) (by simp) (fun i h=>absurd h (by simp)) (fun i h=>absurd h (by simp))
theorem TyS.form {w:World} {S:Nat→Prop} {v:Value} {t:Ty} (h:TyS w S v t):∃ A c,v=.agg #[.int .i64 t.kind,.slice A t.of.length c]:=h.at.form
theorem TyS.one {w:World} {S:Nat→Prop} {k1:Int} {s1:Value} {t:Ty} (h:TyS w S (.agg #[.int .i64 k1,s1]) t) (k:Int) (ad:Addr) (c:Nat) (hS:S ad.block) (c1:w.cell? (ad.add 0)=some (.int .i64 k1)) (c2:w.cell? (ad.add 1)=some s1) :
 TyS w S (.agg #[.int .i64 k,.slice (some ad) 1 c]) (.mk k [t]):=
 .mk k (some ad) c [t] (fun _=>.agg #[.int .i64 k1,s1]) (by simp) (fun i hi=>by
  have:i=0:=by simpa using hi
  subst this
  exact ⟨ad,k1,s1,rfl,hS,c1,c2,rfl⟩) (fun i hi=>by
  have:i=0:=by simpa using hi
  subst this
  exact h)
inductive VaS (w:World) (S:Nat→Prop):Value→Va→Prop
 | mk (k i:Int) (f:Nat) (t:ByteArray) (A:Option Addr) (c:Nat) (l:List Va) (vs:Nat→Value) (hn:l.length≤1152921504606846976)
    (h0:∀ j,(h:j<l.length)→∃ ad k' i' f' t' s',A=some ad∧S ad.block∧w.cell? (ad.add (5*j))=some (.int .i64 k')∧w.cell? (ad.add (5*j+1))=some (.int .i64 i')∧w.cell? (ad.add (5*j+2))=some (.float .f64 f') ∧
      w.cell? (ad.add (5*j+3))=some (.string t')∧w.cell? (ad.add (5*j+4))=some s'∧vs j=.agg #[.int .i64 k',.int .i64 i',.float .f64 f',.string t',s'])
    (h1:∀ j,(h:j<l.length)→VaS w S (vs j) (l[j]'h)):VaS w S (.agg #[.int .i64 k,.int .i64 i,.float .f64 f,.string t,.slice A l.length c]) (.mk k i f t l)
theorem VaS.at {w:World} {S:Nat→Prop} {v:Value} {t:Va} (h:VaS w S v t):VaAt w v t:=by
 induction h with
 | mk k i f t A c l vs hn h0 h1 ih=>
   exact .mk k i f t A c l vs hn (fun j hj=>by obtain ⟨ad,k',i',f',t',s',e,_,r⟩:=h0 j hj;exact ⟨ad,k',i',f',t',s',e,r⟩) ih
theorem VaS.mono {w:World} {S S':Nat→Prop} {v:Value} {t:Va} (h:VaS w S v t) (hS:∀ k,k<w.heap.size→S k→S' k):VaS w S' v t:=by
 induction h with
 | mk k i f t A c l vs hn h0 h1 ih=>
   exact .mk k i f t A c l vs hn (fun j hj=>by
    obtain ⟨ad,k',i',f',t',s',e,hs,c1,r⟩:=h0 j hj
    have:=World.block_lt_of_cell? w _ c1
    rw [addr_add_block] at this
    exact ⟨ad,k',i',f',t',s',e,hS _ this hs,c1,r⟩) ih
theorem VaS.touch {F:Nat→Prop} {w w':World} {S:Nat→Prop} {v:Value} {t:Va} (h:VaS w S v t) (ht:Touch F w w') (hF:∀ k,S k→¬F k):VaS w' S v t:=by
 induction h with
 | mk k i f t A c l vs hn h0 h1 ih=>
   refine .mk k i f t A c l vs hn (fun j hj=>?_) ih
   obtain ⟨ad,k',i',f',t',s',e,hs,c1,c2,c3,c4,c5,hv⟩:=h0 j hj
   have hk:∀ {i:Nat} {u:Value},w.cell? (ad.add i)=some u→w'.cell? (ad.add i)=some u:=fun hc=>ht.cell hc (by rw [addr_add_block];exact hF _ hs)
   exact ⟨ad,k',i',f',t',s',e,hs,hk c1,hk c2,hk c3,hk c4,hk c5,hv⟩
theorem VaS.later {w w':World} {S:Nat→Prop} {v:Value} {t:Va} (h:VaS w S v t) (hb:Below w.heap.size w w'):VaS w' S v t:=by
 induction h with
 | mk k i f t A c l vs hn h0 h1 ih=>
   refine .mk k i f t A c l vs hn (fun j hj=>?_) ih
   obtain ⟨ad,k',i',f',t',s',e,hs,c1,c2,c3,c4,c5,hv⟩:=h0 j hj
   have hk:∀ {p:Addr} {u:Value},w.cell? p=some u→w'.cell? p=some u:=fun hc=>by rw [hb.cell (World.block_lt_of_cell? w _ hc)];exact hc
   exact ⟨ad,k',i',f',t',s',e,hs,hk c1,hk c2,hk c3,hk c4,hk c5,hv⟩
theorem VaS.of_at {w:World} {v:Value} {t:Va} (h:VaAt w v t):VaS w (fun k=>k<w.heap.size) v t:=by
 induction h with
 | mk k i f t A c l vs hn h0 h1 ih=>
   refine .mk k i f t A c l vs hn (fun j hj=>?_) ih
   obtain ⟨ad,k',i',f',t',s',e,c1,r⟩:=h0 j hj
   have:=World.block_lt_of_cell? w _ c1
   rw [addr_add_block] at this
   exact ⟨ad,k',i',f',t',s',e,this,c1,r⟩
theorem VaS.leaf (w:World) (S:Nat→Prop) (k i:Int) (f:Nat) (t:ByteArray) (A:Option Addr) (c:Nat):VaS w S (.agg #[.int .i64 k,.int .i64 i,.float .f64 f,.string t,.slice A 0 c]) (.mk k i f t []):=
 .mk k i f t A c [] (fun _=>.nilIface) (by simp) (fun i h=>absurd h (by simp)) (fun i h=>absurd h (by simp))
theorem VaS.form {w:World} {S:Nat→Prop} {v:Value} {t:Va} (h:VaS w S v t):∃ A c,v=.agg #[.int .i64 t.kind,.int .i64 t.int,.float .f64 t.fl,.string t.text,.slice A t.items.length c]:=h.at.form
def Items (w:World) (S:Nat→Prop) (xs:List Value) (l:List Va):Prop:=
 xs.length=5*l.length∧∀ j,(h:j<l.length)→∃ k i f t s,xs[5*j]? = some (.int .i64 k)∧xs[5*j+1]? = some (.int .i64 i)∧xs[5*j+2]? = some (.float .f64 f)∧xs[5*j+3]? = some (.string t)∧xs[5*j+4]? = some s ∧
  VaS w S (.agg #[.int .i64 k,.int .i64 i,.float .f64 f,.string t,s]) (l[j]'h)
theorem Items.nil (w:World) (S:Nat→Prop):Items w S [] []:=⟨rfl,fun j h=>absurd h (by simp)⟩
theorem Items.mono {w:World} {S S':Nat→Prop} {xs:List Value} {l:List Va} (h:Items w S xs l) (hS:∀ k,k<w.heap.size→S k→S' k):Items w S' xs l:=
 ⟨h.1,fun j hj=>by obtain ⟨k,i,f,t,s,a1,a2,a3,a4,a5,hv⟩:=h.2 j hj;exact ⟨k,i,f,t,s,a1,a2,a3,a4,a5,hv.mono hS⟩⟩
theorem Items.touch {F:Nat→Prop} {w w':World} {S:Nat→Prop} {xs:List Value} {l:List Va} (h:Items w S xs l) (ht:Touch F w w') (hF:∀ k,S k→¬F k):Items w' S xs l:=
 ⟨h.1,fun j hj=>by obtain ⟨k,i,f,t,s,a1,a2,a3,a4,a5,hv⟩:=h.2 j hj;exact ⟨k,i,f,t,s,a1,a2,a3,a4,a5,hv.touch ht hF⟩⟩
theorem Items.below {w w':World} {S:Nat→Prop} {xs:List Value} {l:List Va} (h:Items w S xs l) (hb:Below w.heap.size w w'):Items w' S xs l:=
 ⟨h.1,fun j hj=>by obtain ⟨k,i,f,t,s,a1,a2,a3,a4,a5,hv⟩:=h.2 j hj;exact ⟨k,i,f,t,s,a1,a2,a3,a4,a5,hv.later hb⟩⟩
theorem Items.snoc {w:World} {S:Nat→Prop} {xs:List Value} {l:List Va} (h:Items w S xs l) {k i:Int} {f:Nat} {t:ByteArray} {s:Value} {v:Va} (hv:VaS w S (.agg #[.int .i64 k,.int .i64 i,.float .f64 f,.string t,s]) v) :
 Items w S (xs++[.int .i64 k,.int .i64 i,.float .f64 f,.string t,s]) (l++[v]):=by
 refine ⟨by rw [List.length_append,List.length_append,h.1];simp;omega,fun j hj=>?_⟩
 by_cases aa:j<l.length
 · obtain ⟨k',i',f',t',s',a1,a2,a3,a4,a5,bG⟩:=h.2 j aa
   have hl:=h.1
   refine ⟨k',i',f',t',s', ?_, ?_, ?_, ?_, ?_,by rw [List.getElem_append_left aa];exact bG⟩
   all_goals rw [List.getElem?_append_left (by omega)];assumption
 · have e:j=l.length:=by rw [List.length_append] at hj;simp at hj;omega
   subst e
   refine ⟨k,i,f,t,s, ?_, ?_, ?_, ?_, ?_,by rw [List.getElem_append_right (by omega)];simpa using hv⟩
   all_goals
    rw [List.getElem?_append_right (by rw [h.1];omega),h.1]
   · simp
   · rw [show 5*l.length+1-5*l.length=1 by omega];rfl
   · rw [show 5*l.length+2-5*l.length=2 by omega];rfl
   · rw [show 5*l.length+3-5*l.length=3 by omega];rfl
   · rw [show 5*l.length+4-5*l.length=4 by omega];rfl
theorem VaS.of_items {w:World} {S:Nat→Prop} {A:Option Addr} {xs:List Value} {l:List Va} (hr:RowAt w A xs) (h:Items w S xs l) (hS:∀ a,A=some a→l≠[]→S a.block) (hn:l.length≤1152921504606846976) (k i:Int) (f:Nat) (t:ByteArray) (c:Nat) :
 VaS w S (.agg #[.int .i64 k,.int .i64 i,.float .f64 f,.string t,.slice A l.length c]) (.mk k i f t l):=by
 refine .mk k i f t A c l (fun j=>.agg #[xs.getD (5*j) undef,xs.getD (5*j+1) undef,xs.getD (5*j+2) undef,xs.getD (5*j+3) undef,xs.getD (5*j+4) undef]) hn (fun j hj=>?_) (fun j hj=>?_)
 · obtain ⟨k',i',f',t',s',a1,a2,a3,a4,a5,hv⟩:=h.2 j hj
   obtain ⟨ad,e,b1⟩:=hr _ _ a1
   subst e
   have hb:∀ {n:Nat} {u:Value},xs[n]? = some u→w.cell? (ad.add n)=some u:=fun hx=>by
    obtain ⟨ad',e,hc⟩:=hr _ _ hx
    cases e
    exact hc
   refine ⟨ad,k',i',f',t',s',rfl,hS ad rfl (fun e=>by rw [e] at hj;simp at hj),hb a1,hb a2,hb a3,hb a4,hb a5, ?_⟩
   simp only [List.getD_eq_getElem?_getD,a1,a2,a3,a4,a5,Option.getD_some]
 · obtain ⟨k',i',f',t',s',a1,a2,a3,a4,a5,hv⟩:=h.2 j hj
   simp only [List.getD_eq_getElem?_getD,a1,a2,a3,a4,a5,Option.getD_some]
   exact hv
end
end Go.Proofs.YtihodcnnappkbaaGreatDoor
