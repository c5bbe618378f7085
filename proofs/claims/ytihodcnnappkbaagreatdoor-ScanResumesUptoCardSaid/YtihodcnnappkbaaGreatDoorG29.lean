/-
  The walk of the reference's large. Condition: the numbers read. A walk that goes on from an index's entry: plain. No condition. The walk of scan.Resume. Condition: the index's entries and the schema read; the tables are as laid. The walk of the reference's Resume. Condition: the index's entries and the schema read; the tables are as laid. The walk of the law ScanResumes. Condition: the arguments read; the tables are as laid.
-/
import Derived.Test.YtihodcnnappkbaaGreatDoorG15
import Derived.Test.YtihodcnnappkbaaGreatDoorG26
import Derived.Test.YtihodcnnappkbaaGreatDoorG24
import Derived.Test.YtihodcnnappkbaaGreatDoorG14
import Derived.BigRegion
import Derived.Test.YtihodcnnappkbaaGreatDoorG22
import Derived.Test.YtihodcnnappkbaaGreatDoorG27
import Derived.Test.YtihodcnnappkbaaGreatDoorG19
set_option linter.unusedVariables false
set_option linter.unusedSimpArgs false
set_option maxHeartbeats 8000000
set_option maxRecDepth 40000
namespace Go.Proofs.YtihodcnnappkbaaGreatDoor
section
open Go.RowKit Go.BigFrame
theorem refLarge_calls (A:Option Addr) (c:Nat) (l:List Int) (w:World) (hl:l.length≤1000000) (hr:RowAt w A (i64s l)) :
 Calls Tryz.prog 70 #[.slice A l.length c] w fun e w'=>e=.returned (.bool (!l.any (outOf 1099511627776)))∧Keeps w w':=by
 obtain ⟨R,hR⟩:∃ R,R=(!l.any (outOf 1099511627776)):=⟨_,rfl⟩
 rw [← hR]
 have H0:Hid (R = !(l.drop 0).any (outOf 1099511627776)):=Hi (by simpa using hR)
 have HR:=Hi hr
 clear hr hR
 generalize hN:l.length=N at *
 have HN:=Hi hN
 clear hN
 go_enter Tryz.func70,Tryz.ntmps70
 go_wp2_with fail
 go_loopw [7] (fun i wr=>∃ j:Nat,j≤N∧i=.int .i64 (j:Int)∧(R = !(l.drop j).any (outOf 1099511627776))∧Keeps w wr) (fun i _=>N-(intOf i).toNat)
 case atStart=>exact ⟨0,by omega,rfl,H0.out,Keeps.refl w⟩
 case round=>
  obtain ⟨j,hj,rfl,a0,a9⟩:=hrel
  by_cases an:j<N
  · have d9:j<l.length:=by rw [HN.out];exact an
    obtain ⟨ad,rfl,hc⟩:=row_i64 (HR.out.below a9.below) j d9
    rw [List.drop_eq_getElem_cons d9,List.any_cons] at a0
    generalize l[j]'d9=x at hc a0
    have bh:(j:Int)<(N:Int):=by omega
    have dB:(0:Int)≤(j:Int):=by omega
    unfold outOf at a0
    by_cases h1:x<0
    · have aG:R=false:=by rw [a0];simp [h1]
      have HK:=Hi a9
      have cn:=Hi aG
      clear a0 a9 H0 aG
      go_wp2
      go_ret
      exact ⟨by rw [cn.out];rfl,HK.out⟩
    · by_cases h2:1099511627776≤x
      · have aG:R=false:=by rw [a0];simp [h2]
        have HK:=Hi a9
        have cn:=Hi aG
        clear a0 a9 H0 aG
        go_wp2
        go_ret
        exact ⟨by rw [cn.out];rfl,HK.out⟩
      · have aG:R = !(l.drop (j+1)).any (outOf 1099511627776):=by
         rw [a0]
         simp only [h1,h2,decide_false,Bool.or_self,Bool.false_or]
         rfl
        have c5:=Hi aG
        have HK:=Hi a9
        clear a0 a9 H0 aG
        go_wp2
        exact ⟨⟨j+1,by omega,by go_num,c5.out,HK.out⟩,by simp [intOf];omega⟩
  · have bh:¬(j:Int)<(N:Int):=by omega
    have hd:l.drop j=[]:=by rw [List.drop_eq_nil_iff,HN.out];omega
    rw [hd] at a0
    have aG:R=true:=a0
    have HK:=Hi a9
    have cn:=Hi aG
    clear a0 a9 H0 hd aG
    go_wp2
    go_ret
    exact ⟨by rw [cn.out];rfl,HK.out⟩
def entOk (e:Ent):Bool:=!([e.spot,e.row,e.sch].any (outOf 1099511627776))
def resOk (es:List Ent) (kk nn:Int) (cols:List Col):Prop:=
 0≤kk∧kk<(es.length:Int)∧0≤nn∧nn<2147483648∧schCheck cols=0∧∀ i (h:i<es.length),(i:Int)≤kk→entOk (es[i]'h)=true
def resK (es:List Ent) (K:Nat) (e:Ent) (nn:Int) (cols:List Col):Wk:=⟨(K:Int)*4,e.row,nn,0,[nn],[(copyC cols,e.sch)],es.take K,false⟩
def resF (nn:Int) (cols:List Col):Fr:={ frZero with kind:=1,number:=nn,cols:=cols }
def resR (es:List Ent) (K:Nat) (e:Ent) (nn:Int) (cols:List Col):Rk:=⟨[],4*(K:Int),e.row,es.take K,[(resF nn cols,e.sch)]⟩
theorem entOk_low {e:Ent} (h:entOk e=true):(0≤e.spot∧e.spot<1099511627776)∧(0≤e.row∧e.row<1099511627776)∧0≤e.sch∧e.sch<1099511627776:=by
 unfold entOk outOf at h
 simp at h
 omega
theorem res_twin {es:List Ent} {K:Nat} {e:Ent} {nn:Int} {cols:List Col} (he:entOk e=true) (hn:0≤nn∧nn<2147483648) (hc:schCheck cols=0) (hw:∀ c∈cols,c.dflt.wf) (hK:K≤1048576):Twin (resK es K e nn cols) (resR es K e nn cols):=by
 obtain ⟨_,h2,_⟩:=entOk_low he
 obtain ⟨_,hs,_,dZ,dY⟩:=copyC_ok hc hw
 have bb:∀ n,(resK es K e nn cols).at n=if n=nn then some (copyC cols,e.sch) else none:=fun n=>by
  unfold Wk.at resK
  simp only [keyPos]
  by_cases h:n=nn
  · rw [if_pos h,if_pos h];rfl
  · rw [if_neg h,if_neg h];rfl
 have bK:(resR es K e nn cols).schemas=[(resF nn cols,e.sch)]:=by unfold Rk.schemas resR;rfl
 have di:(resR es K e nn cols).number=nn:=by
  unfold Rk.number
  rw [bK]
  show (if (-1:Int)<(resF nn cols).number then (resF nn cols).number else -1)=nn
  show (if (-1:Int)<nn then nn else -1)=nn
  rw [if_pos (by omega)]
 refine ⟨⟨rfl, ?_, ?_,rfl,di, ?_,fun h=>?_,rfl,fun n=>?_,fun n=>?_,fun n h=>?_,fun _=>?_⟩,⟨⟨by show -1≤nn;omega,hn.2⟩, ?_, ?_, ?_, ?_,fun x hx=>?_⟩,fun x hx=>?_,⟨?_, ?_,fun p hp=>by cases hp⟩⟩
 · show (⟨es.take K,4*(K:Int),e.row,e.sch⟩:Es)=⟨es.take K,(K:Int)*4,e.row,placeOf ((resK es K e nn cols).at nn)⟩
   rw [bb,if_pos rfl,Int.mul_comm]
   rfl
 · show 4*(K:Int)=(K:Int)*4
   omega
 · show ((0:Int),decide (0<1))=(0,decide (0≤nn))
   simp [hn.1]
 · rfl
 · unfold Rk.place
   rw [bK,bb]
   show (if (resF nn cols).number=n then (e.sch,true) else (0,false))=_
   show (if nn=n then (e.sch,true) else (0,false))=_
   by_cases h:n=nn
   · rw [if_pos h.symm,if_pos h];rfl
   · rw [if_neg (fun q=>h q.symm),if_neg h];rfl
 · unfold Rk.schema
   rw [bK,bb]
   show (if nn=n then some cols else none).isSome=_∧sameCols _ (colsIn (if nn=n then some cols else none))=true
   by_cases h:n=nn
   · rw [if_pos h.symm,if_pos h];exact ⟨rfl,hs⟩
   · rw [if_neg (fun q=>h q.symm),if_neg h];exact ⟨rfl,rfl⟩
 · rw [bb] at h
   by_cases q:n=nn
   · subst q;exact ⟨hn.1,Int.le_refl _⟩
   · rw [if_neg q] at h;cases h
 · show ((resK es K e nn cols).at nn).isSome=true
   rw [bb,if_pos rfl];rfl
 · show 0≤(K:Int)*4∧(K:Int)*4≤1099511627776
   omega
 · show (0:Int)≤0∧(0:Int)≤(K:Int)*4
   omega
 · show 0≤e.row∧e.row≤1099511627840
   omega
 · show (es.take K).length≤1048576
   rw [List.length_take]
   omega
 · have de:x=(copyC cols,e.sch):=List.mem_singleton.1 hx
   subst de
   exact ⟨dY,schCheck_names dZ⟩
 · have de:x=(copyC cols,e.sch):=List.mem_singleton.1 hx
   subst de
   exact ⟨dZ,dY⟩
 · show 0≤4*(K:Int)∧4*(K:Int)≤1125899906842624
   omega
 · show 0≤e.row∧e.row≤1125899906842624
   omega
end
section
open Go.RowKit Go.BigFrame
attribute [local go_sem] run_storeF
def ResPost (w:World) (es:List Ent) (kk nn:Int) (cols:List Col) (e:Ending) (w':World):Prop:=
 (¬resOk es kk nn cols∧e=.returned (.pointer none)∧Keeps w w') ∨
 ∃ (K:Nat) (x:Ent) (gw:Nat),resOk es kk nn cols∧kk=(K:Int)∧es[K]? = some x∧e=.returned (.pointer (some ⟨gw,0,none⟩))∧w.heap.size≤gw∧WkV w' (fun j=>w.heap.size≤j) gw (resK es K x nn cols)∧Keeps w w'
theorem entCells_append (a b:List Ent):entCells (a++b)=entCells a++entCells b:=by simp [entCells]
theorem row_take {w:World} {A:Option Addr} {es:List Ent} (K:Nat) (h:RowAt w A (entCells es)):RowAt w A (entCells (es.take K)):=fun i v hv=>by
 have e:entCells es=entCells (es.take K)++entCells (es.drop K):=by rw [← entCells_append,List.take_append_drop]
 refine h i v ?_
 rw [e,List.getElem?_append_left (List.getElem?_eq_some_iff.1 hv).1]
 exact hv
theorem resume_calls (E:Option Addr) (m:Nat) (x0 x1 x2:Int) (es:List Ent) (kk nn:Int) (A:Option Addr) (c:Nat) (cols:List Col) (w:World) (hE:RowAt w E (entCells es)) (hm:es.length≤m) (bn:es.length≤1048576) (hs:SchS w (fun b=>b<w.heap.size) A cols) (hw:∀ x∈cols,x.dflt.wf) (bN:∀ x∈cols,x.name.size≤140737488355328) (aA:Tabs w) :
 Calls Tryz.prog 24 #[.agg #[.int .i64 x0,.int .i64 x1,.int .i64 x2,.slice E es.length m],.int .i64 kk,.agg #[.int .i64 nn,.slice A cols.length c]] w (ResPost w es kk nn cols):=by
 obtain ⟨W1,a4⟩:∃ W1,W1=(w.alloc (.cells #[.int .i64 x0,.int .i64 x1,.int .i64 x2,.slice E es.length m] 34)).alloc (.cells #[.int .i64 nn,.slice A cols.length c] 56):=⟨_,rfl⟩
 have a6:Keeps w W1:=by rw [a4];exact ((Keeps.refl w).alloc _).alloc _
 have al:W1.heap[w.heap.size]? = some (.cells #[.int .i64 x0,.int .i64 x1,.int .i64 x2,.slice E es.length m] 34 (0,0)):=by rw [a4];exact obj_old (obj_new w _) _
 have aP:W1.heap[w.heap.size+1]? = some (.cells #[.int .i64 nn,.slice A cols.length c] 56 (0,0)):=by rw [a4];exact obj_new_at _ _ _ (by simp)
 have cc:¬resOk es kk nn cols→∀ w',Keeps w w'→ResPost w es kk nn cols (.returned (.pointer none)) w':=fun h w' hk=>.inl ⟨h,rfl,hk⟩
 have ce:=check_calls A c cols W1 ((hs.later a6.below).mono fun b hb _=>hb) hw bN (aA.below a6.below)
 have bz:=Hi cc
 have az:=Hi ce
 have ap:=Hi a6
 have aL:=Hi al
 have aJ:=Hi aP
 have HE:=Hi hE
 have HS:=Hi hs
 have HW:=Hi hw
 have ee:=Hi bN
 have bM:=Hi aA
 obtain ⟨n,hn⟩:∃ n,n=es.length:=⟨_,rfl⟩
 obtain ⟨NC,aU⟩:∃ NC,NC=cols.length:=⟨_,rfl⟩
 obtain ⟨ck,aj⟩:∃ ck,ck=schCheck cols:=⟨_,rfl⟩
 rw [← hn] at hm bn aL a4 ⊢
 rw [← aU] at az aJ a4 ⊢
 rw [← aj] at az
 have bg:Hid (¬(0≤kk∧kk<(n:Int)∧0≤nn∧nn<2147483648∧ck=0)→¬resOk es kk nn cols):=Hi fun h q=>h ⟨q.1,by rw [hn];exact q.2.1,q.2.2.1,q.2.2.2.1,by rw [aj];exact q.2.2.2.2.1⟩
 have HN:=Hi hn
 have cz:=Hi aU
 have aQ:=Hi aj
 have aH:=aL.out
 have c9:=aJ.out
 obtain ⟨i0,i1,i2,i3⟩:W1.cell? ⟨w.heap.size,0,none⟩=some (.int .i64 x0)∧W1.cell? ⟨w.heap.size,1,none⟩=some (.int .i64 x1)∧W1.cell? ⟨w.heap.size,2,none⟩=some (.int .i64 x2)∧W1.cell? ⟨w.heap.size,3,none⟩=some (.slice E n m):=
  ⟨by rw [obj_cell aH];rfl,by rw [obj_cell aH];rfl,by rw [obj_cell aH];rfl,by rw [obj_cell aH];rfl⟩
 obtain ⟨y0,y1,y2,y3⟩:=cells2 c9
 clear a6 al aP cc ce hE hs hw bN aA hn aU aj aH c9
 by_cases a1:0≤kk∧kk<(n:Int)∧0≤nn∧nn<2147483648
 case neg=>
  have a2:=Hi (bz.out (bg.out fun h=>a1 ⟨h.1,h.2.1,h.2.2.1,h.2.2.2.1⟩))
  have a6:=ap.out
  by_cases p1:kk<0
  · clear a1
    rw [a4] at *
    clear a4
    go_enter Tryz.func24,Tryz.ntmps24
    go_wp2
    go_ret
    exact a2.out _ a6
  · by_cases p2:(n:Int)≤kk
    · clear a1
      rw [a4] at *
      clear a4
      go_enter Tryz.func24,Tryz.ntmps24
      go_wp2
      go_ret
      exact a2.out _ a6
    · by_cases p3:nn<0
      · clear a1
        rw [a4] at *
        clear a4
        go_enter Tryz.func24,Tryz.ntmps24
        go_wp2
        go_ret
        exact a2.out _ a6
      · have p4:2147483648≤nn:=by omega
        clear a1
        rw [a4] at *
        clear a4
        go_enter Tryz.func24,Tryz.ntmps24
        go_wp2
        go_ret
        exact a2.out _ a6
 case pos=>
 obtain ⟨g1,g2,g3,g4⟩:=a1
 obtain ⟨K,rfl⟩:=Int.eq_ofNat_of_zero_le g1
 have p1:¬(K:Int)<0:=by omega
 have p2:¬(n:Int)≤(K:Int):=by omega
 have p3:¬nn<0:=by omega
 have p4:¬ 2147483648≤nn:=by omega
 have dx:IntKind.i64.wrap ((K:Int)+1)=(K:Int)+1:=IntWalk.i64_in _ (by omega)
 have dv:IntKind.i64.wrap ((K:Int)*4)=(K:Int)*4:=IntWalk.i64_in _ (by omega)
 have q0:(0:Int)≤(K:Int)+1:=by omega
 have q1:(K:Int)+1≤(m:Int):=by omega
 have q2:K+1≤m:=by omega
 have q3:(K:Int)≤(m:Int):=by omega
 have q4:K≤m:=by omega
 have q5:K<n:=by omega
 have q6:(0:Int)≤(K:Int):=by omega
 by_cases hc:ck=0
 case neg=>
  have a2:=Hi (bz.out (bg.out fun h=>hc h.2.2.2.2))
  have q7:(ck != 0)=true:=by simpa using hc
  clear hc
  go_enter Tryz.func24,Tryz.ntmps24
  go_wp2_with fail
  rw [← a4]
  refine az.out.mono ?_
  rintro e w2 ⟨rfl,ac⟩
  go_wp2
  go_ret
  exact a2.out _ (ap.out.trans ac)
 case pos=>
 have c6:schCheck cols=0:=by rw [← aQ.out];exact hc
 have dk:=Hi c6
 clear c6
 rw [hc] at az
 clear hc bg aQ
 go_enter Tryz.func24,Tryz.ntmps24
 go_wp2_with fail
 rw [← a4]
 clear a4
 refine az.out.mono ?_
 rintro e w2 ⟨rfl,ac⟩
 have am:=Hi (ap.out.trans ac)
 have ae:=(ac.below.block _ (obj_lt aL.out)).trans aL.out
 have aC:=(ac.below.block _ (obj_lt aJ.out)).trans aJ.out
 clear i0 i1 i2 i3 y0 y1 y2 y3
 have i3:w2.cell? ⟨w.heap.size,3,none⟩=some (.slice E n m):=by rw [obj_cell ae];rfl
 have bw:=Hi ae
 have bL:=Hi aC
 clear ac ae aC az ap aL aJ
 go_wp2_with fail
 clear i3
 go_loopw [42] (fun i wr=>∃ j:Nat,j≤K+1∧i=.int .i64 (j:Int)∧(∀ q (h:q<es.length),q<j→entOk (es[q]'h)=true)∧Keeps w2 wr) (fun i _=>K+1-(intOf i).toNat)
 case atStart=>exact ⟨0,by omega,rfl,fun q _ h=>by omega,Keeps.refl _⟩
 case round=>
  obtain ⟨j,hj,rfl,ah,a9⟩:=hrel
  have aa:=am.out.trans a9
  by_cases an:j<K+1
  · obtain ⟨ad,rfl,c0,c1,c2⟩:=row_ent (HE.out.below aa.below) j (by rw [← HN.out];omega)
    obtain ⟨x,hx⟩:∃ x,es[j]? = some x:=⟨_,List.getElem?_eq_getElem (by rw [← HN.out];omega)⟩
    have av:es[j]'(by rw [← HN.out];omega)=x:=by
     have h:=List.getElem?_eq_getElem (l:=es) (i:=j) (by rw [← HN.out];omega)
     rw [hx] at h
     injection h with h
     exact h.symm
    rw [av] at c0 c1 c2
    have bh:(j:Int)<(K:Int)+1:=by omega
    have dB:(0:Int)≤(j:Int):=by omega
    obtain ⟨W3,b3⟩:∃ W3,W3=(wr.alloc (.cells #[.int .i64 x.spot,.int .i64 x.row,.int .i64 x.sch] 78)).alloc (.cells #[.int .i64 x.spot,.int .i64 x.row,.int .i64 x.sch] 2):=⟨_,rfl⟩
    have aB:Keeps wr W3:=by rw [b3];exact ((Keeps.refl wr).alloc _).alloc _
    have cw:Calls Tryz.prog 41 #[.slice (some ⟨wr.heap.size+1,0,none⟩) 3 3] W3 fun e w'=>e=.returned (.bool (entOk x))∧Keeps W3 w':=
     large_calls (some ⟨wr.heap.size+1,0,none⟩) 3 [x.spot,x.row,x.sch] W3 (by simp) (by rw [b3];exact RowAt.new_at _ _ _ _ _ rfl _ (by simp))
    have cN:=Hi cw
    have bv:=Hi ah
    have bX:=Hi (a9.trans aB)
    have bP:=Hi av
    clear cw ah a9 aa aB hx av
    generalize bc:entOk x=ok at *
    have cx:=Hi bc
    clear bc
    go_wp2_with fail
    rw [← b3]
    clear b3
    refine cN.out.mono ?_
    rintro e w4 ⟨rfl,aw⟩
    cases ok with
    | true=>
      have c8:∀ q (h:q<es.length),q<j+1→entOk (es[q]'h)=true:=fun q h hq=>by
       by_cases e:q=j
       · subst e;rw [bP.out];exact cx.out
       · exact bv.out q h (by omega)
      have d7:=Hi c8
      clear c8
      go_wp2
      exact ⟨⟨j+1,by omega,by go_num,d7.out,bX.out.trans aw⟩,by simp [intOf];omega⟩
    | false=>
      have aT:¬resOk es (K:Int) nn cols:=fun h=>by
       have h1:=h.2.2.2.2.2 j (by rw [← HN.out];omega) (by omega)
       rw [bP.out,cx.out] at h1
       cases h1
      have a2:=Hi (bz.out aT _ (am.out.trans (bX.out.trans aw)))
      clear aT
      go_wp2
      go_ret
      exact a2.out
  · have bh:¬(j:Int)<(K:Int)+1:=by omega
    have a0:resOk es (K:Int) nn cols:=⟨g1,by rw [← HN.out];exact g2,g3,g4,dk.out,fun q h hq=>ah q h (by omega)⟩
    obtain ⟨ad,bI,c0,c1,c2⟩:=row_ent (HE.out.below aa.below) K (by rw [← HN.out];omega)
    obtain ⟨x,hx⟩:∃ x,es[K]? = some x:=⟨_,List.getElem?_eq_getElem (by rw [← HN.out];omega)⟩
    have av:es[K]'(by rw [← HN.out];omega)=x:=by
     have h:=List.getElem?_eq_getElem (l:=es) (i:=K) (by rw [← HN.out];omega)
     rw [hx] at h
     injection h with h
     exact h.symm
    rw [av] at c0 c1 c2
    have c5:=Hi (HE.out.below aa.below)
    subst bI
    have b6:=(a9.below.block _ (obj_lt bw.out)).trans bw.out
    have bD:=(a9.below.block _ (obj_lt bL.out)).trans bL.out
    have i3:wr.cell? ⟨w.heap.size,3,none⟩=some (.slice (some ad) n m):=by rw [obj_cell b6];rfl
    have ai:=Hi a0
    have HX:=Hi hx
    have dg:=Hi aa
    obtain ⟨W9,aN⟩:∃ W9,W9=wr.alloc (.cells #[.int .i64 x.spot,.int .i64 x.row,.int .i64 x.sch] 78):=⟨_,rfl⟩
    have b5:Keeps wr W9:=by rw [aN];exact (Keeps.refl wr).alloc _
    have bQ:W9.heap[wr.heap.size]? = some (.cells #[.int .i64 x.spot,.int .i64 x.row,.int .i64 x.sch] 78 (0,0)):=by rw [aN];exact obj_new wr _
    have cf:=(b5.below.block _ (obj_lt b6)).trans b6
    have cy:=(b5.below.block _ (obj_lt bD)).trans bD
    have aK:=Hi bQ
    have b9:=Hi cf
    have aY:=Hi cy
    have bd:=Hi (aa.trans b5)
    have cA:(K:Int)<(n:Int):=g2
    obtain ⟨⟨e1,e2,e3⟩,du⟩:∃ y,y=x:=⟨_,rfl⟩
    subst du
    simp only at aN c0 c1 c2 aK
    have em:=dg.out.size
    clear ah a9 aa a0 hx av b6 bD b5 bQ cf cy bw bL am
    go_wp2_with fail
    rw [← aN]
    clear aN c0 c1 c2 i3
    refine (scanNew_calls W9).mono ?_
    rintro e w10 ⟨gw,rfl,dQ,ds,a3⟩
    obtain ⟨b,E0,cE,b1,_,dK,b2,_,_⟩:=ds
    have a7:=(a3.below.block _ (obj_lt aK.out)).trans aK.out
    have ao:=(a3.below.block _ (obj_lt b9.out)).trans b9.out
    have af:=(a3.below.block _ (obj_lt aY.out)).trans aY.out
    have eo:=obj_lt aK.out
    have eB:=obj_lt aY.out
    have eG:=obj_lt b1
    have eF:=b2.lt
    have eH:=b2.self.1
    obtain ⟨d0,d1,d2,d3,d4,d5,d6,fz⟩:=wk_cells b1
    obtain ⟨y0,y1,y2,y3⟩:=cells2 af
    have xx1:w10.cell? ⟨wr.heap.size,1,none⟩=some (.int .i64 e2):=by rw [obj_cell a7];rfl
    obtain ⟨W11,b4⟩:∃ W11,W11=(((w10.setCell ⟨gw,0,none⟩ (.int .i64 ((K:Int)*4))).setCell ⟨gw,1,none⟩ (.int .i64 e2)).setCell ⟨gw,2,none⟩ (.int .i64 nn)).drew:=⟨_,rfl⟩
    have aq:Touch (At gw) w10 W11:=by rw [b4];exact ((((Touch.refl (At gw) w10).set 0 _).set 1 _).set 2 _).drew
    have aS:W11.heap[gw]? = some (.cells #[.int .i64 ((K:Int)*4),.int .i64 e2,.int .i64 nn,.int .i64 0,.map (some b),.slice E0 0 cE,.bool false] 82 (0,0)):=by
     rw [b4]
     exact (show (((w10.setCell ⟨gw,0,none⟩ (.int .i64 ((K:Int)*4))).setCell ⟨gw,1,none⟩ (.int .i64 e2)).setCell ⟨gw,2,none⟩ (.int .i64 nn)).heap[gw]? = _ from obj_set (obj_set (obj_set b1 0 (.int .i64 ((K:Int)*4))) 1 (.int .i64 e2)) 2 (.int .i64 nn))
    have aF:=aq.obj a7 (by show wr.heap.size≠gw;omega)
    have cu:=aq.obj ao (by show w.heap.size≠gw;omega)
    have aE:=aq.obj af (by show w.heap.size+1≠gw;omega)
    have ci:MapS W11 (fun j=>(w.heap.size≤j∧j≠gw)∧j<W11.heap.size) b [] []:=((b2.touch aq fun j hj e=>hj.2.1 e).mono fun j hj h=>⟨⟨by have:=h.1;omega,h.2.1⟩,hj⟩)
    have ay:Keeps w W11:=new_keeps (g:=gw) (bd.out.trans a3) aq (by omega)
    have cG:=copied_calls A c cols W11.drew (((HS.out.later ay.below).later (Keeps.drew W11).below).mono fun j hj h=>Nat.lt_of_lt_of_le h ay.size) HW.out ee.out fun w' cm=>bM.out.below (ay.trans ((Keeps.drew W11).trans cm)).below
    rw [← cz.out] at cG
    obtain ⟨CC,cW⟩:∃ CC,CC=copyC cols:=⟨_,rfl⟩
    rw [← cW] at cG
    have e9:=Hi cW
    have eh:=Hi cG
    have bq:=Hi aS
    have bH:=Hi aF
    have cg:=Hi cu
    have bC:=Hi aE
    have dh:=Hi ci
    have cO:=Hi ay
    have e7:=aq.size
    have cd:=row_take K (HE.out.below ay.below)
    have ef:=Hi cd
    clear b1 b2 a7 ao af aq aS aF cu aE ci ay cG cW a3 cd c5
    go_wp2_with fail
    go_region
    go_wp2_with fail
    rw [← b4]
    clear b4 d0 d1 d2 d3 d4 d5 d6 fz y0 y1 y2 y3 xx1
    have aS:=bq.out
    have aE:=bC.out
    have aF:=bH.out
    obtain ⟨d0,d1,d2,d3,d4,d5,d6,fz⟩:=wk_cells aS
    obtain ⟨y0,y1,y2,y3⟩:=cells2 aE
    have xx2:W11.cell? ⟨wr.heap.size,2,none⟩=some (.int .i64 e3):=by rw [obj_cell aF];rfl
    clear aS aE aF
    refine wp_region_held_drew (S:=fun w'=>w'.cell? ⟨gw,4,none⟩=some (.map (some b))∧w'.cell? ⟨w.heap.size+1,0,none⟩=some (.int .i64 nn)∧w'.cell? ⟨w.heap.size+1,1,none⟩=some (.slice A NC c)∧w'.cell? ⟨wr.heap.size,2,none⟩=some (.int .i64 e3)) (by kernel_rfl) ?_ (fun hHeld=>?_)
    · (try dsimp only);(refine ⟨?_, ?_, ?_, ?_⟩ <;> first | assumption | go_keep)
    refine takeH 0 (v:=?_) rfl (by kernel_rfl) (by kernel_rfl) (by kernel_rfl) (fun _ _ _ h=>h) (Or.inl ⟨by first | kernel_rfl | rfl, ?_⟩) (by assumption) ?_
    rotate_left
    · (intro w h;(try dsimp only at h);go_simp;try with_reducible rfl)
    try simp only [Act.put,sT,sZ,sS]
    refine takeH 1 (v:=?_) rfl (by kernel_rfl) (by kernel_rfl) (by kernel_rfl) (fun _ _ _ h=>h) (Or.inl ⟨by first | kernel_rfl | rfl, ?_⟩) (by assumption) ?_
    rotate_left
    · (intro w h;(try dsimp only at h);go_simp;try with_reducible rfl)
    try simp only [Act.put,sT,sZ,sS]
    refine takeH 2 (v:=?_) rfl (by kernel_rfl) (by kernel_rfl) (by kernel_rfl) (fun _ _ _ h=>h) (Or.inl ⟨by first | kernel_rfl | rfl, ?_⟩) (by assumption) ?_
    rotate_left
    · (intro w h;(try dsimp only at h);go_simp;try with_reducible rfl)
    try simp only [Act.put,sT,sZ,sS]
    refine takeH 3 (v:=?_) rfl (by kernel_rfl) (by kernel_rfl) (by kernel_rfl) (fun _ _ _ h=>h) (Or.inl ⟨by first | kernel_rfl | rfl, ?_⟩) (by assumption) ?_
    rotate_left
    · (intro w h;(try dsimp only at h);go_simp;try with_reducible rfl)
    try simp only [Act.put,sT,sZ,sS]
    refine takeH 4 (v:=?_) rfl (by kernel_rfl) (by kernel_rfl) (by kernel_rfl) (fun _ _ _ h=>h) (Or.inl ⟨by first | kernel_rfl | rfl, ?_⟩) (by assumption) ?_
    rotate_left
    · (intro w h;(try dsimp only at h);go_simp;try with_reducible rfl)
    try simp only [Act.put,sT,sZ,sS]
    refine takeH 5 (v:=?_) rfl (by kernel_rfl) (by kernel_rfl) (by kernel_rfl) (fun _ _ _ h=>h) (Or.inl ⟨by first | kernel_rfl | rfl, ?_⟩) (by assumption) ?_
    rotate_left
    · (intro w h;(try dsimp only at h);go_simp;try with_reducible rfl)
    try simp only [Act.put,sT,sZ,sS]
    refine takeH 6 (v:=?_) rfl (by kernel_rfl) (by kernel_rfl) (by kernel_rfl) (fun _ _ _ h=>h) (Or.inl ⟨by first | kernel_rfl | rfl, ?_⟩) (by assumption) ?_
    rotate_left
    · (intro w h;(try dsimp only at h);go_simp;try with_reducible rfl)
    try simp only [Act.put,sT,sZ,sS]
    refine takeH 7 (v:=?_) rfl (by kernel_rfl) (by kernel_rfl) (by kernel_rfl) (fun _ _ _ h=>h) (Or.inl ⟨by first | kernel_rfl | rfl, ?_⟩) (by assumption) ?_
    rotate_left
    · (intro w h;(try dsimp only at h);go_simp;try with_reducible rfl)
    try simp only [Act.put,sT,sZ,sS]
    refine takeH 9 (v:=?_) rfl (by kernel_rfl) (by kernel_rfl) (by kernel_rfl) (fun _ _ _ h=>h) (Or.inl ⟨by first | kernel_rfl | rfl, ?_⟩) (by assumption) ?_
    rotate_left
    · (intro w h;(try dsimp only at h);go_simp;try with_reducible rfl)
    try simp only [Act.put,sT,sZ,sS]
    refine takeH 10 (v:=?_) rfl (by kernel_rfl) (by kernel_rfl) (by kernel_rfl) (fun _ _ _ h=>h) (Or.inl ⟨by first | kernel_rfl | rfl, ?_⟩) (by assumption) ?_
    rotate_left
    · (intro w h;(try dsimp only at h);go_simp;try with_reducible rfl)
    try simp only [Act.put,sT,sZ,sS]
    refine nextH 8 (by kernel_rfl) rfl (fun K hK=>?_)
    go_simp
    (try go_at_call 43)
    refine eh.out.mono ?_
    rintro e w12 ⟨A12,c12,rfl,ca,cq⟩
    have a5:Keeps W11 w12:=(Keeps.drew W11).trans cq
    have br:=(a5.below.block _ (obj_lt bq.out)).trans bq.out
    have bx:=(a5.below.block _ (obj_lt bC.out)).trans bC.out
    have bA:=(a5.below.block _ (obj_lt bH.out)).trans bH.out
    have cp:=(a5.below.block _ (obj_lt cg.out)).trans cg.out
    have cl:MapS w12 (fun j=>w.heap.size≤j∧j≠gw) b [] []:=(dh.out.touch (F:=fun j=>W11.heap.size≤j) (Touch.of_below a5.below fun j _ h=>h) fun j hj h=>by have:=hj.2;omega).mono fun j _ h=>h.1
    obtain ⟨w13,cS,ax,df,bZ⟩:=cl.put nn (.agg #[.slice A12 CC.length c12,.int .i64 e3]) (CC,e3) ⟨A12,c12,rfl,ca.mono fun j _ h=>by
     have h':W11.heap.size≤j:=h
     exact ⟨⟨by omega,by omega⟩,by omega⟩⟩
    have bB:=ax.obj br (fun e=>dK e.symm)
    have bU:=ax.obj bx (fun e=>by rw [At] at e;omega)
    have ct:=ax.obj bA (fun e=>by rw [At] at e;omega)
    have cj:=ax.obj cp (fun e=>by rw [At] at e;omega)
    obtain ⟨u0,u1,u2,u3,u4,u5,u6,ufz⟩:=wk_cells br
    obtain ⟨s0,s1,s2,s3⟩:=cells2 bx
    have s4:w12.cell? ⟨wr.heap.size,2,none⟩=some (.int .i64 e3):=by rw [obj_cell bA];rfl
    obtain ⟨v0,v1,v2,v3,v4,v5,v6,vfz⟩:=wk_cells bB
    obtain ⟨t0,t1,t2,t3⟩:=cells2 bU
    have t4:w13.cell? ⟨wr.heap.size,2,none⟩=some (.int .i64 e3):=by rw [obj_cell ct];rfl
    have bf:=Hi bB
    have dl:=Hi cj
    have cT:=Hi bZ
    have dq:=Hi a5
    have cR:=Hi ax
    clear ca cq a5 br bx bA cp cl ax bZ bB bU ct cj df
    refine hK.out _ _ ?_ (fun hHeld=>?_)
    · (try dsimp only);(refine ⟨?_, ?_, ?_, ?_⟩ <;> first | assumption | go_keep)
    clear hK K
    try simp only [Act.put,sT,sZ,sS]
    refine takeH 11 (v:=?_) rfl (by kernel_rfl) (by kernel_rfl) (by kernel_rfl) (fun _ _ _ h=>h) (Or.inl ⟨by first | kernel_rfl | rfl, ?_⟩) (by assumption) ?_
    rotate_left
    · (intro w h;(try dsimp only at h);go_simp;try with_reducible rfl)
    try simp only [Act.put,sT,sZ,sS]
    refine nextH 12 (by kernel_rfl) rfl (fun K hK=>?_)
    go_simp
    refine hK.out _ _ ?_ (fun hHeld=>?_)
    · (try dsimp only);(refine ⟨?_, ?_, ?_, ?_⟩ <;> first | assumption | go_keep)
    clear hK K
    try simp only [Act.put,sT,sZ,sS]
    refine wpAnyH_done (by kernel_rfl) ?_ _
    obtain ⟨z0,z1,z2,z3,z4,z5,z6,zfz⟩:=wk_cells bf.out
    have zi:w13.cell? ⟨w.heap.size,3,none⟩=some (.slice (some ad) n m):=by rw [obj_cell dl.out];rfl
    clear d0 d1 d2 d3 d4 d5 d6 fz y0 y1 y2 y3 xx2 u0 u1 u2 u3 u4 u5 u6 ufz s0 s1 s2 s3 s4 v0 v1 v2 v3 v4 v5 v6 vfz t0 t1 t2 t3 t4
    have bj:Keeps w w13:=new_keeps (g:=b) (cO.out.trans dq.out) cR.out (by omega)
    have bi:=Hi bj
    have a8:(es.take K).length=K:=by rw [List.length_take,← HN.out];omega
    have bT:(entCells (es.take K)).length=K*3:=by rw [entCells_length,a8];omega
    have cK:=Hi bT
    have aV:=Hi a8
    have db:=Hi (row_take K (HE.out.below bj.below))
    have c3:=obj_lt bf.out
    clear bj a8 bT cS
    go_wp2_with (at_builtin;refine wpList_append_rows w.heap.size (by rfl) _ _ 32 78 (.agg #[.int .i64 0,.int .i64 0,.int .i64 0]) 3 24 (by rfl) Tryz.underlying32 info_entry rfl (by omega) (.slice none 0 0) 0 [] (by rfl) (Loose.empty _ _ _ _ _) (some ad) K m (entCells (es.take K)) (by rfl) cK.out db.out (entCells_one _) (by simp only [maxLen];omega) (by omega) bi.out.size ?_)
    intro v14 w14 bm be ba
    obtain ⟨E14,c14,rfl,_⟩:=bm.form
    have bo:Keeps w13 w14:=Touch.nothing (F:=fun _=>False) (Touch.of_grown be fun k hk=>by simp [blk] at hk) fun _ _ h=>h
    have aW:=(bo.below.block _ c3).trans bf.out
    obtain ⟨o0,o1,o2,o3,o4,o5,o6,ofz⟩:=wk_cells aW
    have cr:∀ j,blk (.slice E14 K c14)=some j→w13.heap.size≤j:=fun j hj=>by
     rcases ba with h | h
     · rw [h] at hj;simp [blk] at hj
     · rw [h] at hj;injection hj with hj;omega
    have dD:=Hi bm
    have dw:=Hi aW
    have c4:=Hi bo
    have dT:=Hi cr
    have dJ:=obj_lt aW
    clear bm be ba bo aW cr z0 z1 z2 z3 z4 z5 z6 zfz zi
    go_wp2
    go_ret
    obtain ⟨W15,bG⟩:∃ W15,W15=w14.setCell ⟨gw,5,none⟩ (.slice E14 K c14):=⟨_,rfl⟩
    have bE:Touch (At gw) w14 W15:=by rw [bG];exact (Touch.refl _ w14).set 5 _
    have dm:W15.heap[gw]? = some (.cells #[.int .i64 ((K:Int)*4),.int .i64 e2,.int .i64 nn,.int .i64 0,.map (some b),.slice E14 K c14,.bool false] 82 (0,0)):=by rw [bG];exact obj_set dw.out 5 _
    have cb:MapS w13 (fun j=>w.heap.size≤j∧j≠gw) b [nn] [(CC,e3)]:=cT.out
    have dC:=((cb.mono (T:=fun j=>(w.heap.size≤j∧j≠gw)∧j<w13.heap.size) fun j hj h=>⟨h,hj⟩).touch (F:=fun j=>j=gw∨w13.heap.size≤j) ((Touch.of_below c4.out.below fun j hj h=>.inr h).then (bE.mono fun j _ e=>.inl e)) fun j hj hF=>hF.elim (fun e=>hj.1.2 e) fun e=>by have:=hj.2;omega)
    have dt:=dD.out.keep bE fun j hj e=>by have:=dT.out j hj;rw [At] at e;omega
    have cr:=dT.out
    have et:Keeps w W15:=new_keeps (bi.out.trans c4.out) bE (by omega)
    rw [← bG]
    refine .inr ⟨K,⟨e1,e2,e3⟩,gw,ai.out,rfl,HX.out,rfl,by omega,⟨b,E14,c14, ?_,by omega,dK, ?_, ?_, ?_⟩,et⟩
    · show W15.heap[gw]? = some (.cells #[.int .i64 ((K:Int)*4),.int .i64 e2,.int .i64 nn,.int .i64 0,.map (some b),.slice E14 (es.take K).length c14,.bool false] 82 (0,0))
      rw [aV.out]
      exact dm
    · show MapS W15 (fun j=>w.heap.size≤j∧j≠gw∧blk (.slice E14 (es.take K).length c14)≠some j) b [nn] [(copyC cols,e3)]
      rw [aV.out,← e9.out]
      exact dC.mono fun j _ h=>⟨h.1.1,h.1.2,fun e=>by have:=cr j e;have:=h.2;omega⟩
    · show Loose W15 0 78 3 (.slice E14 (es.take K).length c14) (es.take K).length (entCells (es.take K))
      rw [aV.out]
      exact dt.lower 0 (Nat.zero_le _)
    · show ∀ j,blk (.slice E14 (es.take K).length c14)=some j→w.heap.size≤j
      rw [aV.out]
      intro j hj
      have:=cr j hj
      have:=bi.out.size
      omega
def RResPost (w:World) (B:Nat) (es:List Ent) (kk nn:Int) (cols:List Col) (e:Ending) (w':World):Prop:=
 (¬resOk es kk nn cols∧e=.returned (.pointer none)∧Keeps w w') ∨
 ∃ (K:Nat) (x:Ent) (gr:Nat),resOk es kk nn cols∧kk=(K:Int)∧es[K]? = some x∧e=.returned (.pointer (some ⟨gr,0,none⟩))∧w.heap.size≤gr∧RkV w' (fun b=>b<B∨w.heap.size≤b) gr (resR es K x nn cols)∧Keeps w w'
theorem row_lt' {w:World} {A:Option Addr} {xs:List Value} (h:RowAt w A xs) (hn:xs≠[]):∀ a,A=some a→a.block<w.heap.size:=fun a e=>by
 cases xs with
 | nil=>exact absurd rfl hn
 | cons v xs=>
   obtain ⟨ad,e1,hc⟩:=h 0 v rfl
   rw [e] at e1
   cases e1
   have:=World.block_lt_of_cell? w _ hc
   rwa [addr_add_block] at this
theorem row_lt {w:World} {b:Nat} {v:Value} {xs:List Value} (h:RowAt w (some ⟨b,0,none⟩) (v :: xs)):b<w.heap.size:=row_lt' h (by simp) _ rfl
theorem ents_nil {l:List Ent} (h:entCells l=[]):l=[]:=List.eq_nil_of_length_eq_zero (by have h2:=congrArg List.length h;rw [entCells_length] at h2;have h3:3*l.length=0:=h2;omega)
theorem refResume_calls (E:Option Addr) (m:Nat) (x0 x1 x2:Int) (es:List Ent) (kk nn:Int) (A:Option Addr) (c:Nat) (cols:List Col) (w:World) (hE:RowAt w E (entCells es)) (hm:es.length≤m) (bn:es.length≤1048576) (B:Nat) (hB:B≤w.heap.size) (hs:SchS w (fun b=>b<B) A cols) (hw:∀ x∈cols,x.dflt.wf) (ak:cols.length≤c) (aA:Tabs w) :
 Calls Tryz.prog 25 #[.agg #[.int .i64 x0,.int .i64 x1,.int .i64 x2,.slice E es.length m],.int .i64 kk,.agg #[.int .i64 nn,.slice A cols.length c]] w (RResPost w B es kk nn cols):=by
 obtain ⟨W1,a4⟩:∃ W1,W1=(w.alloc (.cells #[.int .i64 x0,.int .i64 x1,.int .i64 x2,.slice E es.length m] 34)).alloc (.cells #[.int .i64 nn,.slice A cols.length c] 56):=⟨_,rfl⟩
 have a6:Keeps w W1:=by rw [a4];exact ((Keeps.refl w).alloc _).alloc _
 have al:W1.heap[w.heap.size]? = some (.cells #[.int .i64 x0,.int .i64 x1,.int .i64 x2,.slice E es.length m] 34 (0,0)):=by rw [a4];exact obj_old (obj_new w _) _
 have aP:W1.heap[w.heap.size+1]? = some (.cells #[.int .i64 nn,.slice A cols.length c] 56 (0,0)):=by rw [a4];exact obj_new_at _ _ _ (by simp)
 have cc:¬resOk es kk nn cols→∀ w',Keeps w w'→RResPost w B es kk nn cols (.returned (.pointer none)) w':=fun h w' hk=>.inl ⟨h,rfl,hk⟩
 have ce:=refCheck_calls A c cols W1 ak ((hs.later a6.below).mono fun b hb h=>Nat.lt_of_lt_of_le (Nat.lt_of_lt_of_le h hB) a6.size) hw (aA.below a6.below)
 have bz:=Hi cc
 have az:=Hi ce
 have ap:=Hi a6
 have aL:=Hi al
 have aJ:=Hi aP
 have HE:=Hi hE
 have HS:=Hi hs
 have HW:=Hi hw
 have bM:=Hi aA
 obtain ⟨n,hn⟩:∃ n,n=es.length:=⟨_,rfl⟩
 obtain ⟨NC,aU⟩:∃ NC,NC=cols.length:=⟨_,rfl⟩
 obtain ⟨ck,aj⟩:∃ ck,ck=schCheck cols:=⟨_,rfl⟩
 rw [← hn] at hm bn aL a4 ⊢
 rw [← aU] at az aJ a4 ⊢
 rw [← aj] at az
 have bg:Hid (¬(0≤kk∧kk<(n:Int)∧0≤nn∧nn<2147483648∧ck=0)→¬resOk es kk nn cols):=Hi fun h q=>h ⟨q.1,by rw [hn];exact q.2.1,q.2.2.1,q.2.2.2.1,by rw [aj];exact q.2.2.2.2.1⟩
 have HN:=Hi hn
 have cz:=Hi aU
 have aQ:=Hi aj
 have aH:=aL.out
 have c9:=aJ.out
 obtain ⟨i0,i1,i2,i3⟩:W1.cell? ⟨w.heap.size,0,none⟩=some (.int .i64 x0)∧W1.cell? ⟨w.heap.size,1,none⟩=some (.int .i64 x1)∧W1.cell? ⟨w.heap.size,2,none⟩=some (.int .i64 x2)∧W1.cell? ⟨w.heap.size,3,none⟩=some (.slice E n m):=
  ⟨by rw [obj_cell aH];rfl,by rw [obj_cell aH];rfl,by rw [obj_cell aH];rfl,by rw [obj_cell aH];rfl⟩
 obtain ⟨y0,y1,y2,y3⟩:=cells2 c9
 clear a6 al aP cc ce hE hs hw ak aA hn aU aj aH c9
 by_cases a1:0≤kk∧kk<(n:Int)∧0≤nn∧nn<2147483648
 case neg=>
  have a2:=Hi (bz.out (bg.out fun h=>a1 ⟨h.1,h.2.1,h.2.2.1,h.2.2.2.1⟩))
  have a6:=ap.out
  by_cases p1:kk<0
  · clear a1
    rw [a4] at *
    clear a4
    go_enter Tryz.func25,Tryz.ntmps25
    go_wp2
    go_ret
    exact a2.out _ a6
  · by_cases p2:(n:Int)≤kk
    · clear a1
      rw [a4] at *
      clear a4
      go_enter Tryz.func25,Tryz.ntmps25
      go_wp2
      go_ret
      exact a2.out _ a6
    · by_cases p3:nn<0
      · clear a1
        rw [a4] at *
        clear a4
        go_enter Tryz.func25,Tryz.ntmps25
        go_wp2
        go_ret
        exact a2.out _ a6
      · have p4:2147483648≤nn:=by omega
        clear a1
        rw [a4] at *
        clear a4
        go_enter Tryz.func25,Tryz.ntmps25
        go_wp2
        go_ret
        exact a2.out _ a6
 case pos=>
 obtain ⟨g1,g2,g3,g4⟩:=a1
 obtain ⟨K,rfl⟩:=Int.eq_ofNat_of_zero_le g1
 have p1:¬(K:Int)<0:=by omega
 have p2:¬(n:Int)≤(K:Int):=by omega
 have p3:¬nn<0:=by omega
 have p4:¬ 2147483648≤nn:=by omega
 have dx:IntKind.i64.wrap ((K:Int)+1)=(K:Int)+1:=IntWalk.i64_in _ (by omega)
 have dv:IntKind.i64.wrap (4*(K:Int))=4*(K:Int):=IntWalk.i64_in _ (by omega)
 have q0:(0:Int)≤(K:Int)+1:=by omega
 have q1:(K:Int)+1≤(m:Int):=by omega
 have q2:K+1≤m:=by omega
 have q3:(K:Int)≤(m:Int):=by omega
 have q4:K≤m:=by omega
 have q5:K<n:=by omega
 have q6:(0:Int)≤(K:Int):=by omega
 by_cases hc:ck=0
 case neg=>
  have a2:=Hi (bz.out (bg.out fun h=>hc h.2.2.2.2))
  have q7:(ck != 0)=true:=by simpa using hc
  clear hc
  go_enter Tryz.func25,Tryz.ntmps25
  go_wp2_with fail
  rw [← a4]
  refine az.out.mono ?_
  rintro e w2 ⟨rfl,ac⟩
  go_wp2
  go_ret
  exact a2.out _ (ap.out.trans ac)
 case pos=>
 have c6:schCheck cols=0:=by rw [← aQ.out];exact hc
 have dk:=Hi c6
 clear c6
 rw [hc] at az
 clear hc bg aQ
 go_enter Tryz.func25,Tryz.ntmps25
 go_wp2_with fail
 rw [← a4]
 clear a4
 refine az.out.mono ?_
 rintro e w2 ⟨rfl,ac⟩
 have am:=Hi (ap.out.trans ac)
 have ae:=(ac.below.block _ (obj_lt aL.out)).trans aL.out
 have aC:=(ac.below.block _ (obj_lt aJ.out)).trans aJ.out
 clear i0 i1 i2 i3 y0 y1 y2 y3
 have i3:w2.cell? ⟨w.heap.size,3,none⟩=some (.slice E n m):=by rw [obj_cell ae];rfl
 have bw:=Hi ae
 have bL:=Hi aC
 clear ac ae aC az ap aL aJ
 go_wp2_with fail
 clear i3
 go_loopw [41] (fun i wr=>∃ j:Nat,j≤K+1∧i=.int .i64 (j:Int)∧(∀ q (h:q<es.length),q<j→entOk (es[q]'h)=true)∧Keeps w2 wr) (fun i _=>K+1-(intOf i).toNat)
 case atStart=>exact ⟨0,by omega,rfl,fun q _ h=>by omega,Keeps.refl _⟩
 case round=>
  obtain ⟨j,hj,rfl,ah,a9⟩:=hrel
  have aa:=am.out.trans a9
  by_cases an:j<K+1
  · obtain ⟨ad,rfl,c0,c1,c2⟩:=row_ent (HE.out.below aa.below) j (by rw [← HN.out];omega)
    obtain ⟨x,hx⟩:∃ x,es[j]? = some x:=⟨_,List.getElem?_eq_getElem (by rw [← HN.out];omega)⟩
    have av:es[j]'(by rw [← HN.out];omega)=x:=by
     have h:=List.getElem?_eq_getElem (l:=es) (i:=j) (by rw [← HN.out];omega)
     rw [hx] at h
     injection h with h
     exact h.symm
    rw [av] at c0 c1 c2
    have bh:(j:Int)<(K:Int)+1:=by omega
    have dB:(0:Int)≤(j:Int):=by omega
    obtain ⟨W3,b3⟩:∃ W3,W3=(wr.alloc (.cells #[.int .i64 x.spot,.int .i64 x.row,.int .i64 x.sch] 78)).alloc (.cells #[.int .i64 x.spot,.int .i64 x.row,.int .i64 x.sch] 2):=⟨_,rfl⟩
    have aB:Keeps wr W3:=by rw [b3];exact ((Keeps.refl wr).alloc _).alloc _
    have cw:Calls Tryz.prog 70 #[.slice (some ⟨wr.heap.size+1,0,none⟩) 3 3] W3 fun e w'=>e=.returned (.bool (entOk x))∧Keeps W3 w':=
     refLarge_calls (some ⟨wr.heap.size+1,0,none⟩) 3 [x.spot,x.row,x.sch] W3 (by simp) (by rw [b3];exact RowAt.new_at _ _ _ _ _ rfl _ (by simp))
    have cN:=Hi cw
    have bv:=Hi ah
    have bX:=Hi (a9.trans aB)
    have bP:=Hi av
    clear cw ah a9 aa aB hx av
    generalize bc:entOk x=ok at *
    have cx:=Hi bc
    clear bc
    go_wp2_with fail
    rw [← b3]
    clear b3
    refine cN.out.mono ?_
    rintro e w4 ⟨rfl,aw⟩
    cases ok with
    | true=>
      have c8:∀ q (h:q<es.length),q<j+1→entOk (es[q]'h)=true:=fun q h hq=>by
       by_cases e:q=j
       · subst e;rw [bP.out];exact cx.out
       · exact bv.out q h (by omega)
      have d7:=Hi c8
      clear c8
      go_wp2
      exact ⟨⟨j+1,by omega,by go_num,d7.out,bX.out.trans aw⟩,by simp [intOf];omega⟩
    | false=>
      have aT:¬resOk es (K:Int) nn cols:=fun h=>by
       have h1:=h.2.2.2.2.2 j (by rw [← HN.out];omega) (by omega)
       rw [bP.out,cx.out] at h1
       cases h1
      have a2:=Hi (bz.out aT _ (am.out.trans (bX.out.trans aw)))
      clear aT
      go_wp2
      go_ret
      exact a2.out
  · have bh:¬(j:Int)<(K:Int)+1:=by omega
    have a0:resOk es (K:Int) nn cols:=⟨g1,by rw [← HN.out];exact g2,g3,g4,dk.out,fun q h hq=>ah q h (by omega)⟩
    obtain ⟨ad,bI,c0,c1,c2⟩:=row_ent (HE.out.below aa.below) K (by rw [← HN.out];omega)
    obtain ⟨x,hx⟩:∃ x,es[K]? = some x:=⟨_,List.getElem?_eq_getElem (by rw [← HN.out];omega)⟩
    have av:es[K]'(by rw [← HN.out];omega)=x:=by
     have h:=List.getElem?_eq_getElem (l:=es) (i:=K) (by rw [← HN.out];omega)
     rw [hx] at h
     injection h with h
     exact h.symm
    rw [av] at c0 c1 c2
    have c5:=Hi (HE.out.below aa.below)
    subst bI
    have b6:=(a9.below.block _ (obj_lt bw.out)).trans bw.out
    have bD:=(a9.below.block _ (obj_lt bL.out)).trans bL.out
    have i3:wr.cell? ⟨w.heap.size,3,none⟩=some (.slice (some ad) n m):=by rw [obj_cell b6];rfl
    have ai:=Hi a0
    have HX:=Hi hx
    have dg:=Hi aa
    obtain ⟨W9,aN⟩:∃ W9,W9=wr.alloc (.cells #[.int .i64 x.spot,.int .i64 x.row,.int .i64 x.sch] 78):=⟨_,rfl⟩
    have b5:Keeps wr W9:=by rw [aN];exact (Keeps.refl wr).alloc _
    have bQ:W9.heap[wr.heap.size]? = some (.cells #[.int .i64 x.spot,.int .i64 x.row,.int .i64 x.sch] 78 (0,0)):=by rw [aN];exact obj_new wr _
    have cf:=(b5.below.block _ (obj_lt b6)).trans b6
    have cy:=(b5.below.block _ (obj_lt bD)).trans bD
    have aK:=Hi bQ
    have b9:=Hi cf
    have aY:=Hi cy
    have bd:=Hi (aa.trans b5)
    have cA:(K:Int)<(n:Int):=g2
    obtain ⟨⟨e1,e2,e3⟩,du⟩:∃ y,y=x:=⟨_,rfl⟩
    subst du
    simp only at aN c0 c1 c2 aK
    have em:=dg.out.size
    clear ah a9 aa a0 hx av b6 bD b5 bQ cf cy bw bL am
    go_wp2_with fail
    rw [← aN]
    clear aN c0 c1 c2 i3
    have aZ:=aK.out
    have bt:=aY.out
    have bl:=b9.out
    obtain ⟨y0,y1,y2,y3⟩:=cells2 bt
    have i9:W9.cell? ⟨w.heap.size,3,none⟩=some (.slice (some ad) n m):=by rw [obj_cell bl];rfl
    have xx1:W9.cell? ⟨wr.heap.size,1,none⟩=some (.int .i64 e2):=by rw [obj_cell aZ];rfl
    have xx2:W9.cell? ⟨wr.heap.size,2,none⟩=some (.int .i64 e3):=by rw [obj_cell aZ];rfl
    have a8:(es.take K).length=K:=by rw [List.length_take,← HN.out];omega
    have bT:(entCells (es.take K)).length=K*3:=by rw [entCells_length,a8];omega
    have cK:=Hi bT
    have aV:=Hi a8
    have dL:=Hi (row_take K (HE.out.below bd.out.below))
    have eE:=bd.out.size
    have eI:=obj_lt aZ
    have eK:=obj_lt bt
    have eJ:=obj_lt bl
    clear aZ bt bl a8 bT c5
    refine wp_region_held_drew (S:=fun w'=>w'.cell? ⟨w.heap.size,3,none⟩=some (.slice (some ad) n m)∧w'.cell? ⟨wr.heap.size,1,none⟩=some (.int .i64 e2)∧w'.cell? ⟨wr.heap.size,2,none⟩=some (.int .i64 e3)∧w'.cell? ⟨w.heap.size+1,0,none⟩=some (.int .i64 nn)∧w'.cell? ⟨w.heap.size+1,1,none⟩=some (.slice A NC c)) (by kernel_rfl) ?_ (fun hHeld=>?_)
    · (try dsimp only);(refine ⟨?_, ?_, ?_, ?_, ?_⟩ <;> first | assumption | go_keep)
    refine takeH 0 (v:=?_) rfl (by kernel_rfl) (by kernel_rfl) (by kernel_rfl) (fun _ _ _ h=>h) (Or.inl ⟨by first | kernel_rfl | rfl, ?_⟩) (by assumption) ?_
    rotate_left
    · (intro w h;(try dsimp only at h);go_simp;try with_reducible rfl)
    try simp only [Act.put,sT,sZ,sS]
    refine takeH 1 (v:=?_) rfl (by kernel_rfl) (by kernel_rfl) (by kernel_rfl) (fun _ _ _ h=>h) (Or.inl ⟨by first | kernel_rfl | rfl, ?_⟩) (by assumption) ?_
    rotate_left
    · (intro w h;(try dsimp only at h);go_simp;try with_reducible rfl)
    try simp only [Act.put,sT,sZ,sS]
    refine takeH 2 (v:=?_) rfl (by kernel_rfl) (by kernel_rfl) (by kernel_rfl) (fun _ _ _ h=>h) (Or.inl ⟨by first | kernel_rfl | rfl, ?_⟩) (by assumption) ?_
    rotate_left
    · (intro w h;(try dsimp only at h);go_simp;try with_reducible rfl)
    try simp only [Act.put,sT,sZ,sS]
    refine takeH 3 (v:=?_) rfl (by kernel_rfl) (by kernel_rfl) (by kernel_rfl) (fun _ _ _ h=>h) (Or.inl ⟨by first | kernel_rfl | rfl, ?_⟩) (by assumption) ?_
    rotate_left
    · (intro w h;(try dsimp only at h);go_simp;try with_reducible rfl)
    try simp only [Act.put,sT,sZ,sS]
    refine takeH 4 (v:=?_) rfl (by kernel_rfl) (by kernel_rfl) (by kernel_rfl) (fun _ _ _ h=>h) (Or.inl ⟨by first | kernel_rfl | rfl, ?_⟩) (by assumption) ?_
    rotate_left
    · (intro w h;(try dsimp only at h);go_simp;try with_reducible rfl)
    try simp only [Act.put,sT,sZ,sS]
    refine takeH 5 (v:=?_) rfl (by kernel_rfl) (by kernel_rfl) (by kernel_rfl) (fun _ _ _ h=>h) (Or.inl ⟨by first | kernel_rfl | rfl, ?_⟩) (by assumption) ?_
    rotate_left
    · (intro w h;(try dsimp only at h);go_simp;try with_reducible rfl)
    try simp only [Act.put,sT,sZ,sS]
    refine takeH 6 (v:=?_) rfl (by kernel_rfl) (by kernel_rfl) (by kernel_rfl) (fun _ _ _ h=>h) (Or.inl ⟨by first | kernel_rfl | rfl, ?_⟩) (by assumption) ?_
    rotate_left
    · (intro w h;(try dsimp only at h);go_simp;try with_reducible rfl)
    try simp only [Act.put,sT,sZ,sS]
    refine takeH 7 (v:=?_) rfl (by kernel_rfl) (by kernel_rfl) (by kernel_rfl) (fun _ _ _ h=>h) (Or.inl ⟨by first | kernel_rfl | rfl, ?_⟩) (by assumption) ?_
    rotate_left
    · (intro w h;(try dsimp only at h);go_simp;try with_reducible rfl)
    try simp only [Act.put,sT,sZ,sS]
    refine takeH 9 (v:=?_) rfl (by kernel_rfl) (by kernel_rfl) (by kernel_rfl) (fun _ _ _ h=>h) (Or.inl ⟨by first | kernel_rfl | rfl, ?_⟩) (by assumption) ?_
    rotate_left
    · (intro w h;(try dsimp only at h);go_simp;try with_reducible rfl)
    try simp only [Act.put,sT,sZ,sS]
    refine takeH 10 (v:=?_) rfl (by kernel_rfl) (by kernel_rfl) (by kernel_rfl) (fun _ _ _ h=>h) (Or.inl ⟨by first | kernel_rfl | rfl, ?_⟩) (by assumption) ?_
    rotate_left
    · (intro w h;(try dsimp only at h);go_simp;try with_reducible rfl)
    try simp only [Act.put,sT,sZ,sS]
    refine takeH 11 (v:=?_) rfl (by kernel_rfl) (by kernel_rfl) (by kernel_rfl) (fun _ _ _ h=>h) (Or.inl ⟨by first | kernel_rfl | rfl, ?_⟩) (by assumption) ?_
    rotate_left
    · (intro w h;(try dsimp only at h);go_simp;try with_reducible rfl)
    try simp only [Act.put,sT,sZ,sS]
    refine takeH 12 (v:=?_) rfl (by kernel_rfl) (by kernel_rfl) (by kernel_rfl) (fun _ _ _ h=>h) (Or.inl ⟨by first | kernel_rfl | rfl, ?_⟩) (by assumption) ?_
    rotate_left
    · (intro w h;(try dsimp only at h);go_simp;try with_reducible rfl)
    try simp only [Act.put,sT,sZ,sS]
    refine takeH 13 (v:=?_) rfl (by kernel_rfl) (by kernel_rfl) (by kernel_rfl) (fun _ _ _ h=>h) (Or.inl ⟨by first | kernel_rfl | rfl, ?_⟩) (by assumption) ?_
    rotate_left
    · (intro w h;(try dsimp only at h);go_simp;try with_reducible rfl)
    try simp only [Act.put,sT,sZ,sS]
    refine takeH 14 (v:=?_) rfl (by kernel_rfl) (by kernel_rfl) (by kernel_rfl) (fun _ _ _ h=>h) (Or.inl ⟨by first | kernel_rfl | rfl, ?_⟩) (by assumption) ?_
    rotate_left
    · (intro w h;(try dsimp only at h);go_simp;try with_reducible rfl)
    try simp only [Act.put,sT,sZ,sS]
    refine takeH 15 (v:=?_) rfl (by kernel_rfl) (by kernel_rfl) (by kernel_rfl) (fun _ _ _ h=>h) (Or.inl ⟨by first | kernel_rfl | rfl, ?_⟩) (by assumption) ?_
    rotate_left
    · (intro w h;(try dsimp only at h);go_simp;try with_reducible rfl)
    try simp only [Act.put,sT,sZ,sS]
    refine takeH 16 (v:=?_) rfl (by kernel_rfl) (by kernel_rfl) (by kernel_rfl) (fun _ _ _ h=>h) (Or.inl ⟨by first | kernel_rfl | rfl, ?_⟩) (by assumption) ?_
    rotate_left
    · (intro w h;(try dsimp only at h);go_simp;try with_reducible rfl)
    try simp only [Act.put,sT,sZ,sS]
    refine next2H 8 17 (by kernel_rfl) rfl rfl (fun KQ hK=>?_) (fun KQ hK=>?_)
    · refine step_append_rows w.heap.size (by rfl) _ _ 32 78 (.agg #[.int .i64 0,.int .i64 0,.int .i64 0]) 3 24 (by rfl) Tryz.underlying32 info_entry rfl (by omega) (.slice none 0 0) 0 [] (by rfl) (Loose.empty _ _ _ _ _) (some ad) K m (entCells (es.take K)) (by rfl) cK.out (dL.out.below (Keeps.drew W9).below) (entCells_one _) (by simp only [maxLen];omega) (by omega) (bd.out.size) ?_
      intro v10 w10 ag ab aD
      rw [Nat.zero_add,List.nil_append] at ag
      obtain ⟨E10,c10,rfl,_⟩:=ag.form
      have a3:Keeps W9 w10:=(Keeps.drew W9).trans (Touch.nothing (F:=fun _=>False) (Touch.of_grown ab fun k hk=>by simp [blk] at hk) fun _ _ h=>h)
      have a7:=(a3.below.block _ (obj_lt aK.out)).trans aK.out
      have ao:=(a3.below.block _ (obj_lt b9.out)).trans b9.out
      have af:=(a3.below.block _ (obj_lt aY.out)).trans aY.out
      obtain ⟨s0,s1,s2,s3⟩:=cells2 af
      have j9:w10.cell? ⟨w.heap.size,3,none⟩=some (.slice (some ad) n m):=by rw [obj_cell ao];rfl
      have zz1:w10.cell? ⟨wr.heap.size,1,none⟩=some (.int .i64 e2):=by rw [obj_cell a7];rfl
      have zz2:w10.cell? ⟨wr.heap.size,2,none⟩=some (.int .i64 e3):=by rw [obj_cell a7];rfl
      have bs:=Hi ag
      have aI:=Hi a3
      clear ag ab aD a3 a7 ao af
      refine hK.out _ _ ?_ (fun hHeld=>?_)
      · (try dsimp only);(refine ⟨?_, ?_, ?_, ?_, ?_⟩ <;> first | assumption | go_keep)
      clear hK KQ
      try simp only [Act.put,sT,sZ,sS]
      refine nextH 17 (by kernel_rfl) rfl (fun KQ hK=>?_)
      go_simp
      refine hK.out _ _ ?_ (fun hHeld=>?_)
      · (try dsimp only);(refine ⟨?_, ?_, ?_, ?_, ?_⟩ <;> first | assumption | go_keep)
      clear hK KQ
      try simp only [Act.put,sT,sZ,sS]
      refine takeH 18 (v:=?_) rfl (by kernel_rfl) (by kernel_rfl) (by kernel_rfl) (fun _ _ _ h=>h) (Or.inl ⟨by first | kernel_rfl | rfl, ?_⟩) (by assumption) ?_
      rotate_left
      · (intro w h;(try dsimp only at h);go_simp;try with_reducible rfl)
      try simp only [Act.put,sT,sZ,sS]
      refine nextH 19 (by kernel_rfl) rfl (fun KQ hK=>?_)
      go_simp
      refine hK.out _ _ ?_ (fun hHeld=>?_)
      · (try dsimp only);(refine ⟨?_, ?_, ?_, ?_, ?_⟩ <;> first | assumption | go_keep)
      clear hK KQ
      try simp only [Act.put,sT,sZ,sS]
      refine takeH 20 (v:=?_) rfl (by kernel_rfl) (by kernel_rfl) (by kernel_rfl) (fun _ _ _ h=>h) (Or.inl ⟨by first | kernel_rfl | rfl, ?_⟩) (by assumption) ?_
      rotate_left
      · (intro w h;(try dsimp only at h);go_simp;try with_reducible rfl)
      try simp only [Act.put,sT,sZ,sS]
      refine wpAnyH_done (by kernel_rfl) ?_ _
      go_wp2
      go_ret
      have aa:Keeps w (w10.alloc (.cells #[.int .i64 1,.int .i64 nn,.slice A NC c,.int .i64 0,.int .i64 0,.int .i64 0,.slice none 0 0,.int .i64 0,.int .i64 0,.int .i64 0,.slice none 0 0,.int .i64 e3] 91)):=(bd.out.trans aI.out).alloc _
      have bF:Loose (w10.alloc (.cells #[.int .i64 1,.int .i64 nn,.slice A NC c,.int .i64 0,.int .i64 0,.int .i64 0,.slice none 0 0,.int .i64 0,.int .i64 0,.int .i64 0,.slice none 0 0,.int .i64 e3] 91)) w.heap.size 78 3 (.slice E10 K c10) K (entCells (es.take K)):=bs.out.below ((Keeps.refl w10).alloc _).below
      obtain ⟨E',c',e',_,bR,_⟩:=bF.form
      injection e' with q7 q8 q9
      subst q7 q9
      have ei:=aa.size
      have dr:=aI.out.size
      have ec:(w10.alloc (.cells #[.int .i64 1,.int .i64 nn,.slice A NC c,.int .i64 0,.int .i64 0,.int .i64 0,.slice none 0 0,.int .i64 0,.int .i64 0,.int .i64 0,.slice none 0 0,.int .i64 e3] 91)).heap.size=w10.heap.size+1:=by simp
      have aO:Keeps w ((w10.alloc (.cells #[.int .i64 1,.int .i64 nn,.slice A NC c,.int .i64 0,.int .i64 0,.int .i64 0,.slice none 0 0,.int .i64 0,.int .i64 0,.int .i64 0,.slice none 0 0,.int .i64 e3] 91)).alloc (.cells #[.slice none 0 0,.int .i64 (4*(K:Int)),.int .i64 e2,.slice E10 K c10,.slice (some ⟨w10.heap.size,0,none⟩) 1 1] 85)):=aa.alloc _
      have d8:((w10.alloc (.cells #[.int .i64 1,.int .i64 nn,.slice A NC c,.int .i64 0,.int .i64 0,.int .i64 0,.slice none 0 0,.int .i64 0,.int .i64 0,.int .i64 0,.slice none 0 0,.int .i64 e3] 91)).alloc (.cells #[.slice none 0 0,.int .i64 (4*(K:Int)),.int .i64 e2,.slice E10 K c10,.slice (some ⟨w10.heap.size,0,none⟩) 1 1] 85)).heap[w10.heap.size+1]? = some (.cells #[.slice none 0 0,.int .i64 (4*(K:Int)),.int .i64 e2,.slice E10 K c10,.slice (some ⟨w10.heap.size,0,none⟩) 1 1] 85 (0,0)):=obj_new_at _ _ _ (by simp)
      have b8:Keeps (w10.alloc (.cells #[.int .i64 1,.int .i64 nn,.slice A NC c,.int .i64 0,.int .i64 0,.int .i64 0,.slice none 0 0,.int .i64 0,.int .i64 0,.int .i64 0,.slice none 0 0,.int .i64 e3] 91)) ((w10.alloc (.cells #[.int .i64 1,.int .i64 nn,.slice A NC c,.int .i64 0,.int .i64 0,.int .i64 0,.slice none 0 0,.int .i64 0,.int .i64 0,.int .i64 0,.slice none 0 0,.int .i64 e3] 91)).alloc (.cells #[.slice none 0 0,.int .i64 (4*(K:Int)),.int .i64 e2,.slice E10 K c10,.slice (some ⟨w10.heap.size,0,none⟩) 1 1] 85)):=(Keeps.refl _).alloc _
      have aR:RowAt (w10.alloc (.cells #[.int .i64 1,.int .i64 nn,.slice A NC c,.int .i64 0,.int .i64 0,.int .i64 0,.slice none 0 0,.int .i64 0,.int .i64 0,.int .i64 0,.slice none 0 0,.int .i64 e3] 91)) (some ⟨w10.heap.size,0,none⟩) [.int .i64 1,.int .i64 nn,.slice A NC c,.int .i64 0,.int .i64 0,.int .i64 0,.slice none 0 0,.int .i64 0,.int .i64 0,.int .i64 0,.slice none 0 0,.int .i64 e3]:=RowAt.new_at _ _ _ _ _ rfl _ rfl
      have dA:=row_lt aR
      generalize (w10.alloc (.cells #[.int .i64 1,.int .i64 nn,.slice A NC c,.int .i64 0,.int .i64 0,.int .i64 0,.slice none 0 0,.int .i64 0,.int .i64 0,.int .i64 0,.slice none 0 0,.int .i64 e3] 91)).alloc (.cells #[.slice none 0 0,.int .i64 (4*(K:Int)),.int .i64 e2,.slice E10 K c10,.slice (some ⟨w10.heap.size,0,none⟩) 1 1] 85)=WF at *
      refine .inr ⟨K,⟨e1,e2,e3⟩,w10.heap.size+1,ai.out,rfl,HX.out,rfl,by omega,⟨⟨none,0,E10,c10,some ⟨w10.heap.size,0,none⟩,1, ?_,Nat.le_refl _,Places.nil _ _ _,⟨bR.below b8.below,fun a' e' hn=>⟨.inr ?_, ?_⟩⟩,⟨⟨[[.int .i64 1,.int .i64 nn,.slice A NC c,.int .i64 0,.int .i64 0,.int .i64 0,.slice none 0 0,.int .i64 0,.int .i64 0,.int .i64 0,.slice none 0 0,.int .i64 e3]],rfl,fun i cs p hi hp=>?_, ?_⟩,fun a' e' _=>⟨.inr ?_, ?_⟩⟩⟩,.inr ?_,by show 0≤_;omega,by show 1≤_;omega, ?_⟩,aO⟩
      · show WF.heap[w10.heap.size+1]? = some (.cells #[.slice none 0 0,.int .i64 (4*(K:Int)),.int .i64 e2,.slice E10 (es.take K).length c10,.slice (some ⟨w10.heap.size,0,none⟩) 1 1] 85 (0,0))
        rw [aV.out]
        exact d8
      · have hp:0<K:=by
         rcases Nat.eq_zero_or_pos K with h0 | h0
         · exact absurd (show es.take K=[] by rw [h0];rfl) hn
         · exact h0
        obtain ⟨_,c2,e2',ed,_⟩:=bF.form
        injection e2' with _ _ e3'
        have dz:blk (.slice E10 K c10)=some a'.block:=by
         rw [e']
         unfold blk
         simp
         omega
        exact (bF.lt _ dz).1
      · have h1:=row_lt' bR (fun h0=>hn (ents_nil h0)) a' e'
        omega
      · cases i with
        | zero=>
          simp only [List.getElem?_cons_zero,Option.some.injEq] at hi hp
          subst hi
          have cX:(resF nn cols,e3)=p:=by
           have h2:(resR es K ⟨e1,e2,e3⟩ nn cols).S0[0]? = some (resF nn cols,e3):=rfl
           first | exact hp | (rw [h2] at hp;injection hp)
          subst cX
          refine ⟨A,c,none,0,none,0, ?_,⟨(HS.out.later aO.below).mono fun b hb h=>⟨.inl h, ?_⟩,Reads.nil _ _,(fun _ h=>by cases h),RowAt.nil _ _,(fun _ h=>by cases h),(by simp [resF,frZero]),(by simp [resF,frZero])⟩⟩
          · rw [cz.out];rfl
          · have h':b<B:=h
            omega
        | succ i=>simp at hi
      · rw [show ([[.int .i64 1,.int .i64 nn,.slice A NC c,.int .i64 0,.int .i64 0,.int .i64 0,.slice none 0 0,.int .i64 0,.int .i64 0,.int .i64 0,.slice none 0 0,.int .i64 e3]]:List (List Value)).flatten=([.int .i64 1,.int .i64 nn,.slice A NC c,.int .i64 0,.int .i64 0,.int .i64 0,.slice none 0 0,.int .i64 0,.int .i64 0,.int .i64 0,.slice none 0 0,.int .i64 e3]:List Value) by simp]
        exact aR.below b8.below
      · injection e' with e'
        subst e'
        show w.heap.size≤w10.heap.size
        omega
      · injection e' with e'
        subst e'
        show w10.heap.size≠w10.heap.size+1
        omega
      · show w.heap.size≤w10.heap.size+1
        omega
      · show (es.take K).length≤_
        rw [aV.out]
        omega
    · go_simp
      refine hK.out _ _ ?_ (fun hHeld=>?_)
      · (try dsimp only);(refine ⟨?_, ?_, ?_, ?_, ?_⟩ <;> first | assumption | go_keep)
      clear hK KQ
      try simp only [Act.put,sT,sZ,sS]
      refine nextH 8 (by kernel_rfl) rfl (fun KQ hK=>?_)
      refine step_append_rows w.heap.size (by rfl) _ _ 32 78 (.agg #[.int .i64 0,.int .i64 0,.int .i64 0]) 3 24 (by rfl) Tryz.underlying32 info_entry rfl (by omega) (.slice none 0 0) 0 [] (by rfl) (Loose.empty _ _ _ _ _) (some ad) K m (entCells (es.take K)) (by rfl) cK.out (dL.out.below ((Keeps.drew W9).alloc _).below) (entCells_one _) (by simp only [maxLen];omega) (by omega) (Nat.le_trans bd.out.size ((Keeps.drew W9).alloc _).size) ?_
      intro v10 w10 ag ab aD
      rw [Nat.zero_add,List.nil_append] at ag
      obtain ⟨E10,c10,rfl,_⟩:=ag.form
      have a3:Keeps W9 w10:=((Keeps.drew W9).alloc _).trans (Touch.nothing (F:=fun _=>False) (Touch.of_grown ab fun k hk=>by simp [blk] at hk) fun _ _ h=>h)
      have a7:=(a3.below.block _ (obj_lt aK.out)).trans aK.out
      have ao:=(a3.below.block _ (obj_lt b9.out)).trans b9.out
      have af:=(a3.below.block _ (obj_lt aY.out)).trans aY.out
      obtain ⟨s0,s1,s2,s3⟩:=cells2 af
      have j9:w10.cell? ⟨w.heap.size,3,none⟩=some (.slice (some ad) n m):=by rw [obj_cell ao];rfl
      have zz1:w10.cell? ⟨wr.heap.size,1,none⟩=some (.int .i64 e2):=by rw [obj_cell a7];rfl
      have zz2:w10.cell? ⟨wr.heap.size,2,none⟩=some (.int .i64 e3):=by rw [obj_cell a7];rfl
      have bs:=Hi ag
      have aI:=Hi a3
      have bJ:Hid (RowAt w10 (some ⟨W9.heap.size,0,none⟩) [.int .i64 1,.int .i64 nn,.slice A NC c,.int .i64 0,.int .i64 0,.int .i64 0,.slice none 0 0,.int .i64 0,.int .i64 0,.int .i64 0,.slice none 0 0,.int .i64 e3]):=Hi ((RowAt.new_at W9.drew _ _ _ [.int .i64 1,.int .i64 nn,.slice A NC c,.int .i64 0,.int .i64 0,.int .i64 0,.slice none 0 0,.int .i64 0,.int .i64 0,.int .i64 0,.slice none 0 0,.int .i64 e3] rfl W9.heap.size rfl).below (Touch.nothing (F:=fun _=>False) (Touch.of_grown ab fun k hk=>by simp [blk] at hk) fun _ _ h=>h))
      clear ag ab aD a3 a7 ao af
      refine hK.out _ _ ?_ (fun hHeld=>?_)
      · (try dsimp only);(refine ⟨?_, ?_, ?_, ?_, ?_⟩ <;> first | assumption | go_keep)
      clear hK KQ
      try simp only [Act.put,sT,sZ,sS]
      refine takeH 18 (v:=?_) rfl (by kernel_rfl) (by kernel_rfl) (by kernel_rfl) (fun _ _ _ h=>h) (Or.inl ⟨by first | kernel_rfl | rfl, ?_⟩) (by assumption) ?_
      rotate_left
      · (intro w h;(try dsimp only at h);go_simp;try with_reducible rfl)
      try simp only [Act.put,sT,sZ,sS]
      refine nextH 19 (by kernel_rfl) rfl (fun KQ hK=>?_)
      go_simp
      refine hK.out _ _ ?_ (fun hHeld=>?_)
      · (try dsimp only);(refine ⟨?_, ?_, ?_, ?_, ?_⟩ <;> first | assumption | go_keep)
      clear hK KQ
      try simp only [Act.put,sT,sZ,sS]
      refine takeH 20 (v:=?_) rfl (by kernel_rfl) (by kernel_rfl) (by kernel_rfl) (fun _ _ _ h=>h) (Or.inl ⟨by first | kernel_rfl | rfl, ?_⟩) (by assumption) ?_
      rotate_left
      · (intro w h;(try dsimp only at h);go_simp;try with_reducible rfl)
      try simp only [Act.put,sT,sZ,sS]
      refine wpAnyH_done (by kernel_rfl) ?_ _
      go_wp2
      go_ret
      have aa:Keeps w (w10):=bd.out.trans aI.out
      have bF:Loose (w10) w.heap.size 78 3 (.slice E10 K c10) K (entCells (es.take K)):=bs.out
      obtain ⟨E',c',e',_,bR,_⟩:=bF.form
      injection e' with q7 q8 q9
      subst q7 q9
      have ei:=aa.size
      have dr:=aI.out.size
      have ec:(w10).heap.size=w10.heap.size:=by simp
      have aO:Keeps w ((w10).alloc (.cells #[.slice none 0 0,.int .i64 (4*(K:Int)),.int .i64 e2,.slice E10 K c10,.slice (some ⟨W9.heap.size,0,none⟩) 1 1] 85)):=aa.alloc _
      have d8:((w10).alloc (.cells #[.slice none 0 0,.int .i64 (4*(K:Int)),.int .i64 e2,.slice E10 K c10,.slice (some ⟨W9.heap.size,0,none⟩) 1 1] 85)).heap[w10.heap.size]? = some (.cells #[.slice none 0 0,.int .i64 (4*(K:Int)),.int .i64 e2,.slice E10 K c10,.slice (some ⟨W9.heap.size,0,none⟩) 1 1] 85 (0,0)):=obj_new_at _ _ _ (by simp)
      have b8:Keeps (w10) ((w10).alloc (.cells #[.slice none 0 0,.int .i64 (4*(K:Int)),.int .i64 e2,.slice E10 K c10,.slice (some ⟨W9.heap.size,0,none⟩) 1 1] 85)):=(Keeps.refl _).alloc _
      have aR:RowAt (w10) (some ⟨W9.heap.size,0,none⟩) [.int .i64 1,.int .i64 nn,.slice A NC c,.int .i64 0,.int .i64 0,.int .i64 0,.slice none 0 0,.int .i64 0,.int .i64 0,.int .i64 0,.slice none 0 0,.int .i64 e3]:=bJ.out
      have dA:=row_lt aR
      generalize (w10).alloc (.cells #[.slice none 0 0,.int .i64 (4*(K:Int)),.int .i64 e2,.slice E10 K c10,.slice (some ⟨W9.heap.size,0,none⟩) 1 1] 85)=WF at *
      refine .inr ⟨K,⟨e1,e2,e3⟩,w10.heap.size,ai.out,rfl,HX.out,rfl,by omega,⟨⟨none,0,E10,c10,some ⟨W9.heap.size,0,none⟩,1, ?_,Nat.le_refl _,Places.nil _ _ _,⟨bR.below b8.below,fun a' e' hn=>⟨.inr ?_, ?_⟩⟩,⟨⟨[[.int .i64 1,.int .i64 nn,.slice A NC c,.int .i64 0,.int .i64 0,.int .i64 0,.slice none 0 0,.int .i64 0,.int .i64 0,.int .i64 0,.slice none 0 0,.int .i64 e3]],rfl,fun i cs p hi hp=>?_, ?_⟩,fun a' e' _=>⟨.inr ?_, ?_⟩⟩⟩,.inr ?_,by show 0≤_;omega,by show 1≤_;omega, ?_⟩,aO⟩
      · show WF.heap[w10.heap.size]? = some (.cells #[.slice none 0 0,.int .i64 (4*(K:Int)),.int .i64 e2,.slice E10 (es.take K).length c10,.slice (some ⟨W9.heap.size,0,none⟩) 1 1] 85 (0,0))
        rw [aV.out]
        exact d8
      · have hp:0<K:=by
         rcases Nat.eq_zero_or_pos K with h0 | h0
         · exact absurd (show es.take K=[] by rw [h0];rfl) hn
         · exact h0
        obtain ⟨_,c2,e2',ed,_⟩:=bF.form
        injection e2' with _ _ e3'
        have dz:blk (.slice E10 K c10)=some a'.block:=by
         rw [e']
         unfold blk
         simp
         omega
        exact (bF.lt _ dz).1
      · have h1:=row_lt' bR (fun h0=>hn (ents_nil h0)) a' e'
        omega
      · cases i with
        | zero=>
          simp only [List.getElem?_cons_zero,Option.some.injEq] at hi hp
          subst hi
          have cX:(resF nn cols,e3)=p:=by
           have h2:(resR es K ⟨e1,e2,e3⟩ nn cols).S0[0]? = some (resF nn cols,e3):=rfl
           first | exact hp | (rw [h2] at hp;injection hp)
          subst cX
          refine ⟨A,c,none,0,none,0, ?_,⟨(HS.out.later aO.below).mono fun b hb h=>⟨.inl h, ?_⟩,Reads.nil _ _,(fun _ h=>by cases h),RowAt.nil _ _,(fun _ h=>by cases h),(by simp [resF,frZero]),(by simp [resF,frZero])⟩⟩
          · rw [cz.out];rfl
          · have h':b<B:=h
            omega
        | succ i=>simp at hi
      · rw [show ([[.int .i64 1,.int .i64 nn,.slice A NC c,.int .i64 0,.int .i64 0,.int .i64 0,.slice none 0 0,.int .i64 0,.int .i64 0,.int .i64 0,.slice none 0 0,.int .i64 e3]]:List (List Value)).flatten=([.int .i64 1,.int .i64 nn,.slice A NC c,.int .i64 0,.int .i64 0,.int .i64 0,.slice none 0 0,.int .i64 0,.int .i64 0,.int .i64 0,.slice none 0 0,.int .i64 e3]:List Value) by simp]
        exact aR.below b8.below
      · injection e' with e'
        subst e'
        show w.heap.size≤W9.heap.size
        omega
      · injection e' with e'
        subst e'
        show W9.heap.size≠w10.heap.size
        omega
      · show w.heap.size≤w10.heap.size
        omega
      · show (es.take K).length≤_
        rw [aV.out]
        omega
theorem Steps.up {w w':World} {B B':Nat} {A:Option Addr} {l:List (Fr×Int)} (h:Steps w B A l) (hb:Below w.heap.size w w') (hB:B≤B'):Steps w' B' A l:=by
 obtain ⟨rows,h1,h2,h3⟩:=(h.below hb).ex
 refine ⟨rows,h1,fun i cs p hi hp=>?_,h3⟩
 obtain ⟨A1,c,Bl,d,E,m,e,hf,h4⟩:=h2 i cs p hi hp
 exact ⟨A1,c,Bl,d,E,m,e,hf.mono fun b _ h=>Nat.lt_of_lt_of_le h hB,h4⟩
theorem resumesL_calls (E:Option Addr) (m:Nat) (x0 x1 x2:Int) (es:List Ent) (kk nn:Int) (A:Option Addr) (c:Nat) (cols:List Col) (L:Option Addr) (cL:Nat) (l:List (Fr×Int)) (w:World) (hE:RowAt w E (entCells es)) (hm:es.length≤m) (bn:es.length≤1048576) (hs:SchS w (fun b=>b<w.heap.size) A cols) (hw:∀ x∈cols,x.dflt.wf) (bN:∀ x∈cols,x.name.size≤140737488355328) (ak:cols.length≤c) (hl:Steps w w.heap.size L l) (e8:l.length≤1048576) (aA:Tabs w) (ht:Table w) :
 Calls Tryz.prog 6 #[.agg #[.int .i64 x0,.int .i64 x1,.int .i64 x2,.slice E es.length m],.int .i64 kk,.agg #[.int .i64 nn,.slice A cols.length c],.slice L l.length cL] w fun e w'=>e=.returned (.bool true)∧Keeps w w':=by
 obtain ⟨W0,b0⟩:∃ W0,W0=(w.alloc (.cells #[.int .i64 x0,.int .i64 x1,.int .i64 x2,.slice E es.length m] 34)).alloc (.cells #[.int .i64 nn,.slice A cols.length c] 56):=⟨_,rfl⟩
 have au:Keeps w W0:=by rw [b0];exact ((Keeps.refl w).alloc _).alloc _
 have dR:W0.heap[w.heap.size]? = some (.cells #[.int .i64 x0,.int .i64 x1,.int .i64 x2,.slice E es.length m] 34 (0,0)):=by rw [b0];exact obj_old (obj_new w _) _
 have cB:W0.heap[w.heap.size+1]? = some (.cells #[.int .i64 nn,.slice A cols.length c] 56 (0,0)):=by rw [b0];exact obj_new_at _ _ _ (by simp)
 have e4:=scanLive_calls W0 (aA.below au.below) (ht.later au.below)
 have dO:=fun X (hX:Keeps W0 X)=>resume_calls E m x0 x1 x2 es kk nn A c cols X (hE.below (au.trans hX).below) hm bn ((hs.later (au.trans hX).below).mono fun b hb _=>hb) hw bN (aA.below (au.trans hX).below)
 have dF:=fun X (hX:Keeps W0 X)=>refResume_calls E m x0 x1 x2 es kk nn A c cols X (hE.below (au.trans hX).below) hm bn W0.heap.size hX.size ((hs.later (au.trans hX).below).mono fun b hb h=>Nat.lt_of_lt_of_le h au.size) hw ak (aA.below (au.trans hX).below)
 have dn:=Hi e4
 have dE:=Hi au
 have b7:=Hi dR
 have aX:=Hi cB
 have HS:=Hi (hl.up au.below au.size)
 have bM:=Hi (aA.below au.below)
 have el:=Hi (ht.later au.below)
 have bO:=Hi dO
 have co:=Hi dF
 have ea:=Hi hw
 have bW:Hid (∀ X,Keeps W0 X→X.cell? ⟨w.heap.size+1,0,none⟩=some (.int .i64 nn)):=Hi fun X hX=>by
  have h:=(hX.below.block _ (obj_lt cB)).trans cB
  rw [obj_cell h]
  rfl
 obtain ⟨N,hN⟩:∃ N,N=l.length:=⟨_,rfl⟩
 obtain ⟨n,hn⟩:∃ n,n=es.length:=⟨_,rfl⟩
 obtain ⟨NC,aU⟩:∃ NC,NC=cols.length:=⟨_,rfl⟩
 rw [← hN] at e8 ⊢
 rw [← hn] at b0 b7 bO co ⊢
 rw [← aU] at b0 aX bO co ⊢
 have eq:=Hi hN
 have eu:n≤1048576:=by omega
 have ew:=Hi hn
 clear au dR cB e4 dO dF hE hm bn hs hw bN ak hl aA ht hN hn aU
 by_cases a0:resOk es kk nn cols
 case neg=>
  go_enter Tryz.func6,Tryz.ntmps6
  go_wp2_with fail
  rw [← b0]
  clear b0
  refine dn.out.mono ?_
  rintro e w1 ⟨rfl,a6⟩
  have al:=(a6.below.block _ (obj_lt b7.out)).trans b7.out
  have aP:=(a6.below.block _ (obj_lt aX.out)).trans aX.out
  have i0:w1.cell? ⟨w.heap.size,0,none⟩=some (.int .i64 x0):=by rw [obj_cell al];rfl
  have i1:w1.cell? ⟨w.heap.size,1,none⟩=some (.int .i64 x1):=by rw [obj_cell al];rfl
  have i2:w1.cell? ⟨w.heap.size,2,none⟩=some (.int .i64 x2):=by rw [obj_cell al];rfl
  have i3:w1.cell? ⟨w.heap.size,3,none⟩=some (.slice E n m):=by rw [obj_cell al];rfl
  obtain ⟨y0,y1,y2,y3⟩:=cells2 aP
  have ap:=Hi a6
  clear al aP a6
  go_wp2_with fail
  refine (bO.out w1 ap.out).mono ?_
  intro e w2 hp
  rcases hp with ⟨_,rfl,ac⟩ | ⟨K,x,gw,h,_⟩
  case inr=>exact absurd h a0
  have am:=Hi (ap.out.trans ac)
  have ae:=((am.out).below.block _ (obj_lt b7.out)).trans b7.out
  have aC:=((am.out).below.block _ (obj_lt aX.out)).trans aX.out
  clear i0 i1 i2 i3 y0 y1 y2 y3
  have i0:w2.cell? ⟨w.heap.size,0,none⟩=some (.int .i64 x0):=by rw [obj_cell ae];rfl
  have i1:w2.cell? ⟨w.heap.size,1,none⟩=some (.int .i64 x1):=by rw [obj_cell ae];rfl
  have i2:w2.cell? ⟨w.heap.size,2,none⟩=some (.int .i64 x2):=by rw [obj_cell ae];rfl
  have i3:w2.cell? ⟨w.heap.size,3,none⟩=some (.slice E n m):=by rw [obj_cell ae];rfl
  obtain ⟨y0,y1,y2,y3⟩:=cells2 aC
  clear ae aC ac
  go_wp2_with fail
  refine (co.out w2 am.out).mono ?_
  intro e w3 hp
  rcases hp with ⟨_,rfl,aB⟩ | ⟨K,x,gw,h,_⟩
  case inr=>exact absurd h a0
  have ev:=Hi (dE.out.trans (am.out.trans aB))
  clear aB i0 i1 i2 i3 y0 y1 y2 y3
  go_wp2
  go_ret
  exact ⟨rfl,ev.out⟩
 case pos=>
 have ai:=Hi a0
 go_enter Tryz.func6,Tryz.ntmps6
 go_wp2_with fail
 rw [← b0]
 clear b0
 refine dn.out.mono ?_
 rintro e w1 ⟨rfl,a6⟩
 have al:=(a6.below.block _ (obj_lt b7.out)).trans b7.out
 have aP:=(a6.below.block _ (obj_lt aX.out)).trans aX.out
 have i0:w1.cell? ⟨w.heap.size,0,none⟩=some (.int .i64 x0):=by rw [obj_cell al];rfl
 have i1:w1.cell? ⟨w.heap.size,1,none⟩=some (.int .i64 x1):=by rw [obj_cell al];rfl
 have i2:w1.cell? ⟨w.heap.size,2,none⟩=some (.int .i64 x2):=by rw [obj_cell al];rfl
 have i3:w1.cell? ⟨w.heap.size,3,none⟩=some (.slice E n m):=by rw [obj_cell al];rfl
 obtain ⟨y0,y1,y2,y3⟩:=cells2 aP
 have ap:=Hi a6
 clear al aP a6 dn
 go_wp2_with fail
 refine (bO.out w1 ap.out).mono ?_
 intro e w2 hp
 rcases hp with ⟨h,_⟩ | ⟨K,x,gw,_,cD,hx,rfl,dQ,e0,ac⟩
 case inl=>exact absurd a0 h
 have am:=Hi (ap.out.trans ac)
 have ae:=((am.out).below.block _ (obj_lt b7.out)).trans b7.out
 have aC:=((am.out).below.block _ (obj_lt aX.out)).trans aX.out
 clear i0 i1 i2 i3 y0 y1 y2 y3
 have i0:w2.cell? ⟨w.heap.size,0,none⟩=some (.int .i64 x0):=by rw [obj_cell ae];rfl
 have i1:w2.cell? ⟨w.heap.size,1,none⟩=some (.int .i64 x1):=by rw [obj_cell ae];rfl
 have i2:w2.cell? ⟨w.heap.size,2,none⟩=some (.int .i64 x2):=by rw [obj_cell ae];rfl
 have i3:w2.cell? ⟨w.heap.size,3,none⟩=some (.slice E n m):=by rw [obj_cell ae];rfl
 obtain ⟨y0,y1,y2,y3⟩:=cells2 aC
 have dP:=Hi e0.here
 have dS:=Hi cD
 have HX:=Hi hx
 have en:=ac.size
 clear ae aC ac e0 cD hx bO
 go_wp2_with fail
 refine (co.out w2 am.out).mono ?_
 intro e w3 hp
 rcases hp with ⟨h,_⟩ | ⟨K',x',gr,_,cD,hx,rfl,e5,dH,aB⟩
 case inl=>exact absurd a0 h
 have eC:K'=K:=by have:=dS.out;omega
 subst eC
 have av:x'=x:=by rw [HX.out] at hx;injection hx with hx;exact hx.symm
 subst av
 have bc:entOk x'=true:=by
  obtain ⟨hi,he⟩:=List.getElem?_eq_some_iff.1 HX.out
  rw [← he]
  exact ai.out.2.2.2.2.2 K' hi (by have:=dS.out;omega)
 have ek:=ap.out.size
 have cA:K'<es.length:=(List.getElem?_eq_some_iff.1 HX.out).1
 have dV:Hid (Twin (resK es K' x' nn cols) (resR es K' x' nn cols)):=Hi (res_twin bc ⟨ai.out.2.2.1,ai.out.2.2.2.1⟩ ai.out.2.2.2.2.1 ea.out (by rw [← ew.out] at cA;omega))
 have bY:Hid (Duo W0 w3 (fun b=>w1.heap.size≤b∧b<w2.heap.size) gw gr (resK es K' x' nn cols) (resR es K' x' nn cols)):=Hi ⟨dP.out.below aB.below,dH.mono fun b _ hb hq=>by omega,fun b hb=>by omega,by omega,am.out.trans aB⟩
 clear i0 i1 i2 i3 y0 y1 y2 y3 dH aB bc cA dP co hx cD a0 e5 en ek dQ
 have dW:Hid (∀ ns X6 S6 k' r',ns.length≤8→Duo W0 X6 S6 gw gr k' r'→Twin k' r'→Calls Tryz.prog 15 #[.pointer (some ⟨gw,0,none⟩),.pointer (some ⟨gr,0,none⟩),.slice (some ⟨X6.heap.size,0,none⟩) ns.length ns.length] (X6.alloc (.cells (i64s ns).toArray 2)) fun e w'=>e=.returned (.bool true)∧Keeps X6 w'):=Hi fun ns X6 S6 k' r' ej h6 bk=>by
  have b8:Keeps X6 (X6.alloc (.cells (i64s ns).toArray 2)):=(Keeps.refl X6).alloc _
  have h:=(h6.below b8).seen (ns:=ns) bk (some ⟨X6.heap.size,0,none⟩) ns.length (RowAt.new_at _ _ _ _ _ rfl _ rfl) ej bM.out
  exact h.mono fun e w' hh=>⟨hh.1,b8.trans hh.2⟩
 have y0:=bW.out w3 bY.out.keeps
 have dN:Calls Tryz.prog 15 #[.pointer (some ⟨gw,0,none⟩),.pointer (some ⟨gr,0,none⟩),.slice (some ⟨w3.heap.size,0,none⟩) 1 1] (w3.alloc (.cells #[.int .i64 nn] 2)) fun e w'=>e=.returned (.bool true)∧Keeps w3 w':=dW.out [nn] w3 _ _ _ (by simp) bY.out dV.out
 have dc:=Hi dN
 clear dN
 by_cases eb:100<N
 · have ch:(100:Int)<(N:Int):=by omega
   go_wp2_with fail
   refine dc.out.mono ?_
   rintro e w4 ⟨rfl,aw⟩
   have dj:=Hi (dE.out.trans (bY.out.keeps.trans aw))
   go_wp2
   go_ret
   exact ⟨rfl,dj.out⟩
 have ch:¬(100:Int)<(N:Int):=by omega
 go_wp2_with fail
 refine dc.out.mono ?_
 rintro e w4 ⟨rfl,aw⟩
 have bu:=Hi (bY.out.below aw)
 clear aw y0 dc bY
 go_wp2_with fail
 go_loopw [58] (fun i wr=>∃ (j:Nat) (k:Wk) (r:Rk) (S:Nat→Prop),j≤N∧i=.int .i64 (j:Int)∧Duo W0 wr S gw gr k r∧Twin k r∧r.L.length≤j) (fun i _=>N-(intOf i).toNat)
 case atStart=>exact ⟨0,_,_,_,by omega,rfl,bu.out,dV.out,by simp [resR]⟩
 case round=>
  obtain ⟨j,k,r,S,hj,rfl,ar,bk,e6⟩:=hrel
  by_cases an:j<N
  · obtain ⟨ad,rfl,A1,c1,B1,d1,E1,m1,cH,ak,cv,bb⟩:=HS.out.at j (by rw [← eq.out];exact an)
    obtain ⟨p0,p1,p2,p3,p4,p5,p6,p7,p8,p9,p10,p11⟩:=bb wr ar.keeps.below
    clear bb
    generalize l[j]'_=x at *
    obtain ⟨f,a⟩:=x
    simp only at p0 p1 p2 p3 p4 p5 p6 p7 p8 p9 p10 p11 cH ak cv
    have bh:(j:Int)<(N:Int):=by omega
    have dB:(0:Int)≤(j:Int):=by omega
    obtain ⟨he,bV⟩:=bk.next cv a
    obtain ⟨n1,cY⟩:∃ n1,n1=f.cols.length:=⟨_,rfl⟩
    obtain ⟨n2,cM⟩:∃ n2,n2=f.block.length:=⟨_,rfl⟩
    obtain ⟨n3,cV⟩:∃ n3,n3=f.ents.length:=⟨_,rfl⟩
    obtain ⟨W4,cI⟩:∃ W4,W4=wr.alloc (.cells #[.int .i64 f.kind,.int .i64 f.number,.slice A1 n1 c1,.int .i64 f.seq,.int .i64 f.first,.int .i64 f.rows,.slice B1 n2 d1,.int .i64 f.spot,.int .i64 f.frames,.int .i64 f.irows,.slice E1 n3 m1,.int .i64 a] 38):=⟨_,rfl⟩
    rw [← cY] at p2
    rw [← cM] at p6
    rw [← cV] at p10
    have dd:frCells A1 c1 B1 d1 E1 m1 f=#[.int .i64 f.kind,.int .i64 f.number,.slice A1 n1 c1,.int .i64 f.seq,.int .i64 f.first,.int .i64 f.rows,.slice B1 n2 d1,.int .i64 f.spot,.int .i64 f.frames,.int .i64 f.irows,.slice E1 n3 m1]:=by rw [cY,cM,cV];rfl
    have aw:Keeps wr W4:=by rw [cI];exact (Keeps.refl wr).alloc _
    have cC:W4.heap[wr.heap.size]? = some (.cells #[.int .i64 f.kind,.int .i64 f.number,.slice A1 n1 c1,.int .i64 f.seq,.int .i64 f.first,.int .i64 f.rows,.slice B1 n2 d1,.int .i64 f.spot,.int .i64 f.frames,.int .i64 f.irows,.slice E1 n3 m1,.int .i64 a] 38 (0,0)):=by rw [cI];exact obj_new wr _
    have dX:wr.heap.size≠gr:=by have:=ar.gr_lt;omega
    have cF:Duo W0 W4.drew (fun b=>S b∧b<wr.heap.size) gw gr k r:=ar.here.below (aw.trans (Keeps.drew W4))
    obtain ⟨S4,dy⟩:∃ S4:Nat→Prop,S4=fun b=>S b∧b<wr.heap.size:=⟨_,rfl⟩
    rw [← dy] at cF
    have cQ:Hid (wr.heap.size<W4.drew.heap.size∧¬S4 wr.heap.size):=Hi ⟨obj_lt cC,by rw [dy];intro h;have:=h.2;omega⟩
    obtain ⟨k',cm⟩:∃ k',k'=(k.next f a).1:=⟨_,rfl⟩
    obtain ⟨r',cJ⟩:∃ r',r'=(r.next f a).1:=⟨_,rfl⟩
    obtain ⟨er,da⟩:∃ er,er=(k.next f a).2:=⟨_,rfl⟩
    have bp:=cF.next bk.ok (c:=c1) (d:=d1) (m:=m1) a (cH.later cF.keeps.below) cv bM.out el.out
    rw [dd,← cm,← da] at bp
    have eA:=Hi bp
    have ep:Hid (∀ X5 S5,Duo W0 X5 S5 gw gr k' r→Calls Tryz.prog 14 #[.pointer (some ⟨gr,0,none⟩),.agg #[.int .i64 f.kind,.int .i64 f.number,.slice A1 n1 c1,.int .i64 f.seq,.int .i64 f.first,.int .i64 f.rows,.slice B1 n2 d1,.int .i64 f.spot,.int .i64 f.frames,.int .i64 f.irows,.slice E1 n3 m1],.int .i64 a] X5 fun e w'=>e=.returned (.int .i64 er)∧∃ S',Duo W0 w' S' gw gr k' r'∧Far X5 w' S5 gr∧∀ b,S' b→S5 b∨X5.heap.size≤b):=Hi fun X5 S5 h5=>by
     have h:=h5.rnext bk.fit (c:=c1) (d:=d1) (m:=m1) a (cH.later h5.keeps.below) ak cv bM.out (by omega)
     rw [dd,← cJ,he,← da] at h
     exact h
    have c7:Hid (Twin k' r'):=Hi (by rw [cm,cJ];exact bV)
    have dp:Hid (∀ X6 S6,Duo W0 X6 S6 gw gr k' r'→Calls Tryz.prog 15 #[.pointer (some ⟨gw,0,none⟩),.pointer (some ⟨gr,0,none⟩),.slice (some ⟨X6.heap.size,0,none⟩) 2 2] (X6.alloc (.cells #[.int .i64 nn,.int .i64 f.number] 2)) fun e w'=>e=.returned (.bool true)∧Keeps X6 w'):=Hi fun X6 S6 h6=>dW.out [nn,f.number] X6 S6 k' r' (by simp) h6 c7.out
    have cZ:r'.L.length≤j+1:=by rw [cJ];have:=r.next_len f a;omega
    have ey:Hid (W4.drew.heap[wr.heap.size]? = some (.cells #[.int .i64 f.kind,.int .i64 f.number,.slice A1 n1 c1,.int .i64 f.seq,.int .i64 f.first,.int .i64 f.rows,.slice B1 n2 d1,.int .i64 f.spot,.int .i64 f.frames,.int .i64 f.irows,.slice E1 n3 m1,.int .i64 a] 38 (0,0))):=Hi cC
    have cP:=cells12 cC
    have y0:W4.cell? ⟨w.heap.size+1,0,none⟩=some (.int .i64 nn):=bW.out W4 (ar.keeps.trans aw)
    clear ar bk cH ak cv he bV dd cF bp cm cJ da aw cC bu e6 cY cM cV dy
    obtain ⟨t0,t1,t2,t3,t4,t5,t6,t7,t8,t9,t10,t11⟩:=cP
    go_wp2_with fail
    rw [← cI]
    clear cI
    refine wp_region_held_drew (S:=fun w'=>w'.cell? ⟨wr.heap.size,0,none⟩=some (.int .i64 f.kind)∧w'.cell? ⟨wr.heap.size,1,none⟩=some (.int .i64 f.number)∧w'.cell? ⟨wr.heap.size,2,none⟩=some (.slice A1 n1 c1)∧w'.cell? ⟨wr.heap.size,3,none⟩=some (.int .i64 f.seq)∧w'.cell? ⟨wr.heap.size,4,none⟩=some (.int .i64 f.first)∧w'.cell? ⟨wr.heap.size,5,none⟩=some (.int .i64 f.rows)∧w'.cell? ⟨wr.heap.size,6,none⟩=some (.slice B1 n2 d1)∧w'.cell? ⟨wr.heap.size,7,none⟩=some (.int .i64 f.spot)∧w'.cell? ⟨wr.heap.size,8,none⟩=some (.int .i64 f.frames)∧w'.cell? ⟨wr.heap.size,9,none⟩=some (.int .i64 f.irows)∧w'.cell? ⟨wr.heap.size,10,none⟩=some (.slice E1 n3 m1)∧w'.cell? ⟨wr.heap.size,11,none⟩=some (.int .i64 a)∧w'.cell? ⟨w.heap.size+1,0,none⟩=some (.int .i64 nn)) (by kernel_rfl) ?_ (fun hHeld=>?_)
    · (try dsimp only);(refine ⟨?_, ?_, ?_, ?_, ?_, ?_, ?_, ?_, ?_, ?_, ?_, ?_, ?_⟩ <;> first | assumption | go_keep)
    refine takeH 0 (v:=?_) rfl (by kernel_rfl) (by kernel_rfl) (by kernel_rfl) (fun _ _ _ h=>h) (Or.inl ⟨by first | kernel_rfl | rfl, ?_⟩) (by assumption) ?_
    rotate_left
    · (intro w h;(try dsimp only at h);go_simp;try with_reducible rfl)
    try simp only [Act.put,sT,sZ,sS]
    refine takeH 1 (v:=?_) rfl (by kernel_rfl) (by kernel_rfl) (by kernel_rfl) (fun _ _ _ h=>h) (Or.inl ⟨by first | kernel_rfl | rfl, ?_⟩) (by assumption) ?_
    rotate_left
    · (intro w h;(try dsimp only at h);go_simp;try with_reducible rfl)
    try simp only [Act.put,sT,sZ,sS]
    refine takeH 2 (v:=?_) rfl (by kernel_rfl) (by kernel_rfl) (by kernel_rfl) (fun _ _ _ h=>h) (Or.inl ⟨by first | kernel_rfl | rfl, ?_⟩) (by assumption) ?_
    rotate_left
    · (intro w h;(try dsimp only at h);go_simp;try with_reducible rfl)
    try simp only [Act.put,sT,sZ,sS]
    refine takeH 3 (v:=?_) rfl (by kernel_rfl) (by kernel_rfl) (by kernel_rfl) (fun _ _ _ h=>h) (Or.inl ⟨by first | kernel_rfl | rfl, ?_⟩) (by assumption) ?_
    rotate_left
    · (intro w h;(try dsimp only at h);go_simp;try with_reducible rfl)
    try simp only [Act.put,sT,sZ,sS]
    refine takeH 4 (v:=?_) rfl (by kernel_rfl) (by kernel_rfl) (by kernel_rfl) (fun _ _ _ h=>h) (Or.inl ⟨by first | kernel_rfl | rfl, ?_⟩) (by assumption) ?_
    rotate_left
    · (intro w h;(try dsimp only at h);go_simp;try with_reducible rfl)
    try simp only [Act.put,sT,sZ,sS]
    refine takeH 6 (v:=?_) rfl (by kernel_rfl) (by kernel_rfl) (by kernel_rfl) (fun _ _ _ h=>h) (Or.inl ⟨by first | kernel_rfl | rfl, ?_⟩) (by assumption) ?_
    rotate_left
    · (intro w h;(try dsimp only at h);go_simp;try with_reducible rfl)
    try simp only [Act.put,sT,sZ,sS]
    refine takeH 7 (v:=?_) rfl (by kernel_rfl) (by kernel_rfl) (by kernel_rfl) (fun _ _ _ h=>h) (Or.inl ⟨by first | kernel_rfl | rfl, ?_⟩) (by assumption) ?_
    rotate_left
    · (intro w h;(try dsimp only at h);go_simp;try with_reducible rfl)
    try simp only [Act.put,sT,sZ,sS]
    refine takeH 8 (v:=?_) rfl (by kernel_rfl) (by kernel_rfl) (by kernel_rfl) (fun _ _ _ h=>h) (Or.inl ⟨by first | kernel_rfl | rfl, ?_⟩) (by assumption) ?_
    rotate_left
    · (intro w h;(try dsimp only at h);go_simp;try with_reducible rfl)
    try simp only [Act.put,sT,sZ,sS]
    refine takeH 9 (v:=?_) rfl (by kernel_rfl) (by kernel_rfl) (by kernel_rfl) (fun _ _ _ h=>h) (Or.inl ⟨by first | kernel_rfl | rfl, ?_⟩) (by assumption) ?_
    rotate_left
    · (intro w h;(try dsimp only at h);go_simp;try with_reducible rfl)
    try simp only [Act.put,sT,sZ,sS]
    refine takeH 10 (v:=?_) rfl (by kernel_rfl) (by kernel_rfl) (by kernel_rfl) (fun _ _ _ h=>h) (Or.inl ⟨by first | kernel_rfl | rfl, ?_⟩) (by assumption) ?_
    rotate_left
    · (intro w h;(try dsimp only at h);go_simp;try with_reducible rfl)
    try simp only [Act.put,sT,sZ,sS]
    refine nextH 5 (by kernel_rfl) rfl (fun KQ hK=>?_)
    go_simp
    (try go_at_call 13)
    refine (eA.out).mono ?_
    rintro e w5 ⟨rfl,S5,hd,aM,bS⟩
    have an:=cQ.out
    have hb:=(aM wr.heap.size an.1 an.2 dX).trans ey.out
    have hx:¬S5 wr.heap.size:=fun h=>(bS _ h).elim an.2 fun h=>by have:=an.1;omega
    obtain ⟨z0,z1,z2,z3,z4,z5,z6,z7,z8,z9,z10,z11⟩:=cells12 hb
    have zy:w5.cell? ⟨w.heap.size+1,0,none⟩=some (.int .i64 nn):=bW.out w5 hd.keeps
    have ez:=Hi hd
    have dG:=Hi hb
    have eg:=Hi hx
    clear hd aM bS hb hx an
    refine hK.out _ _ ?_ (fun hHeld=>?_)
    · (try dsimp only);(refine ⟨?_, ?_, ?_, ?_, ?_, ?_, ?_, ?_, ?_, ?_, ?_, ?_, ?_⟩ <;> first | assumption | go_keep)
    clear hK KQ
    try simp only [Act.put,sT,sZ,sS]
    refine nextH 11 (by kernel_rfl) rfl (fun KQ hK=>?_)
    go_simp
    (try go_at_call 14)
    refine (ep.out w5 S5 ez.out).mono ?_
    rintro e w6 ⟨rfl,S6,hd,aM,bS⟩
    have an:=(⟨obj_lt dG.out,eg.out⟩:wr.heap.size<w5.heap.size∧¬S5 wr.heap.size)
    have hb:=(aM wr.heap.size an.1 an.2 dX).trans dG.out
    have hx:¬S6 wr.heap.size:=fun h=>(bS _ h).elim an.2 fun h=>by have:=an.1;omega
    obtain ⟨y0,y1,y2,y3,y4,y5,y6,y7,y8,y9,y10,y11⟩:=cells12 hb
    have yy:w6.cell? ⟨w.heap.size+1,0,none⟩=some (.int .i64 nn):=bW.out w6 hd.keeps
    have dU:=Hi hd
    have dM:=Hi hb
    have eD:=Hi hx
    clear hd aM bS hb hx an
    refine hK.out _ _ ?_ (fun hHeld=>?_)
    · (try dsimp only);(refine ⟨?_, ?_, ?_, ?_, ?_, ?_, ?_, ?_, ?_, ?_, ?_, ?_, ?_⟩ <;> first | assumption | go_keep)
    clear hK KQ
    try simp only [Act.put,sT,sZ,sS]
    refine takeH 12 (v:=?_) rfl (by kernel_rfl) (by kernel_rfl) (by kernel_rfl) (fun _ _ _ h=>h) (Or.inl ⟨by first | kernel_rfl | rfl, ?_⟩) (by assumption) ?_
    rotate_left
    · (intro w h;(try dsimp only at h);go_simp;try with_reducible rfl)
    try simp only [Act.put,sT,sZ,sS]
    refine takeH 13 (v:=?_) rfl (by kernel_rfl) (by kernel_rfl) (by kernel_rfl) (fun _ _ _ h=>h) (Or.inl ⟨by first | kernel_rfl | rfl, ?_⟩) (by assumption) ?_
    rotate_left
    · (intro w h;(try dsimp only at h);go_simp;try with_reducible rfl)
    try simp only [Act.put,sT,sZ,sS]
    refine takeH 14 (v:=?_) rfl (by kernel_rfl) (by kernel_rfl) (by kernel_rfl) (fun _ _ _ h=>h) (Or.inl ⟨by first | kernel_rfl | rfl, ?_⟩) (by assumption) ?_
    rotate_left
    · (intro w h;(try dsimp only at h);go_simp;try with_reducible rfl)
    try simp only [Act.put,sT,sZ,sS]
    refine takeH 15 (v:=?_) rfl (by kernel_rfl) (by kernel_rfl) (by kernel_rfl) (fun _ _ _ h=>h) (Or.inl ⟨by first | kernel_rfl | rfl, ?_⟩) (by assumption) ?_
    rotate_left
    · (intro w h;(try dsimp only at h);go_simp;try with_reducible rfl)
    try simp only [Act.put,sT,sZ,sS]
    refine takeH 16 (v:=?_) rfl (by kernel_rfl) (by kernel_rfl) (by kernel_rfl) (fun _ _ _ h=>h) (Or.inl ⟨by first | kernel_rfl | rfl, ?_⟩) (by assumption) ?_
    rotate_left
    · (intro w h;(try dsimp only at h);go_simp;try with_reducible rfl)
    try simp only [Act.put,sT,sZ,sS]
    refine takeH 17 (v:=?_) rfl (by kernel_rfl) (by kernel_rfl) (by kernel_rfl) (fun _ _ _ h=>h) (Or.inl ⟨by first | kernel_rfl | rfl, ?_⟩) (by assumption) ?_
    rotate_left
    · (intro w h;(try dsimp only at h);go_simp;try with_reducible rfl)
    try simp only [Act.put,sT,sZ,sS]
    refine takeH 18 (v:=?_) rfl (by kernel_rfl) (by kernel_rfl) (by kernel_rfl) (fun _ _ _ h=>h) (Or.inl ⟨by first | kernel_rfl | rfl, ?_⟩) (by assumption) ?_
    rotate_left
    · (intro w h;(try dsimp only at h);go_simp;try with_reducible rfl)
    try simp only [Act.put,sT,sZ,sS]
    refine takeH 19 (v:=?_) rfl (by kernel_rfl) (by kernel_rfl) (by kernel_rfl) (fun _ _ _ h=>h) (Or.inl ⟨by first | kernel_rfl | rfl, ?_⟩) (by assumption) ?_
    rotate_left
    · (intro w h;(try dsimp only at h);go_simp;try with_reducible rfl)
    try simp only [Act.put,sT,sZ,sS]
    refine takeH 20 (v:=?_) rfl (by kernel_rfl) (by kernel_rfl) (by kernel_rfl) (fun _ _ _ h=>h) (Or.inl ⟨by first | kernel_rfl | rfl, ?_⟩) (by assumption) ?_
    rotate_left
    · (intro w h;(try dsimp only at h);go_simp;try with_reducible rfl)
    try simp only [Act.put,sT,sZ,sS]
    refine nextH 21 (by kernel_rfl) rfl (fun KQ hK=>?_)
    go_simp
    refine hK.out _ _ ?_ (fun hHeld=>?_)
    · (try dsimp only);(refine ⟨?_, ?_, ?_, ?_, ?_, ?_, ?_, ?_, ?_, ?_, ?_, ?_, ?_⟩ <;> first | assumption | go_keep)
    clear hK KQ
    try simp only [Act.put,sT,sZ,sS]
    refine nextH 22 (by kernel_rfl) rfl (fun KQ hK=>?_)
    go_simp
    (try go_at_call 15)
    refine (dp.out w6 S6 dU.out).mono ?_
    rintro e w7 ⟨rfl,cU⟩
    have hb:=(cU.below.block _ (obj_lt dM.out)).trans dM.out
    obtain ⟨x0,x1,x2,x3,x4,x5,x6,x7,x8,x9,x10,x11⟩:=cells12 hb
    have dI:=Hi (dU.out.below cU)
    have xy:w7.cell? ⟨w.heap.size+1,0,none⟩=some (.int .i64 nn):=bW.out w7 dI.out.keeps
    clear hb cU
    refine hK.out _ _ ?_ (fun hHeld=>?_)
    · (try dsimp only);(refine ⟨?_, ?_, ?_, ?_, ?_, ?_, ?_, ?_, ?_, ?_, ?_, ?_, ?_⟩ <;> first | assumption | go_keep)
    clear hK KQ
    try simp only [Act.put,sT,sZ,sS]
    refine takeH 23 (v:=?_) rfl (by kernel_rfl) (by kernel_rfl) (by kernel_rfl) (fun _ _ _ h=>h) (Or.inl ⟨by first | kernel_rfl | rfl, ?_⟩) (by assumption) ?_
    rotate_left
    · (intro w h;(try dsimp only at h);go_simp;try with_reducible rfl)
    try simp only [Act.put,sT,sZ,sS]
    refine takeH 24 (v:=?_) rfl (by kernel_rfl) (by kernel_rfl) (by kernel_rfl) (fun _ _ _ h=>h) (Or.inl ⟨by first | kernel_rfl | rfl, ?_⟩) (by assumption) ?_
    rotate_left
    · (intro w h;(try dsimp only at h);go_simp;try with_reducible rfl)
    try simp only [Act.put,sT,sZ,sS]
    refine wpAnyH_done (by kernel_rfl) ?_ _
    go_wp2
    exact ⟨⟨j+1,k',r',S6,by omega,by go_num,dI.out,c7.out,cZ⟩,by simp [intOf];omega⟩
  · have bh:¬(j:Int)<(N:Int):=by omega
    have dj:=Hi (dE.out.trans ar.keeps)
    clear ar bk bu
    go_wp2
    go_ret
    exact ⟨rfl,dj.out⟩
end
end Go.Proofs.YtihodcnnappkbaaGreatDoor
