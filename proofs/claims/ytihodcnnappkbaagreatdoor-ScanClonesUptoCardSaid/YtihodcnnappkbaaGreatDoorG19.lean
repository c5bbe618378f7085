/-
  What the laws of walks ask first: live. Condition: the tables are as laid.
-/
import Derived.Test.YtihodcnnappkbaaGreatDoorG17
import Derived.Test.YtihodcnnappkbaaGreatDoorG14
import Derived.Test.YtihodcnnappkbaaGreatDoorG18
import Derived.Test.YtihodcnnappkbaaGreatDoorG11
import Derived.Test.YtihodcnnappkbaaGreatDoorG12
namespace Go.Proofs.YtihodcnnappkbaaGreatDoor
open Go.RowKit Go.BigFrame
set_option linter.unusedVariables false
set_option linter.unusedSimpArgs false
attribute [local go_sem] run_storeF
theorem frSame_kind {a b:Fr} (h:frSame a b=true):a.kind=b.kind:=by
 unfold frSame at h
 by_cases e:a.kind=b.kind
 · exact e
 · rw [if_neg e] at h;cases h
theorem Loose.one3 {w:World} {base:Nat} {e:TypeId} {v x y z:Value} (h:Loose w base e 3 v 1 [x,y,z]) :
 ∃ g c,v=.slice (some ⟨g,0,none⟩) 1 c∧1≤c∧w.cell? ⟨g,0,none⟩=some x∧w.cell? ⟨g,1,none⟩=some y∧w.cell? ⟨g,2,none⟩=some z:=by
 have hf:=h.form
 rcases h with ⟨A,_,h1,_⟩ | ⟨g,c,rfl,_,_⟩
 · cases h1
 · obtain ⟨A,c',e1,dh,bT,_⟩:=hf
   injection e1 with e1 e2 e3
   subst e1 e3
   have each:∀ i u,[x,y,z][i]? = some u→w.cell? ⟨g,i,none⟩=some u:=fun i u hu=>by
    obtain ⟨ad,e2,hc⟩:=bT i u hu
    cases e2
    have e3:(⟨g,0,none⟩:Addr).add i=⟨g,i,none⟩:=by rw [addr_add_mk];simp
    rwa [e3] at hc
   exact ⟨g,c,rfl,dh,each 0 x rfl,each 1 y rfl,each 2 z rfl⟩
def liveD (l:List UInt8):Dv:=((Dv.fresh 100).write l).1
theorem liveD_facts {l:List UInt8} (h:l.length≤17):(liveD l).b=l∧(liveD l).down=false∧(liveD l).counted=0∧(liveD l).Ok:=by
 have e:liveD l = { Dv.fresh 100 with b:=[]++l,deeds:=0+l.length }:=by
  unfold liveD Dv.write
  rw [if_neg (by simp [Dv.fresh]),if_neg (by simp [Dv.fresh];omega),put_none l _ rfl]
  rfl
 refine ⟨by rw [e];rfl,by rw [e];rfl,by rw [e];rfl, ?_⟩
 exact write_ok (fresh_ok 100 (by omega)) l
set_option maxRecDepth 40000 in
set_option maxHeartbeats 16000000 in
theorem scanLive_calls (w:World) (cB:Tabs w) (ht:Table w) :
 Calls Tryz.prog 10 #[] w fun e w'=>e=.returned (.bool true)∧Keeps w w':=by
 obtain ⟨l,hl,dp,bM⟩:=small_enc
 obtain ⟨hb,bN,cm,aL⟩:=liveD_facts bM
 obtain ⟨f',cT,ax⟩:=fetch_enc (d:=liveD l) (rest:=[]) smallF_wf hl (by rw [hb];simp) bN
 have bi:f'.kind=1:=frSame_kind ax
 obtain ⟨df1,df2,df3,df4,df5⟩:=fetchD_facts (liveD l) 0
 have bj:fetch (fetchD (liveD l) 0) (l.length:Int)=.error 140:=by
  have h:=fetch_end (d:=fetchD (liveD l) 0) (by rw [df2];exact bN)
  rwa [df1,hb] at h
 have HB:=Hi hb
 have HL:=Hi hl
 have dd:=Hi cT
 have c6:=Hi bj
 have df:=Hi aL
 have bY:=Hi (df5 aL)
 have cD:=Hi cm
 have bX:=Hi df4
 have aa:Hid (∀ a,Keeps w a→Tabs a∧Table a):=Hi fun a hk=>⟨cB.below hk.below,ht.later hk.below⟩
 clear cB ht hb hl cT bj aL cm df1 df2 df3 df4 df5 bN ax
 go_enter Tryz.func10,Tryz.ntmps10
 go_wp2_with fail
 refine (scanNew_calls w).mono ?_
 rintro e w1 ⟨g,rfl,hg,bQ,aN⟩
 have dl:=bQ.lt
 have bv:=Hi bQ.here
 have cU:=Hi aN
 have dg:=aN.size
 clear bQ aN
 go_wp2_with fail
 refine (one_calls w1).mono ?_
 rintro e w2 ⟨g1,dr,rfl,cY,am⟩
 have dk:=am.size
 obtain ⟨W5,aE⟩:∃ W5,W5=((w2.alloc (.cells #[.int .i64 1,.int .i64 0,.slice (some ⟨g1,0,none⟩) 1 1,.int .i64 0,.int .i64 0,.int .i64 0,.slice none 0 0,.int .i64 0,.int .i64 0,.int .i64 0,.slice none 0 0] 36)).alloc (.cells #[.int .u8 0,.int .u8 2,.int .u8 4] 5)).alloc (.cells #[.int .i64 2,.int .i64 0,.slice none 0 0,.int .i64 0,.int .i64 0,.int .i64 2,.slice (some ⟨w2.heap.size+1,0,none⟩) 3 3,.int .i64 0,.int .i64 0,.int .i64 0,.slice none 0 0] 36):=⟨_,rfl⟩
 have al:Keeps w2 W5:=by rw [aE];exact (((Keeps.refl w2).alloc _).alloc _).alloc _
 have aY:w2.heap.size+3=W5.heap.size:=by rw [aE];simp
 have ct:W5.heap[w2.heap.size]? = some (.cells #[.int .i64 1,.int .i64 0,.slice (some ⟨g1,0,none⟩) 1 1,.int .i64 0,.int .i64 0,.int .i64 0,.slice none 0 0,.int .i64 0,.int .i64 0,.int .i64 0,.slice none 0 0] 36 (0,0)):=by rw [aE];exact obj_old (obj_old (obj_new w2 _) _) _
 have c1:W5.heap[w2.heap.size+2]? = some (.cells #[.int .i64 2,.int .i64 0,.slice none 0 0,.int .i64 0,.int .i64 0,.int .i64 2,.slice (some ⟨w2.heap.size+1,0,none⟩) 3 3,.int .i64 0,.int .i64 0,.int .i64 0,.slice none 0 0] 36 (0,0)):=by rw [aE];exact obj_new_at _ _ _ (by simp)
 have cj:RowAt W5 (some ⟨w2.heap.size+1,0,none⟩) [.int .u8 0,.int .u8 2,.int .u8 4]:=by
  rw [aE]
  exact (RowAt.new_at (w2.alloc _) _ _ _ _ rfl _ (by simp)).below ((Keeps.refl _).alloc _).below
 have ck:FrS W5 (fun j=>w1.heap.size≤j∧j<W5.heap.size) (some ⟨g1,0,none⟩) none none smallF:=
  ⟨(cY.later al.below).mono fun j hj h=>⟨h,hj⟩,Reads.nil _ _,fun a e=>(by cases e),RowAt.nil _ _,fun a e=>(by cases e),by decide,by decide⟩
 have c7:FrS W5 (fun j=>w1.heap.size≤j∧j<W5.heap.size) none (some ⟨w2.heap.size+1,0,none⟩) none dataF:=
  ⟨SchS.nil _ _ _,cj,fun a e _=>(by cases e;exact ⟨show w1.heap.size≤w2.heap.size+1 by omega,show w2.heap.size+1<W5.heap.size by omega⟩),RowAt.nil _ _,fun a e=>(by cases e),by decide,by decide⟩
 obtain ⟨U,hU⟩:∃ U:Nat→Prop,U=fun j=>(w.heap.size≤j∧j<w1.heap.size)∨W5.heap.size≤j:=⟨_,rfl⟩
 have aW:WkV W5 U g Wk.fresh:=by
  rw [hU]
  exact (bv.out.below (am.trans al).below).mono fun j _ h=>.inl h
 have c8:∀ j,U j→w.heap.size≤j:=fun j h=>by rw [hU] at h;rcases h with h | h <;> omega
 have aV:∀ j,w1.heap.size≤j∧j<W5.heap.size→¬U j:=fun j h h2=>by rw [hU] at h2;rcases h2 with h2 | h2 <;> omega
 have cQ:∀ X:World,W5.heap.size≤X.heap.size→∀ j,More U X j→U j:=fun X hX j h=>by
  rcases h with h | h
  · exact h
  · rw [hU];exact .inr (Nat.le_trans hX h)
 have cf:Keeps w W5:=cU.out.trans (am.trans al)
 have aQ:∀ X:World,Touch U W5 X→Keeps w X:=fun X h=>Touch.nothing (F:=U) ((Touch.of_below cf.below fun j hj h=>absurd hj (by omega)).then h) fun j hj h=>by have:=c8 j h;omega
 have ay:∀ (A B E:Option Addr) (c d m:Nat) (f:Fr) (a:Int) (k:Wk) (X:World),Touch U W5 X→WkV X U g k→k.ok→FrS W5 (fun j=>w1.heap.size≤j∧j<W5.heap.size) A B E f→f.wf →
  Calls Tryz.prog 13 #[.pointer (some ⟨g,0,none⟩),.agg (frCells A c B d E m f),.int .i64 a] X fun e w'=>e=.returned (.int .i64 (k.next f a).2)∧WkV w' U g (k.next f a).1∧Touch U X w':=fun A B E c d m f a k X hX hk di hf hw=>
  (scanNext_calls g U k A B E c d m f a X hk di ((hf.touch (F:=U) hX aV).mono fun j hj h=>⟨hj,aV j h⟩) hw fun w' h=>aa.out w' (aQ w' (hX.then h))).mono fun e w' h=>⟨h.1,h.2.1.mono fun j _ h=>cQ X hX.size j h,h.2.2⟩
 have cb:¬U w2.heap.size:=aV _ ⟨by omega,by omega⟩
 have ca:¬U (w2.heap.size+2):=aV _ ⟨by omega,by omega⟩
 have a0:=Hi ay
 have bg:=Hi aQ
 have bS:=Hi ct
 have c3:=Hi c1
 have bW:=Hi ck
 have bD:=Hi c7
 have cy:=Hi aV
 have bO:=Hi cb
 have bP:=Hi ca
 have br:=Hi aW
 obtain ⟨⟨d0,d1,d2,d3,d4,d5,d6,d7,d8,d9,d10⟩,_⟩:=cells11 c1
 have bK:=Hi aY
 clear cY am al ct c1 cj ck c7 aW c8 aV cQ cf aQ ay cb ca bv cU hU aY
 go_wp2_with fail
 rw [← aE]
 clear aE
 have h6:=a0.out none (some ⟨w2.heap.size+1,0,none⟩) none 0 3 0 dataF 0 Wk.fresh W5 (Touch.refl _ _) br.out wkFresh_ok bD.out dataF_wf
 rw [live_k0] at h6
 refine Calls.mono h6 ?_
 clear h6
 rintro e w6 ⟨rfl,cq,bG⟩
 have c9:=bG.obj bS.out bO.out
 clear d0 d1 d2 d3 d4 d5 d6 d7 d8 d9 d10
 obtain ⟨⟨d0,d1,d2,d3,d4,d5,d6,d7,d8,d9,d10⟩,_⟩:=cells11 c9
 have c5:=Hi bG
 have bo:=Hi cq
 clear c9 cq bG
 go_wp2_with fail
 have h7:=a0.out (some ⟨g1,0,none⟩) none none 1 0 0 smallF 0 Wk.fresh w6 c5.out bo.out wkFresh_ok bW.out smallF_wf
 have aT:=Wk.ok.next wkFresh_ok smallF 0
 rw [live_k1] at h7 aT
 have aS:=Hi aT
 clear aT
 refine Calls.mono h7 ?_
 clear h7
 rintro e w7 ⟨rfl,cv,cN⟩
 have bx:=Hi (c5.out.then cN)
 have cz:=bx.out.obj c3.out bP.out
 clear d0 d1 d2 d3 d4 d5 d6 d7 d8 d9 d10
 obtain ⟨⟨d0,d1,d2,d3,d4,d5,d6,d7,d8,d9,d10⟩,_⟩:=cells11 cz
 have bp:=Hi cv
 clear cz cv cN c5 bo
 go_wp2_with fail
 have h8:=a0.out none (some ⟨w2.heap.size+1,0,none⟩) none 0 3 0 dataF 20 kOne w7 bx.out bp.out aS.out bD.out dataF_wf
 have aD:=Wk.ok.next aS.out dataF 20
 rw [live_k2] at h8 aD
 have aq:=Hi aD
 clear aD
 refine Calls.mono h8 ?_
 clear h8
 rintro e w8 ⟨rfl,db,cZ⟩
 have bz:=Hi (bx.out.then cZ)
 have cK:=bz.out.obj c3.out bP.out
 clear d0 d1 d2 d3 d4 d5 d6 d7 d8 d9 d10
 obtain ⟨⟨d0,d1,d2,d3,d4,d5,d6,d7,d8,d9,d10⟩,_⟩:=cells11 cK
 have bm:=Hi db
 clear cK db cZ bx bp aS
 go_wp2_with fail
 have h9:=a0.out none (some ⟨w2.heap.size+1,0,none⟩) none 0 3 0 dataF 40 kTwo w8 bz.out bm.out aq.out bD.out dataF_wf
 rw [live_k3] at h9
 refine Calls.mono h9 ?_
 clear h9
 rintro e w9 ⟨rfl,cn,cP⟩
 have bC:=Hi (bz.out.then cP)
 have ch:=bC.out.obj bS.out bO.out
 have cr:=bW.out.touch (F:=U) bC.out cy.out
 have bb:=bg.out w9 bC.out
 have bI:=Hi ch
 have cR:=Hi cr
 have aI:=Hi cn
 have cO:=Hi bb
 clear d0 d1 d2 d3 d4 d5 d6 d7 d8 d9 d10 ch cr cn bb cP bz bm a0 bg bS c3 bW bD bO bP bC br bK cy aq
 go_wp2_with fail
 refine (scanEntries_calls g U kTwo w9 aI.out (by decide)).mono ?_
 rintro e w10 ⟨v10,rfl,b9,a1⟩
 obtain ⟨ge,ce,rfl,dq,x0,x1,x2⟩:=Loose.one3 (x:=.int .i64 20) (y:=.int .i64 0) (z:=.int .i64 0) b9
 have ap:=cO.out.trans a1
 have bR:=Hi x0
 have bZ:=Hi x1
 have c0:=Hi x2
 have ae:=Hi (aI.out.below a1.below)
 have aM:=Hi ((a1.below.block _ (obj_lt bI.out)).trans bI.out)
 have bn:=Hi (cR.out.later a1.below)
 have aK:=Hi ap
 clear b9 x0 x1 x2 a1 ap aI bI cR cO
 go_wp2_with fail
 refine (scanSchema_calls g U kTwo 0 w10 ae.out kTwo_fine fun w' hk=>(aa.out w' (aK.out.trans hk)).1).mono ?_
 rintro e w11 ⟨A11,c11,rfl,be,av⟩
 rw [show (kTwo.at 0).isSome=true from rfl]
 obtain ⟨NS,c2⟩:∃ NS,NS=(kTwo.schema 0).length:=⟨_,rfl⟩
 rw [← c2]
 obtain ⟨W12,ab⟩:∃ W12,W12=w11.alloc (.cells #[.slice A11 NS c11] 30):=⟨_,rfl⟩
 have a3:Keeps w10 W12:=by rw [ab];exact av.alloc _
 have cS:W12.heap[w11.heap.size]? = some (.cells #[.slice A11 NS c11] 30 (0,0)):=by rw [ab];exact obj_new _ _
 have b8:=(be.later (w':=W12) (by rw [ab];exact ((Keeps.refl w11).alloc _).below)).mono fun j hj _=>hj
 have aG:=Hi ((a3.below.cell (World.block_lt_of_cell? w10 _ bR.out)).trans bR.out)
 have aC:=Hi ((a3.below.cell (World.block_lt_of_cell? w10 _ bZ.out)).trans bZ.out)
 have az:=Hi ((a3.below.cell (World.block_lt_of_cell? w10 _ c0.out)).trans c0.out)
 have an:=Hi (ae.out.below a3.below)
 have aF:=Hi ((a3.below.block _ (obj_lt aM.out)).trans aM.out)
 have aX:=Hi (bn.out.later a3.below)
 have af:=Hi (aK.out.trans a3)
 have bV:=Hi cS
 have bh:=Hi b8
 have de:=Hi c2
 clear be av a3 cS b8 c2 bR bZ c0 ae aM bn aK
 go_wp2_with fail
 rw [← ab]
 clear ab
 refine (new_yes 100 W12 (by omega) (by omega)).mono ?_
 rintro e w13 ⟨rfl,ak⟩
 have ag:Keeps W12 w13:=by rw [← ak];exact (Keeps.refl W12).alloc _
 have bw:DV w13 (At W12.heap.size) W12.heap.size (Dv.fresh 100):=by rw [← ak];exact fresh_dv W12 100
 have cE:W12.heap.size+1≤w13.heap.size:=by rw [← ak];simp
 have bl:=(ag.below.block _ (obj_lt aF.out)).trans aF.out
 obtain ⟨⟨d0,d1,d2,d3,d4,d5,d6,d7,d8,d9,d10⟩,_⟩:=cells11 bl
 have aP:=aa.out w13 (af.out.trans ag)
 have bJ:=encode_calls (some ⟨g1,0,none⟩) none none 1 0 0 smallF w13 ((aX.out.later ag.below).mono fun j hj _=>hj) smallF_wf aP.1 aP.2
 rw [HL.out] at bJ
 have cX:=Hi bJ
 have bc:=Hi bw
 have bd:=Hi ag
 clear ak ag bw bl aP bJ
 go_wp2_with fail
 refine cX.out.mono ?_
 rintro e w14 ⟨v14,rfl,ai,a8⟩
 obtain ⟨A14,c14,rfl,cM,bk,cA,_⟩:=ai.form
 have ar:∀ a,A14=some a→l≠[]→¬At W12.heap.size a.block:=fun a e hn h=>by
  subst e
  have dt:0<c14:=by omega
  have:=(own_lt ai a.block rfl)
  have h2:=ai.lt a.block rfl
  rw [At] at h
  omega
 have co:=a8.size
 have cG:=write_calls W12.heap.size (At W12.heap.size) (Dv.fresh 100) A14 c14 l w14 (bc.out.below a8.below) (fresh_ok 100 (by omega)) bk ar (by omega) (by simp only [Dv.fresh];omega)
 have cL:=Hi cG
 have b7:=Hi (bd.out.trans a8)
 clear d0 d1 d2 d3 d4 d5 d6 d7 d8 d9 d10 ai bk ar a8 cG cX bc bd
 generalize cw:l.length=LL at *
 have du:=Hi cw
 clear cw
 go_wp2_with fail
 refine cL.out.mono ?_
 rintro e w15 ⟨rfl,aj,aR⟩
 have cp:=aR.size
 have aJ:Keeps W12 w15:=Touch.nothing (F:=At W12.heap.size) ((Touch.of_below b7.out.below fun j hj h=>absurd hj (by omega)).then aR) fun j hj e=>by rw [At] at e;omega
 obtain ⟨T,hT⟩:∃ T:Nat→Prop,T=fun j=>More (At W12.heap.size) w14 j∧j<w15.heap.size:=⟨_,rfl⟩
 have da:∀ j,T j→W12.heap.size≤j:=fun j h=>by
  rw [hT] at h
  rcases h.1 with h | h
  · rw [At] at h;omega
  · omega
 have cF:∀ j,T j→j<w15.heap.size:=fun j h=>by rw [hT] at h;exact h.2
 have aj:DV w15 T W12.heap.size (liveD l):=by rw [hT];exact (show DV w15 (More (At W12.heap.size) w14) W12.heap.size (liveD l) from aj).here
 have ac:∀ X Y:World,Keeps W12 X→Touch T X Y→Keeps W12 Y:=fun X Y h1 h2=>Touch.nothing (F:=T) ((Touch.of_below h1.below fun j hj h=>absurd hj (by omega)).then h2) fun j hj h=>by have:=da j h;omega
 have bU:=scanAt_calls W12.heap.size T (liveD l) 0 w15 aj df.out (by rw [cD.out];omega) fun w' h=>aa.out w' (af.out.trans (ac w15 w' aJ h))
 rw [dd.out] at bU
 have cd:=Hi bU
 have aZ:=Hi aJ
 have bA:=Hi ac
 have cW:=Hi cF
 clear aj aR aJ hT cF da ac bU cL b7
 go_wp2_with fail
 refine cd.out.mono ?_
 rintro e w16 ⟨⟨P1,m1,P2,m2,P3,m3,rfl,dj⟩,b6,aB⟩
 have bu:=bA.out w15 w16 aZ.out aB
 obtain ⟨W17,a9⟩:∃ W17,W17=w16.alloc (.cells (frCells P1 m1 P2 m2 P3 m3 f') 36):=⟨_,rfl⟩
 have a7:Keeps w16 W17:=by rw [a9];exact (Keeps.refl w16).alloc _
 have cV:W17.heap[w16.heap.size]? = some (.cells (frCells P1 m1 P2 m2 P3 m3 f') 36 (0,0)):=by rw [a9];exact obj_new _ _
 have aA:=bu.trans a7
 have aU:=scanAt_calls W12.heap.size T (fetchD (liveD l) 0) (LL:Int) W17 (b6.below a7.below) bY.out (by have:=cD.out;have:=bX.out;omega) fun w' h=>aa.out w' (af.out.trans (bA.out W17 w' aA h))
 rw [c6.out] at aU
 have bt:=Hi aU
 have bB:=Hi cV
 have ba:=Hi aA
 unfold frCells at a9 bB ⊢
 rw [bi] at a9 bB
 have cs:=aB.size
 clear dj b6 aB bu a7 cV aA aU cd aZ
 generalize f'.cols.length=y1 at *
 generalize f'.block.length=y2 at *
 generalize f'.ents.length=y3 at *
 go_wp2_with fail
 rw [← a9]
 clear a9
 refine bt.out.mono ?_
 rintro e w18 ⟨rfl,bH,aO⟩
 have bf:=bA.out W17 w18 ba.out aO
 have ah:=aO.obj bB.out (fun h=>by have:=cW.out _ h;omega)
 rw [show frCells none 0 none 0 none 0 frZero=#[.int .i64 0,.int .i64 0,.slice none 0 0,.int .i64 0,.int .i64 0,.int .i64 0,.slice none 0 0,.int .i64 0,.int .i64 0,.int .i64 0,.slice none 0 0] from rfl]
 obtain ⟨W19,aH⟩:∃ W19,W19=w18.alloc (.cells #[.int .i64 0,.int .i64 0,.slice none 0 0,.int .i64 0,.int .i64 0,.int .i64 0,.slice none 0 0,.int .i64 0,.int .i64 0,.int .i64 0,.slice none 0 0] 36):=⟨_,rfl⟩
 have a6:Keeps w18 W19:=by rw [aH];exact (Keeps.refl w18).alloc _
 have a2:=bf.trans a6
 have ao:=(a6.below.block _ (obj_lt ah)).trans ah
 have au:=Hi ao
 have z0:=(a2.below.cell (World.block_lt_of_cell? W12 _ aG.out)).trans aG.out
 have z1:=(a2.below.cell (World.block_lt_of_cell? W12 _ aC.out)).trans aC.out
 have z2:=(a2.below.cell (World.block_lt_of_cell? W12 _ az.out)).trans az.out
 obtain ⟨t0,_⟩:=cells1 ((a2.below.block _ (obj_lt bV.out)).trans bV.out)
 have aw:=Hi (an.out.below a2.below)
 have bs:=Hi (bh.out.later a2.below)
 have bq:=Hi (af.out.trans a2)
 have e1:kTwo.frames=1:=rfl
 have e2:kTwo.rows=2:=rfl
 have e3:kTwo.number=0:=rfl
 have e4:kTwo.since=1:=rfl
 clear bH aO bf ah a6 a2 ao bt bB ba an bh bV aG aC az aF aX af bA cW
 go_wp2_with fail
 rw [← aH]
 clear aH
 have bE:=Hi (aw.out.below (Keeps.drew W19).below)
 have cC:=Hi z0
 have cu:=Hi z1
 have cg:=Hi z2
 have cx:=Hi t0
 have dn:=Hi (bs.out.later (Keeps.drew W19).below)
 obtain ⟨⟨k0,k1,k2,k3,k4,k5,k6,k7,k8,k9,k10⟩,_⟩:=cells11 au.out
 have cJ:=Hi k0
 have dm:=Hi (bq.out.trans (Keeps.drew W19))
 clear k1 k2 k3 k4 k5 k6 k7 k8 k9 k10 bs aw bq au
 simp only [List.append]
 go_region_held3 (fun w'=>w'.cell? ⟨ge,0,none⟩=some (.int .i64 20)∧w'.cell? ⟨ge,1,none⟩=some (.int .i64 0)∧w'.cell? ⟨ge,2,none⟩=some (.int .i64 0)∧w'.cell? ⟨w11.heap.size,0,none⟩=some (.slice A11 NS c11)∧w'.cell? ⟨w16.heap.size,0,none⟩=some (.int .i64 1)) (go_keep) (first
  | (go_simp;go_at_call 28;refine (scanFrames_calls g U kTwo W19.drew bE.out).mono ?_;rintro e wx ⟨rfl,rfl⟩)
  | (go_simp;go_at_call 29;refine (scanRows_calls g U kTwo W19.drew bE.out).mono ?_;rintro e wx ⟨rfl,rfl⟩)
  | (go_simp;go_at_call 30;refine (scanNumber_calls g U kTwo W19.drew bE.out).mono ?_;rintro e wx ⟨rfl,rfl⟩)
  | (go_simp;go_at_call 31;refine (scanSince_calls g U kTwo W19.drew bE.out).mono ?_;rintro e wx ⟨rfl,rfl⟩)
  | (go_simp;go_at_call 36;refine (one_calls W19.drew).mono ?_
     rintro e w21 ⟨g2,ds,rfl,b5,a4⟩
     have bF:=refSchSame_calls A11 (some ⟨g2,0,none⟩) c11 1 _ _ (kTwo.schema 0) [smallCol] w21 (dn.out.later a4.below) b5
     rw [← de.out,kTwo_same] at bF
     have dc:=Hi bF
     have c4:=Hi (dm.out.trans a4)
     have b0:=(a4.below.cell (World.block_lt_of_cell? W19 _ cC.out)).trans cC.out
     have b1:=(a4.below.cell (World.block_lt_of_cell? W19 _ cu.out)).trans cu.out
     have b2:=(a4.below.cell (World.block_lt_of_cell? W19 _ cg.out)).trans cg.out
     have b3:=(a4.below.cell (World.block_lt_of_cell? W19 _ cx.out)).trans cx.out
     have b4:=(a4.below.cell (World.block_lt_of_cell? W19 _ cJ.out)).trans cJ.out
     have cH:=Hi b0;have cl:=Hi b1;have cc:=Hi b2;have ci:=Hi b3;have cI:=Hi b4
     clear bF b5 a4)
  | (go_simp;go_at_call 40;refine dc.out.mono ?_
     rintro e w22 ⟨rfl,a5⟩
     have f0:=(a5.below.cell (World.block_lt_of_cell? w21 _ cH.out)).trans cH.out
     have f1:=(a5.below.cell (World.block_lt_of_cell? w21 _ cl.out)).trans cl.out
     have f2:=(a5.below.cell (World.block_lt_of_cell? w21 _ cc.out)).trans cc.out
     have f3:=(a5.below.cell (World.block_lt_of_cell? w21 _ ci.out)).trans ci.out
     have f4:=(a5.below.cell (World.block_lt_of_cell? w21 _ cI.out)).trans cI.out
     have bL:=Hi (c4.out.trans a5)
     clear a5))
 all_goals
  go_wp2
  go_ret
  exact ⟨rfl,bL.out⟩
end Go.Proofs.YtihodcnnappkbaaGreatDoor
