/-
  What the laws of walks ask first: live. Condition: the tables are as laid.
-/
import Derived.Test.YtihodcnnappkbaaGreatDoorG17
import Derived.Test.YtihodcnnappkbaaGreatDoorG14
import Derived.Test.YtihodcnnappkbaaGreatDoorG18
import Derived.Test.YtihodcnnappkbaaGreatDoorG11
import Derived.Test.YtihodcnnappkbaaGreatDoorG12
set_option linter.unusedVariables false
set_option linter.unusedSimpArgs false
set_option maxHeartbeats 16000000
set_option maxRecDepth 40000
namespace Go.Proofs.YtihodcnnappkbaaGreatDoor
open Go.RowKit Go.BigFrame
attribute [local go_sem] run_storeF
theorem frSame_kind {a b:Fr} (h:frSame a b=true):a.kind=b.kind:=by
 unfold frSame at h
 by_cases e:a.kind=b.kind
 · exact e
 · rw [if_neg e] at h;cases h
theorem Loose.one3 {w:World} {base:Nat} {e:TypeId} {v x y z:Value} (h:Loose w base e 3 v 1 [x,y,z]) :
 ∃ g c,v=.slice (some ⟨g,0,none⟩) 1 c∧1≤c∧w.cell? ⟨g,0,none⟩=some x∧w.cell? ⟨g,1,none⟩=some y∧w.cell? ⟨g,2,none⟩=some z:=by
 have hf:=h.form
 rcases h with ⟨A,_,h1,_⟩ | ⟨g,c,rfl,_,_⟩
 · cases h1
 · obtain ⟨A,c',e1,dh,bW,_⟩:=hf
   injection e1 with e1 e2 e3
   subst e1 e3
   have each:∀ i u,[x,y,z][i]? = some u→w.cell? ⟨g,i,none⟩=some u:=fun i u hu=>by
    obtain ⟨ad,e2,hc⟩:=bW i u hu
    cases e2
    have e3:(⟨g,0,none⟩:Addr).add i=⟨g,i,none⟩:=by rw [addr_add_mk];simp
    rwa [e3] at hc
   exact ⟨g,c,rfl,dh,each 0 x rfl,each 1 y rfl,each 2 z rfl⟩
def liveD (l:List UInt8):Dv:=((Dv.fresh 100).write l).1
theorem liveD_facts {l:List UInt8} (h:l.length≤17):(liveD l).b=l∧(liveD l).down=false∧(liveD l).counted=0∧(liveD l).Ok:=by
 have e:liveD l = { Dv.fresh 100 with b:=[]++l,deeds:=0+l.length }:=by
  unfold liveD Dv.write
  rw [if_neg (by simp [Dv.fresh]),if_neg (by simp [Dv.fresh];omega),put_none l _ rfl]
  rfl
 refine ⟨by rw [e];rfl,by rw [e];rfl,by rw [e];rfl, ?_⟩
 exact write_ok (fresh_ok 100 (by omega)) l
theorem scanLive_calls (w:World) (cK:Tabs w) (ht:Table w) :
 Calls Tryz.prog 10 #[] w fun e w'=>e=.returned (.bool true)∧Keeps w w':=by
 obtain ⟨l,hl,dq,c4⟩:=small_enc
 obtain ⟨hb,c6,cj,aK⟩:=liveD_facts c4
 obtain ⟨f',cl,an⟩:=fetch_enc (d:=liveD l) (rest:=[]) smallF_wf hl (by rw [hb];simp) c6
 have be:f'.kind=1:=frSame_kind an
 obtain ⟨df1,df2,df3,df4,df5⟩:=fetchD_facts (liveD l) 0
 have ba:fetch (fetchD (liveD l) 0) (l.length:Int)=.error 140:=by
  have h:=fetch_end (d:=fetchD (liveD l) 0) (by rw [df2];exact c6)
  rwa [df1,hb] at h
 have HB:=Hi hb
 have HL:=Hi hl
 have df:=Hi cl
 have c0:=Hi ba
 have dl:=Hi aK
 have c1:=Hi (df5 aK)
 have cC:=Hi cj
 have bM:=Hi df4
 have ae:Hid (∀ a,Keeps w a→Tabs a∧Table a):=Hi fun a hk=>⟨cK.below hk.below,ht.later hk.below⟩
 clear cK ht hb hl cl ba aK cj df1 df2 df3 df4 df5 c6 an
 go_enter Tryz.func10,Tryz.ntmps10
 go_wp2_with fail
 refine (scanNew_calls w).mono ?_
 rintro e w1 ⟨g,rfl,hg,bV,aS⟩
 have dj:=bV.lt
 have aZ:=Hi bV.here
 have cZ:=Hi aS
 have dk:=aS.size
 clear bV aS
 go_wp2_with fail
 refine (one_calls w1).mono ?_
 rintro e w2 ⟨g1,dr,rfl,cf,am⟩
 have dm:=am.size
 obtain ⟨W5,aP⟩:∃ W5,W5=((w2.alloc (.cells #[.int .i64 1,.int .i64 0,.slice (some ⟨g1,0,none⟩) 1 1,.int .i64 0,.int .i64 0,.int .i64 0,.slice none 0 0,.int .i64 0,.int .i64 0,.int .i64 0,.slice none 0 0] 36)).alloc (.cells #[.int .u8 0,.int .u8 2,.int .u8 4] 5)).alloc (.cells #[.int .i64 2,.int .i64 0,.slice none 0 0,.int .i64 0,.int .i64 0,.int .i64 2,.slice (some ⟨w2.heap.size+1,0,none⟩) 3 3,.int .i64 0,.int .i64 0,.int .i64 0,.slice none 0 0] 36):=⟨_,rfl⟩
 have aj:Keeps w2 W5:=by rw [aP];exact (((Keeps.refl w2).alloc _).alloc _).alloc _
 have aW:w2.heap.size+3=W5.heap.size:=by rw [aP];simp
 have cq:W5.heap[w2.heap.size]? = some (.cells #[.int .i64 1,.int .i64 0,.slice (some ⟨g1,0,none⟩) 1 1,.int .i64 0,.int .i64 0,.int .i64 0,.slice none 0 0,.int .i64 0,.int .i64 0,.int .i64 0,.slice none 0 0] 36 (0,0)):=by rw [aP];exact obj_old (obj_old (obj_new w2 _) _) _
 have bK:W5.heap[w2.heap.size+2]? = some (.cells #[.int .i64 2,.int .i64 0,.slice none 0 0,.int .i64 0,.int .i64 0,.int .i64 2,.slice (some ⟨w2.heap.size+1,0,none⟩) 3 3,.int .i64 0,.int .i64 0,.int .i64 0,.slice none 0 0] 36 (0,0)):=by rw [aP];exact obj_new_at _ _ _ (by simp)
 have ca:RowAt W5 (some ⟨w2.heap.size+1,0,none⟩) [.int .u8 0,.int .u8 2,.int .u8 4]:=by
  rw [aP]
  exact (RowAt.new_at (w2.alloc _) _ _ _ _ rfl _ (by simp)).below ((Keeps.refl _).alloc _).below
 have cO:FrS W5 (fun j=>w1.heap.size≤j∧j<W5.heap.size) (some ⟨g1,0,none⟩) none none smallF:=
  ⟨(cf.later aj.below).mono fun j hj h=>⟨h,hj⟩,Reads.nil _ _,fun a e=>(by cases e),RowAt.nil _ _,fun a e=>(by cases e),by decide,by decide⟩
 have cS:FrS W5 (fun j=>w1.heap.size≤j∧j<W5.heap.size) none (some ⟨w2.heap.size+1,0,none⟩) none dataF:=
  ⟨SchS.nil _ _ _,ca,fun a e _=>(by cases e;exact ⟨show w1.heap.size≤w2.heap.size+1 by omega,show w2.heap.size+1<W5.heap.size by omega⟩),RowAt.nil _ _,fun a e=>(by cases e),by decide,by decide⟩
 obtain ⟨U,hU⟩:∃ U:Nat→Prop,U=fun j=>(w.heap.size≤j∧j<w1.heap.size)∨W5.heap.size≤j:=⟨_,rfl⟩
 have b6:WkV W5 U g Wk.fresh:=by
  rw [hU]
  exact (aZ.out.below (am.trans aj).below).mono fun j _ h=>.inl h
 have cF:∀ j,U j→w.heap.size≤j:=fun j h=>by rw [hU] at h;rcases h with h | h <;> omega
 have aV:∀ j,w1.heap.size≤j∧j<W5.heap.size→¬U j:=fun j h h2=>by rw [hU] at h2;rcases h2 with h2 | h2 <;> omega
 have cd:∀ X:World,W5.heap.size≤X.heap.size→∀ j,More U X j→U j:=fun X hX j h=>by
  rcases h with h | h
  · exact h
  · rw [hU];exact .inr (Nat.le_trans hX h)
 have cM:Keeps w W5:=cZ.out.trans (am.trans aj)
 have aM:∀ X:World,Touch U W5 X→Keeps w X:=fun X h=>Touch.nothing (F:=U) ((Touch.of_below cM.below fun j hj h=>absurd hj (by omega)).then h) fun j hj h=>by have:=cF j h;omega
 have ax:∀ (A B E:Option Addr) (c d m:Nat) (f:Fr) (a:Int) (k:Wk) (X:World),Touch U W5 X→WkV X U g k→k.ok→FrS W5 (fun j=>w1.heap.size≤j∧j<W5.heap.size) A B E f→f.wf →
  Calls Tryz.prog 13 #[.pointer (some ⟨g,0,none⟩),.agg (frCells A c B d E m f),.int .i64 a] X fun e w'=>e=.returned (.int .i64 (k.next f a).2)∧WkV w' U g (k.next f a).1∧Touch U X w':=fun A B E c d m f a k X hX hk di hf hw=>
  (scanNext_calls g U k A B E c d m f a X hk di ((hf.touch (F:=U) hX aV).mono fun j hj h=>⟨hj,aV j h⟩) hw fun w' h=>ae.out w' (aM w' (hX.then h))).mono fun e w' h=>⟨h.1,h.2.1.mono fun j _ h=>cd X hX.size j h,h.2.2⟩
 have c7:¬U w2.heap.size:=aV _ ⟨by omega,by omega⟩
 have cv:¬U (w2.heap.size+2):=aV _ ⟨by omega,by omega⟩
 have a0:=Hi ax
 have bn:=Hi aM
 have bQ:=Hi cq
 have bH:=Hi bK
 have bY:=Hi cO
 have bz:=Hi cS
 have cI:=Hi aV
 have bO:=Hi c7
 have bX:=Hi cv
 have aY:=Hi b6
 obtain ⟨⟨d0,d1,d2,d3,d4,d5,d6,d7,d8,d9,d10⟩,_⟩:=cells11 bK
 have bG:=Hi aW
 clear cf am aj cq bK ca cO cS b6 cF aV cd cM aM ax c7 cv aZ cZ hU aW
 go_wp2_with fail
 rw [← aP]
 clear aP
 have h6:=a0.out none (some ⟨w2.heap.size+1,0,none⟩) none 0 3 0 dataF 0 Wk.fresh W5 (Touch.refl _ _) aY.out wkFresh_ok bz.out dataF_wf
 rw [live_k0] at h6
 refine Calls.mono h6 ?_
 clear h6
 rintro e w6 ⟨rfl,cD,c5⟩
 have cW:=c5.obj bQ.out bO.out
 clear d0 d1 d2 d3 d4 d5 d6 d7 d8 d9 d10
 obtain ⟨⟨d0,d1,d2,d3,d4,d5,d6,d7,d8,d9,d10⟩,_⟩:=cells11 cW
 have c2:=Hi c5
 have aX:=Hi cD
 clear cW cD c5
 go_wp2_with fail
 have h7:=a0.out (some ⟨g1,0,none⟩) none none 1 0 0 smallF 0 Wk.fresh w6 c2.out aX.out wkFresh_ok bY.out smallF_wf
 have aH:=Wk.ok.next wkFresh_ok smallF 0
 rw [live_k1] at h7 aH
 have aU:=Hi aH
 clear aH
 refine Calls.mono h7 ?_
 clear h7
 rintro e w7 ⟨rfl,ct,c9⟩
 have bC:=Hi (c2.out.then c9)
 have cb:=bC.out.obj bH.out bX.out
 clear d0 d1 d2 d3 d4 d5 d6 d7 d8 d9 d10
 obtain ⟨⟨d0,d1,d2,d3,d4,d5,d6,d7,d8,d9,d10⟩,_⟩:=cells11 cb
 have bp:=Hi ct
 clear cb ct c9 c2 aX
 go_wp2_with fail
 have h8:=a0.out none (some ⟨w2.heap.size+1,0,none⟩) none 0 3 0 dataF 20 kOne w7 bC.out bp.out aU.out bz.out dataF_wf
 have aG:=Wk.ok.next aU.out dataF 20
 rw [live_k2] at h8 aG
 have av:=Hi aG
 clear aG
 refine Calls.mono h8 ?_
 clear h8
 rintro e w8 ⟨rfl,cw,cV⟩
 have bx:=Hi (bC.out.then cV)
 have cx:=bx.out.obj bH.out bX.out
 clear d0 d1 d2 d3 d4 d5 d6 d7 d8 d9 d10
 obtain ⟨⟨d0,d1,d2,d3,d4,d5,d6,d7,d8,d9,d10⟩,_⟩:=cells11 cx
 have bj:=Hi cw
 clear cx cw cV bC bp aU
 go_wp2_with fail
 have h9:=a0.out none (some ⟨w2.heap.size+1,0,none⟩) none 0 3 0 dataF 40 kTwo w8 bx.out bj.out av.out bz.out dataF_wf
 rw [live_k3] at h9
 refine Calls.mono h9 ?_
 clear h9
 rintro e w9 ⟨rfl,cR,cJ⟩
 have bE:=Hi (bx.out.then cJ)
 have cs:=bE.out.obj bQ.out bO.out
 have cY:=bY.out.touch (F:=U) bE.out cI.out
 have bk:=bn.out w9 bE.out
 have bU:=Hi cs
 have cA:=Hi cY
 have az:=Hi cR
 have cH:=Hi bk
 clear d0 d1 d2 d3 d4 d5 d6 d7 d8 d9 d10 cs cY cR bk cJ bx bj a0 bn bQ bH bY bz bO bX bE aY bG cI av
 go_wp2_with fail
 refine (scanEntries_calls g U kTwo w9 az.out (by decide)).mono ?_
 rintro e w10 ⟨v10,rfl,bs,a1⟩
 obtain ⟨ge,ce,rfl,du,x0,x1,x2⟩:=Loose.one3 (x:=.int .i64 20) (y:=.int .i64 0) (z:=.int .i64 0) bs
 have ar:=cH.out.trans a1
 have bZ:=Hi x0
 have bI:=Hi x1
 have bP:=Hi x2
 have ag:=Hi (az.out.below a1.below)
 have aQ:=Hi ((a1.below.block _ (obj_lt bU.out)).trans bU.out)
 have bh:=Hi (cA.out.later a1.below)
 have aR:=Hi ar
 clear bs x0 x1 x2 a1 ar az bU cA cH
 go_wp2_with fail
 refine (scanSchema_calls g U kTwo 0 w10 ag.out kTwo_fine fun w' hk=>(ae.out w' (aR.out.trans hk)).1).mono ?_
 rintro e w11 ⟨A11,c11,rfl,bb,ao⟩
 rw [show (kTwo.at 0).isSome=true from rfl]
 obtain ⟨NS,bJ⟩:∃ NS,NS=(kTwo.schema 0).length:=⟨_,rfl⟩
 rw [← bJ]
 obtain ⟨W12,aa⟩:∃ W12,W12=w11.alloc (.cells #[.slice A11 NS c11] 30):=⟨_,rfl⟩
 have a4:Keeps w10 W12:=by rw [aa];exact ao.alloc _
 have c8:W12.heap[w11.heap.size]? = some (.cells #[.slice A11 NS c11] 30 (0,0)):=by rw [aa];exact obj_new _ _
 have b8:=(bb.later (w':=W12) (by rw [aa];exact ((Keeps.refl w11).alloc _).below)).mono fun j hj _=>hj
 have aA:=Hi ((a4.below.cell (World.block_lt_of_cell? w10 _ bZ.out)).trans bZ.out)
 have aD:=Hi ((a4.below.cell (World.block_lt_of_cell? w10 _ bI.out)).trans bI.out)
 have aT:=Hi ((a4.below.cell (World.block_lt_of_cell? w10 _ bP.out)).trans bP.out)
 have ap:=Hi (ag.out.below a4.below)
 have aB:=Hi ((a4.below.block _ (obj_lt aQ.out)).trans aQ.out)
 have bg:=Hi (bh.out.later a4.below)
 have ab:=Hi (aR.out.trans a4)
 have c3:=Hi c8
 have br:=Hi b8
 have dc:=Hi bJ
 clear bb ao a4 c8 b8 bJ bZ bI bP ag aQ bh aR
 go_wp2_with fail
 rw [← aa]
 clear aa
 refine (new_yes 100 W12 (by omega) (by omega)).mono ?_
 rintro e w13 ⟨rfl,ak⟩
 have ac:Keeps W12 w13:=by rw [← ak];exact (Keeps.refl W12).alloc _
 have bf:DV w13 (At W12.heap.size) W12.heap.size (Dv.fresh 100):=by rw [← ak];exact fresh_dv W12 100
 have cz:W12.heap.size+1≤w13.heap.size:=by rw [← ak];simp
 have bm:=(ac.below.block _ (obj_lt aB.out)).trans aB.out
 obtain ⟨⟨d0,d1,d2,d3,d4,d5,d6,d7,d8,d9,d10⟩,_⟩:=cells11 bm
 have aJ:=ae.out w13 (ab.out.trans ac)
 have bL:=encode_calls (some ⟨g1,0,none⟩) none none 1 0 0 smallF w13 ((bg.out.later ac.below).mono fun j hj _=>hj) smallF_wf aJ.1 aJ.2
 rw [HL.out] at bL
 have cu:=Hi bL
 have bd:=Hi bf
 have b7:=Hi ac
 clear ak ac bf bm aJ bL
 go_wp2_with fail
 refine cu.out.mono ?_
 rintro e w14 ⟨v14,rfl,al,a8⟩
 obtain ⟨A14,c14,rfl,cQ,b9,da,_⟩:=al.form
 have aq:∀ a,A14=some a→l≠[]→¬At W12.heap.size a.block:=fun a e hn h=>by
  subst e
  have dp:0<c14:=by omega
  have:=(own_lt al a.block rfl)
  have h2:=al.lt a.block rfl
  rw [At] at h
  omega
 have cc:=a8.size
 have cN:=write_calls W12.heap.size (At W12.heap.size) (Dv.fresh 100) A14 c14 l w14 (bd.out.below a8.below) (fresh_ok 100 (by omega)) b9 aq (by omega) (by simp only [Dv.fresh];omega)
 have ck:=Hi cN
 have bu:=Hi (b7.out.trans a8)
 clear d0 d1 d2 d3 d4 d5 d6 d7 d8 d9 d10 al b9 aq a8 cN cu bd b7
 generalize cG:l.length=LL at *
 have ds:=Hi cG
 clear cG
 go_wp2_with fail
 refine ck.out.mono ?_
 rintro e w15 ⟨rfl,ai,aN⟩
 have cy:=aN.size
 have aC:Keeps W12 w15:=Touch.nothing (F:=At W12.heap.size) ((Touch.of_below bu.out.below fun j hj h=>absurd hj (by omega)).then aN) fun j hj e=>by rw [At] at e;omega
 obtain ⟨T,hT⟩:∃ T:Nat→Prop,T=fun j=>More (At W12.heap.size) w14 j∧j<w15.heap.size:=⟨_,rfl⟩
 have cT:∀ j,T j→W12.heap.size≤j:=fun j h=>by
  rw [hT] at h
  rcases h.1 with h | h
  · rw [At] at h;omega
  · omega
 have cr:∀ j,T j→j<w15.heap.size:=fun j h=>by rw [hT] at h;exact h.2
 have ai:DV w15 T W12.heap.size (liveD l):=by rw [hT];exact (show DV w15 (More (At W12.heap.size) w14) W12.heap.size (liveD l) from ai).here
 have af:∀ X Y:World,Keeps W12 X→Touch T X Y→Keeps W12 Y:=fun X Y h1 h2=>Touch.nothing (F:=T) ((Touch.of_below h1.below fun j hj h=>absurd hj (by omega)).then h2) fun j hj h=>by have:=cT j h;omega
 have bR:=scanAt_calls W12.heap.size T (liveD l) 0 w15 ai dl.out (by rw [cC.out];omega) fun w' h=>ae.out w' (ab.out.trans (af w15 w' aC h))
 rw [df.out] at bR
 have ci:=Hi bR
 have bw:=Hi aC
 have bB:=Hi af
 have cU:=Hi cr
 clear ai aN aC hT cr cT af bR ck bu
 go_wp2_with fail
 refine ci.out.mono ?_
 rintro e w16 ⟨⟨P1,m1,P2,m2,P3,m3,rfl,de⟩,bq,aO⟩
 have bc:=bB.out w15 w16 bw.out aO
 obtain ⟨W17,a9⟩:∃ W17,W17=w16.alloc (.cells (frCells P1 m1 P2 m2 P3 m3 f') 36):=⟨_,rfl⟩
 have a6:Keeps w16 W17:=by rw [a9];exact (Keeps.refl w16).alloc _
 have cX:W17.heap[w16.heap.size]? = some (.cells (frCells P1 m1 P2 m2 P3 m3 f') 36 (0,0)):=by rw [a9];exact obj_new _ _
 have aI:=bc.trans a6
 have aE:=scanAt_calls W12.heap.size T (fetchD (liveD l) 0) (LL:Int) W17 (bq.below a6.below) c1.out (by have:=cC.out;have:=bM.out;omega) fun w' h=>ae.out w' (ab.out.trans (bB.out W17 w' aI h))
 rw [c0.out] at aE
 have bi:=Hi aE
 have bD:=Hi cX
 have b5:=Hi aI
 unfold frCells at a9 bD ⊢
 rw [be] at a9 bD
 have cg:=aO.size
 clear de bq aO bc a6 cX aI aE ci bw
 generalize f'.cols.length=y1 at *
 generalize f'.block.length=y2 at *
 generalize f'.ents.length=y3 at *
 go_wp2_with fail
 rw [← a9]
 clear a9
 refine bi.out.mono ?_
 rintro e w18 ⟨rfl,bS,aF⟩
 have bt:=bB.out W17 w18 b5.out aF
 have ah:=aF.obj bD.out (fun h=>by have:=cU.out _ h;omega)
 rw [show frCells none 0 none 0 none 0 frZero=#[.int .i64 0,.int .i64 0,.slice none 0 0,.int .i64 0,.int .i64 0,.int .i64 0,.slice none 0 0,.int .i64 0,.int .i64 0,.int .i64 0,.slice none 0 0] from rfl]
 obtain ⟨W19,aL⟩:∃ W19,W19=w18.alloc (.cells #[.int .i64 0,.int .i64 0,.slice none 0 0,.int .i64 0,.int .i64 0,.int .i64 0,.slice none 0 0,.int .i64 0,.int .i64 0,.int .i64 0,.slice none 0 0] 36):=⟨_,rfl⟩
 have a7:Keeps w18 W19:=by rw [aL];exact (Keeps.refl w18).alloc _
 have a3:=bt.trans a7
 have aw:=(a7.below.block _ (obj_lt ah)).trans ah
 have au:=Hi aw
 have z0:=(a3.below.cell (World.block_lt_of_cell? W12 _ aA.out)).trans aA.out
 have z1:=(a3.below.cell (World.block_lt_of_cell? W12 _ aD.out)).trans aD.out
 have z2:=(a3.below.cell (World.block_lt_of_cell? W12 _ aT.out)).trans aT.out
 obtain ⟨t0,_⟩:=cells1 ((a3.below.block _ (obj_lt c3.out)).trans c3.out)
 have ay:=Hi (ap.out.below a3.below)
 have bl:=Hi (br.out.later a3.below)
 have bo:=Hi (ab.out.trans a3)
 have e1:kTwo.frames=1:=rfl
 have e2:kTwo.rows=2:=rfl
 have e3:kTwo.number=0:=rfl
 have e4:kTwo.since=1:=rfl
 clear bS aF bt ah a7 a3 aw bi bD b5 ap br c3 aA aD aT aB bg ab bB cU
 go_wp2_with fail
 rw [← aL]
 clear aL
 have bA:=Hi (ay.out.below (Keeps.drew W19).below)
 have ch:=Hi z0
 have cP:=Hi z1
 have cm:=Hi z2
 have cB:=Hi t0
 have dn:=Hi (bl.out.later (Keeps.drew W19).below)
 obtain ⟨⟨k0,k1,k2,k3,k4,k5,k6,k7,k8,k9,k10⟩,_⟩:=cells11 au.out
 have db:=Hi k0
 have dg:=Hi (bo.out.trans (Keeps.drew W19))
 clear k1 k2 k3 k4 k5 k6 k7 k8 k9 k10 bl ay bo au
 simp only [List.append]
 go_region_held3 (fun w'=>w'.cell? ⟨ge,0,none⟩=some (.int .i64 20)∧w'.cell? ⟨ge,1,none⟩=some (.int .i64 0)∧w'.cell? ⟨ge,2,none⟩=some (.int .i64 0)∧w'.cell? ⟨w11.heap.size,0,none⟩=some (.slice A11 NS c11)∧w'.cell? ⟨w16.heap.size,0,none⟩=some (.int .i64 1)) (go_keep) (first
  | (go_simp;go_at_call 28;refine (scanFrames_calls g U kTwo W19.drew bA.out).mono ?_;rintro e wx ⟨rfl,rfl⟩)
  | (go_simp;go_at_call 29;refine (scanRows_calls g U kTwo W19.drew bA.out).mono ?_;rintro e wx ⟨rfl,rfl⟩)
  | (go_simp;go_at_call 30;refine (scanNumber_calls g U kTwo W19.drew bA.out).mono ?_;rintro e wx ⟨rfl,rfl⟩)
  | (go_simp;go_at_call 31;refine (scanSince_calls g U kTwo W19.drew bA.out).mono ?_;rintro e wx ⟨rfl,rfl⟩)
  | (go_simp;go_at_call 36;refine (one_calls W19.drew).mono ?_
     rintro e w21 ⟨g2,dt,rfl,bv,a2⟩
     have bF:=refSchSame_calls A11 (some ⟨g2,0,none⟩) c11 1 _ _ (kTwo.schema 0) [smallCol] w21 (dn.out.later a2.below) bv
     rw [← dc.out,kTwo_same] at bF
     have dd:=Hi bF
     have bN:=Hi (dg.out.trans a2)
     have b0:=(a2.below.cell (World.block_lt_of_cell? W19 _ ch.out)).trans ch.out
     have b1:=(a2.below.cell (World.block_lt_of_cell? W19 _ cP.out)).trans cP.out
     have b2:=(a2.below.cell (World.block_lt_of_cell? W19 _ cm.out)).trans cm.out
     have b3:=(a2.below.cell (World.block_lt_of_cell? W19 _ cB.out)).trans cB.out
     have b4:=(a2.below.cell (World.block_lt_of_cell? W19 _ db.out)).trans db.out
     have co:=Hi b0;have cp:=Hi b1;have cE:=Hi b2;have cn:=Hi b3;have cL:=Hi b4
     clear bF bv a2)
  | (go_simp;go_at_call 40;refine dd.out.mono ?_
     rintro e w22 ⟨rfl,a5⟩
     have f0:=(a5.below.cell (World.block_lt_of_cell? w21 _ co.out)).trans co.out
     have f1:=(a5.below.cell (World.block_lt_of_cell? w21 _ cp.out)).trans cp.out
     have f2:=(a5.below.cell (World.block_lt_of_cell? w21 _ cE.out)).trans cE.out
     have f3:=(a5.below.cell (World.block_lt_of_cell? w21 _ cn.out)).trans cn.out
     have f4:=(a5.below.cell (World.block_lt_of_cell? w21 _ cL.out)).trans cL.out
     have bT:=Hi (bN.out.trans a5)
     clear a5))
 all_goals
  go_wp2
  go_ret
  exact ⟨rfl,bT.out⟩
end Go.Proofs.YtihodcnnappkbaaGreatDoor
