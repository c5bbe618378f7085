/-
  What the laws of walks ask first: live. Condition: the tables are as laid.
-/
import Derived.Test.YtihodcnnappkbaaGreatDoorG17
import Derived.Test.YtihodcnnappkbaaGreatDoorG14
import Derived.Test.YtihodcnnappkbaaGreatDoorG18
import Derived.Test.YtihodcnnappkbaaGreatDoorG11
import Derived.Test.YtihodcnnappkbaaGreatDoorG12
namespace Go.Proofs.YtihodcnnappkbaaGreatDoor
open Go.RowKit Go.BigFrame
set_option linter.unusedVariables false
set_option linter.unusedSimpArgs false
attribute [local go_sem] run_storeF
theorem frSame_kind {a b:Fr} (h:frSame a b=true):a.kind=b.kind:=by
 unfold frSame at h
 by_cases e:a.kind=b.kind
 · exact e
 · rw [if_neg e] at h;cases h
theorem Loose.one3 {w:World} {base:Nat} {e:TypeId} {v x y z:Value} (h:Loose w base e 3 v 1 [x,y,z]) :
 ∃ g c,v=.slice (some ⟨g,0,none⟩) 1 c∧1≤c∧w.cell? ⟨g,0,none⟩=some x∧w.cell? ⟨g,1,none⟩=some y∧w.cell? ⟨g,2,none⟩=some z:=by
 have hf:=h.form
 rcases h with ⟨A,_,h1,_⟩ | ⟨g,c,rfl,_,_⟩
 · cases h1
 · obtain ⟨A,c',e1,hlc,hrow,_⟩:=hf
   injection e1 with e1 e2 e3
   subst e1 e3
   have each:∀ i u,[x,y,z][i]? = some u→w.cell? ⟨g,i,none⟩=some u:=fun i u hu=>by
    obtain ⟨ad,e2,hc⟩:=hrow i u hu
    cases e2
    have e3:(⟨g,0,none⟩:Addr).add i=⟨g,i,none⟩:=by rw [addr_add_mk];simp
    rwa [e3] at hc
   exact ⟨g,c,rfl,hlc,each 0 x rfl,each 1 y rfl,each 2 z rfl⟩
def liveD (l:List UInt8):Dv:=((Dv.fresh 100).write l).1
theorem liveD_facts {l:List UInt8} (h:l.length≤17):(liveD l).b=l∧(liveD l).down=false∧(liveD l).counted=0∧(liveD l).Ok:=by
 have e:liveD l = { Dv.fresh 100 with b:=[]++l,deeds:=0+l.length }:=by
  unfold liveD Dv.write
  rw [if_neg (by simp [Dv.fresh]),if_neg (by simp [Dv.fresh];omega),put_none l _ rfl]
  rfl
 refine ⟨by rw [e];rfl,by rw [e];rfl,by rw [e];rfl,?_⟩
 exact write_ok (fresh_ok 100 (by omega)) l
set_option maxRecDepth 40000 in
set_option maxHeartbeats 16000000 in
theorem scanLive_calls (w:World) (htb:Tabs w) (ht:Table w) :
 Calls Tryz.prog 10 #[] w fun e w'=>e=.returned (.bool true)∧Keeps w w':=by
 obtain ⟨l,hl,hl3,hl17⟩:=small_enc
 obtain ⟨hb,hdn,hct,hokd⟩:=liveD_facts hl17
 obtain ⟨f',hfe,hsame⟩:=fetch_enc (d:=liveD l) (rest:=[]) smallF_wf hl (by rw [hb];simp) hdn
 have hkind:f'.kind=1:=frSame_kind hsame
 obtain ⟨df1,df2,df3,df4,df5⟩:=fetchD_facts (liveD l) 0
 have hend:fetch (fetchD (liveD l) 0) (l.length:Int)=.error 140:=by
  have h:=fetch_end (d:=fetchD (liveD l) 0) (by rw [df2];exact hdn)
  rwa [df1,hb] at h
 have HB:=Hi hb
 have HL:=Hi hl
 have HFE:=Hi hfe
 have HEND:=Hi hend
 have HOK:=Hi hokd
 have HOK2:=Hi (df5 hokd)
 have HCT:=Hi hct
 have HCT2:=Hi df4
 have HTAB:Hid (∀ a,Keeps w a→Tabs a∧Table a):=Hi fun a hk=>⟨htb.below hk.below,ht.later hk.below⟩
 clear htb ht hb hl hfe hend hokd hct df1 df2 df3 df4 df5 hdn hsame
 go_enter Tryz.func10,Tryz.ntmps10
 go_wp2_with fail
 refine (scanNew_calls w).mono ?_
 rintro e w1 ⟨g,rfl,hg,hk1,hkp1⟩
 have hgl1:=hk1.lt
 have HWK1:=Hi hk1.here
 have HK1:=Hi hkp1
 have hsz1:=hkp1.size
 clear hk1 hkp1
 go_wp2_with fail
 refine (one_calls w1).mono ?_
 rintro e w2 ⟨g1,hg1,rfl,hs2,hkp2⟩
 have hsz2:=hkp2.size
 obtain ⟨W5,hW5⟩:∃ W5,W5=((w2.alloc (.cells #[.int .i64 1,.int .i64 0,.slice (some ⟨g1,0,none⟩) 1 1,.int .i64 0,.int .i64 0,.int .i64 0,.slice none 0 0,.int .i64 0,.int .i64 0,.int .i64 0,.slice none 0 0] 36)).alloc (.cells #[.int .u8 0,.int .u8 2,.int .u8 4] 5)).alloc (.cells #[.int .i64 2,.int .i64 0,.slice none 0 0,.int .i64 0,.int .i64 0,.int .i64 2,.slice (some ⟨w2.heap.size+1,0,none⟩) 3 3,.int .i64 0,.int .i64 0,.int .i64 0,.slice none 0 0] 36):=⟨_,rfl⟩
 have hk25:Keeps w2 W5:=by rw [hW5];exact (((Keeps.refl w2).alloc _).alloc _).alloc _
 have hsz5:w2.heap.size+3=W5.heap.size:=by rw [hW5];simp
 have hbs:W5.heap[w2.heap.size]? = some (.cells #[.int .i64 1,.int .i64 0,.slice (some ⟨g1,0,none⟩) 1 1,.int .i64 0,.int .i64 0,.int .i64 0,.slice none 0 0,.int .i64 0,.int .i64 0,.int .i64 0,.slice none 0 0] 36 (0,0)):=by rw [hW5];exact obj_old (obj_old (obj_new w2 _) _) _
 have hbd:W5.heap[w2.heap.size+2]? = some (.cells #[.int .i64 2,.int .i64 0,.slice none 0 0,.int .i64 0,.int .i64 0,.int .i64 2,.slice (some ⟨w2.heap.size+1,0,none⟩) 3 3,.int .i64 0,.int .i64 0,.int .i64 0,.slice none 0 0] 36 (0,0)):=by rw [hW5];exact obj_new_at _ _ _ (by simp)
 have hrd:RowAt W5 (some ⟨w2.heap.size+1,0,none⟩) [.int .u8 0,.int .u8 2,.int .u8 4]:=by
  rw [hW5]
  exact (RowAt.new_at (w2.alloc _) _ _ _ _ rfl _ (by simp)).below ((Keeps.refl _).alloc _).below
 have hfs:FrS W5 (fun j=>w1.heap.size≤j∧j<W5.heap.size) (some ⟨g1,0,none⟩) none none smallF:=
  ⟨(hs2.later hk25.below).mono fun j hj h=>⟨h,hj⟩,Reads.nil _ _,fun a e=>(by cases e),RowAt.nil _ _,fun a e=>(by cases e),by decide,by decide⟩
 have hfd:FrS W5 (fun j=>w1.heap.size≤j∧j<W5.heap.size) none (some ⟨w2.heap.size+1,0,none⟩) none dataF:=
  ⟨SchS.nil _ _ _,hrd,fun a e _=>(by cases e;exact ⟨show w1.heap.size≤w2.heap.size+1 by omega,show w2.heap.size+1<W5.heap.size by omega⟩),RowAt.nil _ _,fun a e=>(by cases e),by decide,by decide⟩
 obtain ⟨U,hU⟩:∃ U:Nat→Prop,U=fun j=>(w.heap.size≤j∧j<w1.heap.size)∨W5.heap.size≤j:=⟨_,rfl⟩
 have hwk5:WkV W5 U g Wk.fresh:=by
  rw [hU]
  exact (HWK1.out.below (hkp2.trans hk25).below).mono fun j _ h=>.inl h
 have hUl:∀ j,U j→w.heap.size≤j:=fun j h=>by rw [hU] at h;rcases h with h | h <;> omega
 have hUn:∀ j,w1.heap.size≤j∧j<W5.heap.size→¬U j:=fun j h h2=>by rw [hU] at h2;rcases h2 with h2 | h2 <;> omega
 have hUm:∀ X:World,W5.heap.size≤X.heap.size→∀ j,More U X j→U j:=fun X hX j h=>by
  rcases h with h | h
  · exact h
  · rw [hU];exact .inr (Nat.le_trans hX h)
 have hk5:Keeps w W5:=HK1.out.trans (hkp2.trans hk25)
 have hlow:∀ X:World,Touch U W5 X→Keeps w X:=fun X h=>Touch.nothing (F:=U) ((Touch.of_below hk5.below fun j hj h=>absurd hj (by omega)).then h) fun j hj h=>by have:=hUl j h;omega
 have hnext:∀ (A B E:Option Addr) (c d m:Nat) (f:Fr) (a:Int) (k:Wk) (X:World),Touch U W5 X→WkV X U g k→k.ok→FrS W5 (fun j=>w1.heap.size≤j∧j<W5.heap.size) A B E f→f.wf →
  Calls Tryz.prog 13 #[.pointer (some ⟨g,0,none⟩),.agg (frCells A c B d E m f),.int .i64 a] X fun e w'=>e=.returned (.int .i64 (k.next f a).2)∧WkV w' U g (k.next f a).1∧Touch U X w':=fun A B E c d m f a k X hX hk hok hf hw=>
  (scanNext_calls g U k A B E c d m f a X hk hok ((hf.touch (F:=U) hX hUn).mono fun j hj h=>⟨hj,hUn j h⟩) hw fun w' h=>HTAB.out w' (hlow w' (hX.then h))).mono fun e w' h=>⟨h.1,h.2.1.mono fun j _ h=>hUm X hX.size j h,h.2.2⟩
 have hn2:¬U w2.heap.size:=hUn _ ⟨by omega,by omega⟩
 have hn3:¬U (w2.heap.size+2):=hUn _ ⟨by omega,by omega⟩
 have HNEXT:=Hi hnext
 have HLOW:=Hi hlow
 have HBS:=Hi hbs
 have HBD:=Hi hbd
 have HFS:=Hi hfs
 have HFD:=Hi hfd
 have HUN:=Hi hUn
 have HN2:=Hi hn2
 have HN3:=Hi hn3
 have HWK5:=Hi hwk5
 obtain ⟨⟨d0,d1,d2,d3,d4,d5,d6,d7,d8,d9,d10⟩,_⟩:=cells11 hbd
 have HSZ5:=Hi hsz5
 clear hs2 hkp2 hk25 hbs hbd hrd hfs hfd hwk5 hUl hUn hUm hk5 hlow hnext hn2 hn3 HWK1 HK1 hU hsz5
 go_wp2_with fail
 rw [← hW5]
 clear hW5
 have h6:=HNEXT.out none (some ⟨w2.heap.size+1,0,none⟩) none 0 3 0 dataF 0 Wk.fresh W5 (Touch.refl _ _) HWK5.out wkFresh_ok HFD.out dataF_wf
 rw [live_k0] at h6
 refine Calls.mono h6 ?_
 clear h6
 rintro e w6 ⟨rfl,hk6,ht6⟩
 have hb6:=ht6.obj HBS.out HN2.out
 clear d0 d1 d2 d3 d4 d5 d6 d7 d8 d9 d10
 obtain ⟨⟨d0,d1,d2,d3,d4,d5,d6,d7,d8,d9,d10⟩,_⟩:=cells11 hb6
 have HT6:=Hi ht6
 have HWK6:=Hi hk6
 clear hb6 hk6 ht6
 go_wp2_with fail
 have h7:=HNEXT.out (some ⟨g1,0,none⟩) none none 1 0 0 smallF 0 Wk.fresh w6 HT6.out HWK6.out wkFresh_ok HFS.out smallF_wf
 have hok1:=Wk.ok.next wkFresh_ok smallF 0
 rw [live_k1] at h7 hok1
 have HOK1:=Hi hok1
 clear hok1
 refine Calls.mono h7 ?_
 clear h7
 rintro e w7 ⟨rfl,hk7,ht7⟩
 have HT7:=Hi (HT6.out.then ht7)
 have hb7:=HT7.out.obj HBD.out HN3.out
 clear d0 d1 d2 d3 d4 d5 d6 d7 d8 d9 d10
 obtain ⟨⟨d0,d1,d2,d3,d4,d5,d6,d7,d8,d9,d10⟩,_⟩:=cells11 hb7
 have HWK7:=Hi hk7
 clear hb7 hk7 ht7 HT6 HWK6
 go_wp2_with fail
 have h8:=HNEXT.out none (some ⟨w2.heap.size+1,0,none⟩) none 0 3 0 dataF 20 kOne w7 HT7.out HWK7.out HOK1.out HFD.out dataF_wf
 have hok2:=Wk.ok.next HOK1.out dataF 20
 rw [live_k2] at h8 hok2
 have HOK2':=Hi hok2
 clear hok2
 refine Calls.mono h8 ?_
 clear h8
 rintro e w8 ⟨rfl,hk8,ht8⟩
 have HT8:=Hi (HT7.out.then ht8)
 have hb8:=HT8.out.obj HBD.out HN3.out
 clear d0 d1 d2 d3 d4 d5 d6 d7 d8 d9 d10
 obtain ⟨⟨d0,d1,d2,d3,d4,d5,d6,d7,d8,d9,d10⟩,_⟩:=cells11 hb8
 have HWK8:=Hi hk8
 clear hb8 hk8 ht8 HT7 HWK7 HOK1
 go_wp2_with fail
 have h9:=HNEXT.out none (some ⟨w2.heap.size+1,0,none⟩) none 0 3 0 dataF 40 kTwo w8 HT8.out HWK8.out HOK2'.out HFD.out dataF_wf
 rw [live_k3] at h9
 refine Calls.mono h9 ?_
 clear h9
 rintro e w9 ⟨rfl,hk9,ht9⟩
 have HT9:=Hi (HT8.out.then ht9)
 have hb9:=HT9.out.obj HBS.out HN2.out
 have hf9:=HFS.out.touch (F:=U) HT9.out HUN.out
 have hkp9:=HLOW.out w9 HT9.out
 have HB9:=Hi hb9
 have HF9:=Hi hf9
 have HWK9:=Hi hk9
 have HK9:=Hi hkp9
 clear d0 d1 d2 d3 d4 d5 d6 d7 d8 d9 d10 hb9 hf9 hk9 hkp9 ht9 HT8 HWK8 HNEXT HLOW HBS HBD HFS HFD HN2 HN3 HT9 HWK5 HSZ5 HUN HOK2'
 go_wp2_with fail
 refine (scanEntries_calls g U kTwo w9 HWK9.out (by decide)).mono ?_
 rintro e w10 ⟨v10,rfl,hl10,hkp10⟩
 obtain ⟨ge,ce,rfl,hce,x0,x1,x2⟩:=Loose.one3 (x:=.int .i64 20) (y:=.int .i64 0) (z:=.int .i64 0) hl10
 have hk910:=HK9.out.trans hkp10
 have HX0:=Hi x0
 have HX1:=Hi x1
 have HX2:=Hi x2
 have HWK10:=Hi (HWK9.out.below hkp10.below)
 have HB10:=Hi ((hkp10.below.block _ (obj_lt HB9.out)).trans HB9.out)
 have HF10:=Hi (HF9.out.later hkp10.below)
 have HK10:=Hi hk910
 clear hl10 x0 x1 x2 hkp10 hk910 HWK9 HB9 HF9 HK9
 go_wp2_with fail
 refine (scanSchema_calls g U kTwo 0 w10 HWK10.out kTwo_fine fun w' hk=>(HTAB.out w' (HK10.out.trans hk)).1).mono ?_
 rintro e w11 ⟨A11,c11,rfl,hs11,hkp11⟩
 rw [show (kTwo.at 0).isSome=true from rfl]
 obtain ⟨NS,hNS⟩:∃ NS,NS=(kTwo.schema 0).length:=⟨_,rfl⟩
 rw [← hNS]
 obtain ⟨W12,hW12⟩:∃ W12,W12=w11.alloc (.cells #[.slice A11 NS c11] 30):=⟨_,rfl⟩
 have hk12:Keeps w10 W12:=by rw [hW12];exact hkp11.alloc _
 have hbv:W12.heap[w11.heap.size]? = some (.cells #[.slice A11 NS c11] 30 (0,0)):=by rw [hW12];exact obj_new _ _
 have hs12:=(hs11.later (w':=W12) (by rw [hW12];exact ((Keeps.refl w11).alloc _).below)).mono fun j hj _=>hj
 have HX0':=Hi ((hk12.below.cell (World.block_lt_of_cell? w10 _ HX0.out)).trans HX0.out)
 have HX1':=Hi ((hk12.below.cell (World.block_lt_of_cell? w10 _ HX1.out)).trans HX1.out)
 have HX2':=Hi ((hk12.below.cell (World.block_lt_of_cell? w10 _ HX2.out)).trans HX2.out)
 have HWK12:=Hi (HWK10.out.below hk12.below)
 have HB12:=Hi ((hk12.below.block _ (obj_lt HB10.out)).trans HB10.out)
 have HF12:=Hi (HF10.out.later hk12.below)
 have HK12:=Hi (HK10.out.trans hk12)
 have HBV:=Hi hbv
 have HS12:=Hi hs12
 have HNS:=Hi hNS
 clear hs11 hkp11 hk12 hbv hs12 hNS HX0 HX1 HX2 HWK10 HB10 HF10 HK10
 go_wp2_with fail
 rw [← hW12]
 clear hW12
 refine (new_yes 100 W12 (by omega) (by omega)).mono ?_
 rintro e w13 ⟨rfl,hw13⟩
 have hk13:Keeps W12 w13:=by rw [← hw13];exact (Keeps.refl W12).alloc _
 have hd13:DV w13 (At W12.heap.size) W12.heap.size (Dv.fresh 100):=by rw [← hw13];exact fresh_dv W12 100
 have hsz13:W12.heap.size+1≤w13.heap.size:=by rw [← hw13];simp
 have hb13:=(hk13.below.block _ (obj_lt HB12.out)).trans HB12.out
 obtain ⟨⟨d0,d1,d2,d3,d4,d5,d6,d7,d8,d9,d10⟩,_⟩:=cells11 hb13
 have htab:=HTAB.out w13 (HK12.out.trans hk13)
 have hen:=encode_calls (some ⟨g1,0,none⟩) none none 1 0 0 smallF w13 ((HF12.out.later hk13.below).mono fun j hj _=>hj) smallF_wf htab.1 htab.2
 rw [HL.out] at hen
 have HEN:=Hi hen
 have HD13:=Hi hd13
 have HK13:=Hi hk13
 clear hw13 hk13 hd13 hb13 htab hen
 go_wp2_with fail
 refine HEN.out.mono ?_
 rintro e w14 ⟨v14,rfl,ho14,hkp14⟩
 obtain ⟨A14,c14,rfl,hlc14,hr14,hcm14,_⟩:=ho14.form
 have hlt14:∀ a,A14=some a→l≠[]→¬At W12.heap.size a.block:=fun a e hn h=>by
  subst e
  have hc0:0<c14:=by omega
  have:=(own_lt ho14 a.block rfl)
  have h2:=ho14.lt a.block rfl
  rw [At] at h
  omega
 have hsz14:=hkp14.size
 have hwr:=write_calls W12.heap.size (At W12.heap.size) (Dv.fresh 100) A14 c14 l w14 (HD13.out.below hkp14.below) (fresh_ok 100 (by omega)) hr14 hlt14 (by omega) (by simp only [Dv.fresh];omega)
 have HWR:=Hi hwr
 have HK14:=Hi (HK13.out.trans hkp14)
 clear d0 d1 d2 d3 d4 d5 d6 d7 d8 d9 d10 ho14 hr14 hlt14 hkp14 hwr HEN HD13 HK13
 generalize hLL:l.length=LL at *
 have HLL:=Hi hLL
 clear hLL
 go_wp2_with fail
 refine HWR.out.mono ?_
 rintro e w15 ⟨rfl,hd15,ht15⟩
 have hsz15:=ht15.size
 have hk15:Keeps W12 w15:=Touch.nothing (F:=At W12.heap.size) ((Touch.of_below HK14.out.below fun j hj h=>absurd hj (by omega)).then ht15) fun j hj e=>by rw [At] at e;omega
 obtain ⟨T,hT⟩:∃ T:Nat→Prop,T=fun j=>More (At W12.heap.size) w14 j∧j<w15.heap.size:=⟨_,rfl⟩
 have hTl:∀ j,T j→W12.heap.size≤j:=fun j h=>by
  rw [hT] at h
  rcases h.1 with h | h
  · rw [At] at h;omega
  · omega
 have hTn:∀ j,T j→j<w15.heap.size:=fun j h=>by rw [hT] at h;exact h.2
 have hd15:DV w15 T W12.heap.size (liveD l):=by rw [hT];exact (show DV w15 (More (At W12.heap.size) w14) W12.heap.size (liveD l) from hd15).here
 have hlowT:∀ X Y:World,Keeps W12 X→Touch T X Y→Keeps W12 Y:=fun X Y h1 h2=>Touch.nothing (F:=T) ((Touch.of_below h1.below fun j hj h=>absurd hj (by omega)).then h2) fun j hj h=>by have:=hTl j h;omega
 have hat:=scanAt_calls W12.heap.size T (liveD l) 0 w15 hd15 HOK.out (by rw [HCT.out];omega) fun w' h=>HTAB.out w' (HK12.out.trans (hlowT w15 w' hk15 h))
 rw [HFE.out] at hat
 have HAT:=Hi hat
 have HK15:=Hi hk15
 have HLT:=Hi hlowT
 have HTN:=Hi hTn
 clear hd15 ht15 hk15 hT hTn hTl hlowT hat HWR HK14
 go_wp2_with fail
 refine HAT.out.mono ?_
 rintro e w16 ⟨⟨P1,m1,P2,m2,P3,m3,rfl,hfo⟩,hd16,ht16⟩
 have hk16:=HLT.out w15 w16 HK15.out ht16
 obtain ⟨W17,hW17⟩:∃ W17,W17=w16.alloc (.cells (frCells P1 m1 P2 m2 P3 m3 f') 36):=⟨_,rfl⟩
 have hk1617:Keeps w16 W17:=by rw [hW17];exact (Keeps.refl w16).alloc _
 have hby:W17.heap[w16.heap.size]? = some (.cells (frCells P1 m1 P2 m2 P3 m3 f') 36 (0,0)):=by rw [hW17];exact obj_new _ _
 have hk17:=hk16.trans hk1617
 have hat2:=scanAt_calls W12.heap.size T (fetchD (liveD l) 0) (LL:Int) W17 (hd16.below hk1617.below) HOK2.out (by have:=HCT.out;have:=HCT2.out;omega) fun w' h=>HTAB.out w' (HK12.out.trans (HLT.out W17 w' hk17 h))
 rw [HEND.out] at hat2
 have HAT2:=Hi hat2
 have HBY:=Hi hby
 have HK17:=Hi hk17
 unfold frCells at hW17 HBY ⊢
 rw [hkind] at hW17 HBY
 have hsz16:=ht16.size
 clear hfo hd16 ht16 hk16 hk1617 hby hk17 hat2 HAT HK15
 generalize f'.cols.length=y1 at *
 generalize f'.block.length=y2 at *
 generalize f'.ents.length=y3 at *
 go_wp2_with fail
 rw [← hW17]
 clear hW17
 refine HAT2.out.mono ?_
 rintro e w18 ⟨rfl,hd18,ht18⟩
 have hk18:=HLT.out W17 w18 HK17.out ht18
 have hby18:=ht18.obj HBY.out (fun h=>by have:=HTN.out _ h;omega)
 rw [show frCells none 0 none 0 none 0 frZero=#[.int .i64 0,.int .i64 0,.slice none 0 0,.int .i64 0,.int .i64 0,.int .i64 0,.slice none 0 0,.int .i64 0,.int .i64 0,.int .i64 0,.slice none 0 0] from rfl]
 obtain ⟨W19,hW19⟩:∃ W19,W19=w18.alloc (.cells #[.int .i64 0,.int .i64 0,.slice none 0 0,.int .i64 0,.int .i64 0,.int .i64 0,.slice none 0 0,.int .i64 0,.int .i64 0,.int .i64 0,.slice none 0 0] 36):=⟨_,rfl⟩
 have hk1819:Keeps w18 W19:=by rw [hW19];exact (Keeps.refl w18).alloc _
 have hk19:=hk18.trans hk1819
 have hby19:=(hk1819.below.block _ (obj_lt hby18)).trans hby18
 have HBY19:=Hi hby19
 have z0:=(hk19.below.cell (World.block_lt_of_cell? W12 _ HX0'.out)).trans HX0'.out
 have z1:=(hk19.below.cell (World.block_lt_of_cell? W12 _ HX1'.out)).trans HX1'.out
 have z2:=(hk19.below.cell (World.block_lt_of_cell? W12 _ HX2'.out)).trans HX2'.out
 obtain ⟨t0,_⟩:=cells1 ((hk19.below.block _ (obj_lt HBV.out)).trans HBV.out)
 have HWK19:=Hi (HWK12.out.below hk19.below)
 have HS19:=Hi (HS12.out.later hk19.below)
 have HK19:=Hi (HK12.out.trans hk19)
 have e1:kTwo.frames=1:=rfl
 have e2:kTwo.rows=2:=rfl
 have e3:kTwo.number=0:=rfl
 have e4:kTwo.since=1:=rfl
 clear hd18 ht18 hk18 hby18 hk1819 hk19 hby19 HAT2 HBY HK17 HWK12 HS12 HBV HX0' HX1' HX2' HB12 HF12 HK12 HLT HTN
 go_wp2_with fail
 rw [← hW19]
 clear hW19
 have HWD:=Hi (HWK19.out.below (Keeps.drew W19).below)
 have HZ0:=Hi z0
 have HZ1:=Hi z1
 have HZ2:=Hi z2
 have HT0:=Hi t0
 have HSD:=Hi (HS19.out.later (Keeps.drew W19).below)
 obtain ⟨⟨k0,k1,k2,k3,k4,k5,k6,k7,k8,k9,k10⟩,_⟩:=cells11 HBY19.out
 have HK0:=Hi k0
 have HKD:=Hi (HK19.out.trans (Keeps.drew W19))
 clear k1 k2 k3 k4 k5 k6 k7 k8 k9 k10 HS19 HWK19 HK19 HBY19
 simp only [List.append]
 go_region_held3 (fun w'=>w'.cell? ⟨ge,0,none⟩=some (.int .i64 20)∧w'.cell? ⟨ge,1,none⟩=some (.int .i64 0)∧w'.cell? ⟨ge,2,none⟩=some (.int .i64 0)∧w'.cell? ⟨w11.heap.size,0,none⟩=some (.slice A11 NS c11)∧w'.cell? ⟨w16.heap.size,0,none⟩=some (.int .i64 1)) (go_keep) (first
  | (go_simp;go_at_call 28;refine (scanFrames_calls g U kTwo W19.drew HWD.out).mono ?_;rintro e wx ⟨rfl,rfl⟩)
  | (go_simp;go_at_call 29;refine (scanRows_calls g U kTwo W19.drew HWD.out).mono ?_;rintro e wx ⟨rfl,rfl⟩)
  | (go_simp;go_at_call 30;refine (scanNumber_calls g U kTwo W19.drew HWD.out).mono ?_;rintro e wx ⟨rfl,rfl⟩)
  | (go_simp;go_at_call 31;refine (scanSince_calls g U kTwo W19.drew HWD.out).mono ?_;rintro e wx ⟨rfl,rfl⟩)
  | (go_simp;go_at_call 36;refine (one_calls W19.drew).mono ?_
     rintro e w21 ⟨g2,hg2,rfl,hs21,hk21⟩
     have hsm:=refSchSame_calls A11 (some ⟨g2,0,none⟩) c11 1 _ _ (kTwo.schema 0) [smallCol] w21 (HSD.out.later hk21.below) hs21
     rw [← HNS.out,kTwo_same] at hsm
     have HSM:=Hi hsm
     have HK21:=Hi (HKD.out.trans hk21)
     have b0:=(hk21.below.cell (World.block_lt_of_cell? W19 _ HZ0.out)).trans HZ0.out
     have b1:=(hk21.below.cell (World.block_lt_of_cell? W19 _ HZ1.out)).trans HZ1.out
     have b2:=(hk21.below.cell (World.block_lt_of_cell? W19 _ HZ2.out)).trans HZ2.out
     have b3:=(hk21.below.cell (World.block_lt_of_cell? W19 _ HT0.out)).trans HT0.out
     have b4:=(hk21.below.cell (World.block_lt_of_cell? W19 _ HK0.out)).trans HK0.out
     have HB0:=Hi b0;have HB1:=Hi b1;have HB2:=Hi b2;have HB3:=Hi b3;have HB4:=Hi b4
     clear hsm hs21 hk21)
  | (go_simp;go_at_call 40;refine HSM.out.mono ?_
     rintro e w22 ⟨rfl,hk22⟩
     have f0:=(hk22.below.cell (World.block_lt_of_cell? w21 _ HB0.out)).trans HB0.out
     have f1:=(hk22.below.cell (World.block_lt_of_cell? w21 _ HB1.out)).trans HB1.out
     have f2:=(hk22.below.cell (World.block_lt_of_cell? w21 _ HB2.out)).trans HB2.out
     have f3:=(hk22.below.cell (World.block_lt_of_cell? w21 _ HB3.out)).trans HB3.out
     have f4:=(hk22.below.cell (World.block_lt_of_cell? w21 _ HB4.out)).trans HB4.out
     have HK22:=Hi (HK21.out.trans hk22)
     clear hk22))
 all_goals
  go_wp2
  go_ret
  exact ⟨rfl,HK22.out⟩
end Go.Proofs.YtihodcnnappkbaaGreatDoor
