/-
  The walk of the law's seen. Condition: the program's walk and the reference's stand for walks that are alike; the tables are as laid. Frames with their places, as an argument holds them. No condition. The program's walk and the reference's side by side, told the same frames. Condition: as each text says.
-/
import Derived.Test.YtihodcnnappkbaaGreatDoorG26
import Derived.Test.YtihodcnnappkbaaGreatDoorG14
import Derived.Test.YtihodcnnappkbaaGreatDoorG24
import Derived.Test.YtihodcnnappkbaaGreatDoorG20
import Derived.BigRegion
namespace Go.Proofs.YtihodcnnappkbaaGreatDoor
open Go.RowKit Go.BigFrame
set_option linter.unusedVariables false
set_option linter.unusedSimpArgs false
attribute [local go_sem] run_storeF
theorem i64s_one (l:List Int):∀ u∈i64s l,u.oneCell'=true:=fun u hu=>by
 obtain ⟨x,_,rfl⟩:=List.mem_map.1 hu
 rfl
set_option maxRecDepth 40000 in
set_option maxHeartbeats 8000000 in
theorem seen_calls (gw gr:Nat) (S T:Nat→Prop) (k:Wk) (r:Rk) (A:Option Addr) (c:Nat) (ns:List Int) (w:World) (hk:WkV w S gw k) (hr:RkV w T gr r) (ht:Twin k r) (hrow:RowAt w A (i64s ns)) (hn:ns.length≤8) (htb:Tabs w) :
 Calls Tryz.prog 15 #[.pointer (some ⟨gw,0,none⟩),.pointer (some ⟨gr,0,none⟩),.slice A ns.length c] w fun e w'=>e=.returned (.bool true)∧Keeps w w':=by
 have hen1:=ht.ok.en
 have hfit:=ht.fit
 have hnum:=ht.ok.num
 have cEN:=scanEntries_calls gw S k w hk (by omega)
 have HW:Hid (∀ X,Keeps w X→WkV X S gw k):=Hi fun X hX=>hk.below hX.below
 have HR:Hid (∀ X,Keeps w X→RkV X T gr r):=Hi fun X hX=>hr.below hX.below
 have HF:Hid (∀ X,Keeps w X→Calls Tryz.prog 46 #[.pointer (some ⟨gr,0,none⟩)] X fun e w'=>e=.returned (.int .i64 k.frames)∧Keeps X w'):=Hi fun X hX=>by
  have h:=rkFrames_calls gr T r X (HR.out X hX) ht.rok
  rw [show framesFrom r.f0 r.L=k.frames from ht.m.fr] at h
  exact h
 have HRW:Hid (∀ X,Keeps w X→Calls Tryz.prog 47 #[.pointer (some ⟨gr,0,none⟩)] X fun e w'=>e=.returned (.int .i64 k.rows)∧Keeps X w'):=Hi fun X hX=>by
  have h:=rkRows_calls gr T r X (HR.out X hX) ht.rok
  rw [show rowsFrom r.r0 r.L=k.rows from ht.m.rw] at h
  exact h
 have HNU:Hid (∀ X,Keeps w X→Calls Tryz.prog 48 #[.pointer (some ⟨gr,0,none⟩)] X fun e w'=>e=.returned (.int .i64 k.number)∧Keeps X w'):=Hi fun X hX=>by
  have h:=rkNumber_calls gr T r X (HR.out X hX)
  rw [ht.m.num] at h
  exact h
 have HSI:Hid (∀ X,Keeps w X→Calls Tryz.prog 49 #[.pointer (some ⟨gr,0,none⟩)] X fun e w'=>e=.returned (.int .i64 k.since)∧Keeps X w'):=Hi fun X hX=>by
  have h:=rkSince_calls gr T r X (HR.out X hX)
  rw [ht.m.since] at h
  exact h
 have HCL:Hid (∀ X,Keeps w X→Calls Tryz.prog 50 #[.pointer (some ⟨gr,0,none⟩)] X fun e w'=>e=.returned (.bool k.closed)∧Keeps X w'):=Hi fun X hX=>by
  have h:=rkClosed_calls gr T r X (HR.out X hX)
  rw [ht.m.cl] at h
  exact h
 have HRE:Hid (∀ X,Keeps w X→Calls Tryz.prog 51 #[.pointer (some ⟨gr,0,none⟩)] X fun e w'=>∃ B m,e=.returned (.slice B k.entries.length m)∧RowAt w' B (entCells k.entries)∧Keeps X w'):=Hi fun X hX=>by
  have h:=rkEntries_calls gr T r X (HR.out X hX) ht.rok
  rw [ht.m.entries] at h
  refine h.mono fun e w' ⟨v,h1,h2,h3⟩=>?_
  obtain ⟨B,m,h4,_,h5,_⟩:=h2.form
  exact ⟨B,m,by rw [h1,h4],h5,h3⟩
 have HSE:Hid (∀ X L lc B m,RowAt X L (entCells k.entries)→RowAt X B (entCells k.entries)→Calls Tryz.prog 33 #[.slice L k.entries.length lc,.slice B k.entries.length m] X fun e w'=>e=.returned (.bool true)∧Keeps X w'):=Hi fun X L lc B m h1 h2=>by
  have h:=sameEntries_calls L B lc m k.entries k.entries X (by omega) (by omega) h1 h2
  rw [show decide (k.entries=k.entries)=true by simp] at h
  exact h
 have HSC:Hid (∀ X (n:Int),Keeps w X→Calls Tryz.prog 37 #[.pointer (some ⟨gw,0,none⟩),.int .i64 n] X fun e w'=>∃ B m,e=.returned (.tuple #[.agg #[.slice B (k.schema n).length m],.bool (k.at n).isSome])∧SchS w' (fun b=>X.heap.size≤b) B (k.schema n)∧FreeC w' B (k.schema n)∧Keeps X w'):=Hi fun X n hX=>
  scanSchema_free gw S k n X (HW.out X hX) ht.sound.fine fun w' h=>htb.below (hX.trans h).below
 have HRS:Hid (∀ X (n:Int),Keeps w X→Calls Tryz.prog 52 #[.pointer (some ⟨gr,0,none⟩),.int .i64 n] X fun e w'=>∃ B m,e=.returned (.tuple #[.agg #[.slice B (colsIn (r.schema n)).length m],.bool (k.at n).isSome])∧SchS w' (fun b=>T b∨X.heap.size≤b) B (colsIn (r.schema n))∧Keeps X w'):=Hi fun X n hX=>by
  have h:=rkSchema_calls gr T r n X (HR.out X hX)
  rw [(ht.m.sc n).1] at h
  exact h
 have HPL:Hid (∀ X (n:Int),Keeps w X→Calls Tryz.prog 53 #[.pointer (some ⟨gw,0,none⟩),.int .i64 n] X fun e w'=>e=.returned (.tuple #[.int .i64 (placeOf (k.at n)),.bool (k.at n).isSome])∧Keeps X w'):=Hi fun X n hX=>
  scanPlace_calls gw S k n X (HW.out X hX)
 have HRP:Hid (∀ X (n:Int),Keeps w X→Calls Tryz.prog 54 #[.pointer (some ⟨gr,0,none⟩),.int .i64 n] X fun e w'=>e=.returned (.tuple #[.int .i64 (placeOf (k.at n)),.bool (k.at n).isSome])∧Keeps X w'):=Hi fun X n hX=>by
  have h:=rkPlace_calls gr T r n X (HR.out X hX)
  rw [ht.m.pl n] at h
  exact h
 have HSM:Hid (∀ X (n:Int) B1 m1 B2 m2 S1 S2,SchS X S1 B1 (k.schema n)→SchS X S2 B2 (colsIn (r.schema n))→Calls Tryz.prog 40 #[.agg #[.slice B1 (k.schema n).length m1],.agg #[.slice B2 (colsIn (r.schema n)).length m2]] X fun e w'=>e=.returned (.bool true)∧Keeps X w'):=Hi fun X n B1 m1 B2 m2 S1 S2 h1 h2=>by
  have h:=refSchSame_calls B1 B2 m1 m2 S1 S2 (k.schema n) (colsIn (r.schema n)) X h1 h2
  rw [ht.m.same ht.sound n] at h
  exact h
 have HEN:=Hi cEN
 have HROW:=Hi hrow
 obtain ⟨N,hN⟩:∃ N,N=k.entries.length:=⟨_,rfl⟩
 obtain ⟨NS,hNS⟩:∃ NS,NS=ns.length:=⟨_,rfl⟩
 rw [← hNS] at hn ⊢
 rw [← hN] at HEN HRE HSE hen1
 have hwn:IntKind.i64.wrap (k.number+1)=k.number+1:=IntWalk.i64_in _ (by omega)
 have HNSL:=Hi hNS
 clear cEN hk hr ht hrow htb hfit hN hNS
 go_enter Tryz.func15,Tryz.ntmps15
 go_wp2_with fail
 refine HEN.out.mono ?_
 rintro e w1 ⟨v1,rfl,hl1,hk1⟩
 obtain ⟨L,lc,rfl,hnlc,hlcm,hrow1,hwip⟩:=Wiped.start hl1 hk1
 have HWIP:=Hi hwip
 have HROW1:=Hi hrow1
 have HK1:=Hi hk1
 clear hl1 hwip hrow1 hk1 HEN
 go_wp2_with fail
 refine (scanFrames_calls gw S k w1 (HW.out w1 HK1.out)).mono ?_
 rintro e vx ⟨rfl,rfl⟩
 go_wp2_with fail
 refine (HF.out w1 HK1.out).mono ?_
 rintro e w2 ⟨rfl,hk2⟩
 have HK2:=Hi (HK1.out.trans hk2)
 have HB2:=Hi hk2
 clear hk2
 go_wp2_with fail
 refine (scanRows_calls gw S k w2 (HW.out w2 HK2.out)).mono ?_
 rintro e vx ⟨rfl,rfl⟩
 go_wp2_with fail
 refine (HRW.out w2 HK2.out).mono ?_
 rintro e w3 ⟨rfl,hk3⟩
 have HK3:=Hi (HK2.out.trans hk3)
 have HB3:=Hi (HB2.out.trans hk3)
 clear hk3
 go_wp2_with fail
 refine (scanNumber_calls gw S k w3 (HW.out w3 HK3.out)).mono ?_
 rintro e vx ⟨rfl,rfl⟩
 go_wp2_with fail
 refine (HNU.out w3 HK3.out).mono ?_
 rintro e w4 ⟨rfl,hk4⟩
 have HK4:=Hi (HK3.out.trans hk4)
 have HB4:=Hi (HB3.out.trans hk4)
 clear hk4
 go_wp2_with fail
 refine (scanSince_calls gw S k w4 (HW.out w4 HK4.out)).mono ?_
 rintro e vx ⟨rfl,rfl⟩
 go_wp2_with fail
 refine (HSI.out w4 HK4.out).mono ?_
 rintro e w5 ⟨rfl,hk5⟩
 have HK5:=Hi (HK4.out.trans hk5)
 have HB5:=Hi (HB4.out.trans hk5)
 clear hk5
 go_wp2_with fail
 refine (scanClosed_calls gw S k w5 (HW.out w5 HK5.out)).mono ?_
 rintro e vx ⟨rfl,rfl⟩
 go_wp2_with fail
 refine (HCL.out w5 HK5.out).mono ?_
 rintro e w6 ⟨rfl,hk6⟩
 have HK6:=Hi (HK5.out.trans hk6)
 have HB6:=Hi (HB5.out.trans hk6)
 clear hk6
 go_wp2_with fail
 refine (HRE.out w6 HK6.out).mono ?_
 rintro e w7 ⟨B7,m7,rfl,hrow7,hk7⟩
 have hse:=HSE.out w7 L lc B7 m7 (HROW1.out.below (HB6.out.trans hk7).below) hrow7
 have HSEX:=Hi hse
 have HK7:=Hi (HK6.out.trans hk7)
 have HB7:=Hi (HB6.out.trans hk7)
 clear hk7 hse hrow7
 go_wp2_with fail
 refine HSEX.out.mono ?_
 rintro e w8 ⟨rfl,hk8⟩
 have HK8:=Hi (HK7.out.trans hk8)
 have hw8:Wiped w w8 L lc:=by
  have hb:=HB7.out.trans hk8
  refine ⟨HK8.out,fun j hj=>?_⟩
  obtain ⟨ad,e1,e2,e3,e4⟩:=HWIP.out.room j hj
  refine ⟨ad,e1,e2,fun q hq=>?_,e4⟩
  obtain ⟨u,h1,h2⟩:=e3 q hq
  have hlt:=World.block_lt_of_cell? w1 _ h1
  exact ⟨u,by rw [World.cell?_of_block (w:=w1) (hb.below.block _ hlt)];exact h1,by rw [World.frozen?_of_block (w:=w1) (hb.below.block _ hlt)];exact h2⟩
 have HW8:=Hi hw8
 clear hk8 hw8 HSEX HB2 HB3 HB4 HB5 HB6 HB7 HK1 HK2 HK3 HK4 HK5 HK6 HK7 HWIP HROW1
 have hlcz:(lc:Int)≤9223372036854775807:=by omega
 go_wp2_with fail
 go_loopw [69] (fun i wr=>∃ j:Nat,j≤lc∧i=.int .i64 (j:Int)∧Wiped w wr L lc) (fun i _=>lc-(intOf i).toNat)
 case atStart=>exact ⟨0,by omega,rfl,HW8.out⟩
 case round=>
  obtain ⟨j,hj,rfl,hwr⟩:=hrel
  by_cases hlt:j<lc
  · obtain ⟨ad,u0,u1,u2,rfl,⟨p0,p1,p2⟩,⟨q0,q1,q2⟩,e1,e2,hst⟩:=hwr.get hlt
    have e3:=fun x=>(e1 x).1
    have e4:=fun x=>(e1 x).2
    have e5:=fun x y=>(e2 x y).1
    have e6:=fun x y=>(e2 x y).2
    clear e1 e2
    have HST:=Hi hst
    have hjl:(j:Int)<(lc:Int):=by omega
    have hj0:(0:Int)≤(j:Int):=by omega
    clear hwr hst HW8
    go_wp2
    exact ⟨⟨j+1,by omega,by go_num,HST.out _ _ _⟩,by simp [intOf];omega⟩
  · have hjl:¬(j:Int)<(lc:Int):=by omega
    have HKA:=Hi hwr.keeps
    clear hwr HW8 HK8
    go_wp2_with fail
    refine (HNU.out wr HKA.out).mono ?_
    rintro e w9 ⟨rfl,hk9⟩
    have HK9:=Hi (HKA.out.trans hk9)
    clear hk9 HKA
    go_wp2_with fail
    refine (HNU.out w9 HK9.out).mono ?_
    rintro e w10 ⟨rfl,hk10⟩
    have HK10:=Hi (HK9.out.trans hk10)
    clear hk10 HK9
    have hown:Loose (w10.alloc (.cells #[.int .i64 (-1),.int .i64 0,.int .i64 1,.int .i64 2,.int .i64 k.number,.int .i64 (k.number+1)] 2)) w.heap.size 2 1 (.slice (some ⟨w10.heap.size,0,none⟩) 6 6) 6 (i64s [-1,0,1,2,k.number,k.number+1]):=
     .inr ⟨w10.heap.size,6,rfl,by omega,⟨rfl,.inr ⟨w10.heap.size,6,_,rfl,HK10.out.size,heap_alloc_new w10 _,by omega,by simp only [maxLen];omega,rfl,rfl⟩⟩⟩
    have HOWN:=Hi hown
    have HKA:=Hi (HK10.out.alloc (.cells #[.int .i64 (-1),.int .i64 0,.int .i64 1,.int .i64 2,.int .i64 k.number,.int .i64 (k.number+1)] 2))
    have HRX:=Hi (HROW.out.below HKA.out.below)
    have HNSL2:Hid ((i64s ns).length=NS*1):=Hi (by rw [i64s_length,HNSL.out];omega)
    clear hown
    go_wp2_with (at_builtin;refine wpList_append_rows w.heap.size (by rfl) _ _ 92 2 (.int .i64 0) 1 8 (by rfl) Tryz.underlying92 info_i64b rfl (by omega) (.slice (some ⟨w10.heap.size,0,none⟩) 6 6) 6 (i64s [-1,0,1,2,k.number,k.number+1]) (by rfl) HOWN.out A NS c (i64s ns) (by rfl) HNSL2.out HRX.out (i64s_one ns) (by simp only [maxLen];omega) (by omega) HKA.out.size ?_)
    intro v' w11 hl11 hg11 _
    obtain ⟨A11,c11,rfl,hlc11,hrow11,_⟩:=hl11.form
    have hk11:Keeps w w11:=Touch.nothing (F:=fun b=>w.heap.size≤b) ((Touch.of_below HKA.out.below fun b hb h=>absurd hb (by omega)).grown hg11 fun b hb _=>by
     have:blk (.slice (some ⟨w10.heap.size,0,none⟩) 6 6)=some w10.heap.size:=blk_at _ _ _ _ (by omega)
     rw [this] at hb
     injection hb with hb
     have:=HK10.out.size
     omega) fun b hb h=>by omega
    have e11:i64s [-1,0,1,2,k.number,k.number+1]++i64s ns=i64s ([-1,0,1,2,k.number,k.number+1]++ns):=by simp [i64s]
    rw [e11] at hrow11
    have HROW11:=Hi hrow11
    have HK11:=Hi hk11
    have HL11:Hid (([-1,0,1,2,k.number,k.number+1]++ns:List Int).length=6+NS):=Hi (by rw [List.length_append,HNSL.out];rfl)
    clear hl11 hg11 hrow11 hk11 e11 HOWN HKA HRX HNSL2 HK10
    generalize ([-1,0,1,2,k.number,k.number+1]++ns:List Int)=NL at *
    have hm:6+NS≤20:=by omega
    generalize 6+NS=M at *
    go_wp2_with fail
    go_loopw [86] (fun i wr=>∃ j:Nat,j≤M∧i=.int .i64 (j:Int)∧Keeps w11 wr) (fun i _=>M-(intOf i).toNat)
    case atStart=>exact ⟨0,by omega,rfl,Keeps.refl _⟩
    case round=>
     obtain ⟨j,hj,rfl,hkw⟩:=hrel
     by_cases hlt:j<M
     · obtain ⟨ad,rfl,hc⟩:=row_i64 (HROW11.out.below hkw.below) j (by rw [HL11.out];exact hlt)
       generalize NL[j]'_=n at hc
       have hjl:(j:Int)<(M:Int):=by omega
       have hj0:(0:Int)≤(j:Int):=by omega
       have HKW:=Hi hkw
       have HKX:=Hi (HK11.out.trans hkw)
       clear hkw
       obtain ⟨N1,hN1⟩:∃ N1,N1=(k.schema n).length:=⟨_,rfl⟩
       obtain ⟨N2,hN2⟩:∃ N2,N2=(colsIn (r.schema n)).length:=⟨_,rfl⟩
       obtain ⟨q,hq⟩:∃ q,q=(k.at n).isSome:=⟨_,rfl⟩
       obtain ⟨pl,hpl⟩:∃ pl,pl=placeOf (k.at n):=⟨_,rfl⟩
       have HSC':Hid (∀ X,Keeps w X→Calls Tryz.prog 37 #[.pointer (some ⟨gw,0,none⟩),.int .i64 n] X fun e w'=>∃ B m,e=.returned (.tuple #[.agg #[.slice B N1 m],.bool q])∧SchS w' (fun b=>X.heap.size≤b) B (k.schema n)∧FreeC w' B (k.schema n)∧Keeps X w'):=Hi fun X hX=>by rw [hN1,hq];exact HSC.out X n hX
       have HRS':Hid (∀ X,Keeps w X→Calls Tryz.prog 52 #[.pointer (some ⟨gr,0,none⟩),.int .i64 n] X fun e w'=>∃ B m,e=.returned (.tuple #[.agg #[.slice B N2 m],.bool q])∧SchS w' (fun b=>T b∨X.heap.size≤b) B (colsIn (r.schema n))∧Keeps X w'):=Hi fun X hX=>by rw [hN2,hq];exact HRS.out X n hX
       have HPL':Hid (∀ X,Keeps w X→Calls Tryz.prog 53 #[.pointer (some ⟨gw,0,none⟩),.int .i64 n] X fun e w'=>e=.returned (.tuple #[.int .i64 pl,.bool q])∧Keeps X w'):=Hi fun X hX=>by rw [hpl,hq];exact HPL.out X n hX
       have HRP':Hid (∀ X,Keeps w X→Calls Tryz.prog 54 #[.pointer (some ⟨gr,0,none⟩),.int .i64 n] X fun e w'=>e=.returned (.tuple #[.int .i64 pl,.bool q])∧Keeps X w'):=Hi fun X hX=>by rw [hpl,hq];exact HRP.out X n hX
       have HSM':Hid (∀ X B1 m1 B2 m2 S1 S2,SchS X S1 B1 (k.schema n)→SchS X S2 B2 (colsIn (r.schema n))→Calls Tryz.prog 40 #[.agg #[.slice B1 N1 m1],.agg #[.slice B2 N2 m2]] X fun e w'=>e=.returned (.bool true)∧Keeps X w'):=Hi fun X B1 m1 B2 m2 S1 S2 h1 h2=>by rw [hN1,hN2];exact HSM.out X n B1 m1 B2 m2 S1 S2 h1 h2
       have HN1:=Hi hN1
       clear hN1 hN2 hq hpl
       go_wp2_with fail
       refine (HSC'.out wr HKX.out).mono ?_
       rintro e v1 ⟨B1,m1,rfl,hs1,hf1,hk1⟩
       have hN1b:N1≤1152921504606846976:=by rw [HN1.out];exact hs1.len
       obtain ⟨v2,hv2⟩:∃ v2,v2=v1.alloc (.cells #[.slice B1 N1 m1] 30):=⟨_,rfl⟩
       have hk12:Keeps v1 v2:=by rw [hv2];exact (Keeps.refl v1).alloc _
       have hb2:v2.heap[v1.heap.size]? = some (.cells #[.slice B1 N1 m1] 30):=by rw [hv2];exact obj_new v1 _
       have HS1:=Hi hs1
       have HF1:=Hi hf1
       have HK1:=Hi hk1
       have HK12:=Hi hk12
       have HB2:=Hi hb2
       have HKV2:=Hi (HKX.out.trans (hk1.trans hk12))
       clear hs1 hf1 hk1 hk12 hb2
       go_wp2_with fail
       rw [← hv2]
       clear hv2
       refine (HRS'.out v2 HKV2.out).mono ?_
       rintro e v3 ⟨B2,m2,rfl,hs2,hk3⟩
       obtain ⟨v4,hv4⟩:∃ v4,v4=v3.alloc (.cells #[.slice B2 N2 m2] 30):=⟨_,rfl⟩
       have hk34:Keeps v3 v4:=by rw [hv4];exact (Keeps.refl v3).alloc _
       have hb4:v4.heap[v3.heap.size]? = some (.cells #[.slice B2 N2 m2] 30):=by rw [hv4];exact obj_new v3 _
       have HS2:=Hi (hs2.later hk34.below)
       have HK24:=Hi (hk3.trans hk34)
       have HB4:=Hi hb4
       have HKV4:=Hi (HKV2.out.trans (hk3.trans hk34))
       clear hs2 hk3 hk34 hb4
       go_wp2_with fail
       rw [← hv4]
       clear hv4
       refine (HPL'.out v4 HKV4.out).mono ?_
       rintro e v5 ⟨rfl,hk5⟩
       have HK45:=Hi hk5
       have HKV5:=Hi (HKV4.out.trans hk5)
       clear hk5
       go_wp2_with fail
       refine (HRP'.out v5 HKV5.out).mono ?_
       rintro e v6 ⟨rfl,hk6⟩
       have HK46:=Hi (HK45.out.trans hk6)
       have HK16:=Hi (HK12.out.trans (HK24.out.trans (HK45.out.trans hk6)))
       clear hk6
       have hb1:=((HK24.out.trans HK46.out).below.block _ (obj_lt HB2.out)).trans HB2.out
       have hb3:=(HK46.out.below.block _ (obj_lt HB4.out)).trans HB4.out
       have HSM2:=Hi (HSM'.out v6 B1 m1 B2 m2 _ _ (HS1.out.later HK16.out.below) (HS2.out.later HK46.out.below))
       obtain ⟨d1,f1⟩:=cells1 hb1
       obtain ⟨d3,f3⟩:=cells1 hb3
       have HBX:=Hi hb1
       clear hb1 hb3
       go_wp2_with fail
       refine HSM2.out.mono ?_
       rintro e v7 ⟨rfl,hk7⟩
       have hb7:=(hk7.below.block _ (obj_lt HBX.out)).trans HBX.out
       obtain ⟨d7,f7⟩:=cells1 hb7
       have HNM:Hid (Named wr v7 v1.heap.size B1 N1 m1):=Hi (by
        have h:=Named.start (X:=v1.heap.size) (c:=m1) HS1.out HF1.out (Nat.le_refl _) (HK16.out.trans hk7).below (HK1.out.trans (HK16.out.trans hk7)) (by rw [← HN1.out];exact d7)
        rw [← HN1.out] at h
        exact h)
       clear hk7 hb7 d1 f1 d3 f3 HSM2 HBX HK46 HK45 HK24 HK12 HB2 HB4 HS1 HS2 HF1
       go_wp2_with fail
       go_loopw [136] (fun i wr3=>∃ jj:Nat,jj≤N1∧i=.int .i64 (jj:Int)∧Named wr wr3 v1.heap.size B1 N1 m1) (fun i _=>N1-(intOf i).toNat)
       case atStart=>exact ⟨0,by omega,rfl,HNM.out⟩
       case round=>
        rename_i wr3
        obtain ⟨jj,hjj,rfl,hnm⟩:=hrel
        by_cases hlt2:jj<N1
        · obtain ⟨ad2,x,rfl,hx,hz,hst⟩:=hnm.get hlt2
          have hcell:=hnm.cell
          have HST:=Hi hst
          have hjl2:(jj:Int)<(N1:Int):=by omega
          have hj02:(0:Int)≤(jj:Int):=by omega
          clear hnm hst HNM
          go_wp2
          exact ⟨⟨jj+1,by omega,by go_num,HST.out _⟩,by simp [intOf];omega⟩
        · have hjl2:¬(jj:Int)<(N1:Int):=by omega
          have HKN:=Hi hnm.keeps
          clear hnm HNM
          go_wp2
          exact ⟨⟨j+1,by omega,by go_num,HKW.out.trans HKN.out⟩,by simp [intOf];omega⟩
     · have hjl:¬(j:Int)<(M:Int):=by omega
       have HKZ:=Hi (HK11.out.trans hkw)
       clear hkw
       go_wp2
       go_ret
       exact ⟨rfl,HKZ.out⟩
end Go.Proofs.YtihodcnnappkbaaGreatDoor
namespace Go.Proofs.YtihodcnnappkbaaGreatDoor
open Go.RowKit Go.BigFrame
set_option linter.unusedVariables false
set_option linter.unusedSimpArgs false
def StR (w:World) (B:Nat) (cs:List Value) (p:Fr×Int):Prop:=∃ A c Bl d E m,cs=plCells A c Bl d E m p∧FrS w (fun b=>b<B) A Bl E p.1∧p.1.cols.length≤c∧p.1.wf
structure Steps (w:World) (B:Nat) (A:Option Addr) (l:List (Fr×Int)):Prop where
 ex:∃ rows:List (List Value),rows.length=l.length∧(∀ (i:Nat) (cs:List Value) (p:Fr×Int),rows[i]? = some cs→l[i]? = some p→StR w B cs p)∧RowAt w A rows.flatten
theorem Steps.below {w w':World} {B:Nat} {A:Option Addr} {l:List (Fr×Int)} (h:Steps w B A l) (hb:Below w.heap.size w w'):Steps w' B A l:=by
 obtain ⟨rows,h1,h2,h3⟩:=h.ex
 refine ⟨rows,h1,fun i cs p hi hp=>?_,h3.below hb⟩
 obtain ⟨A1,c,Bl,d,E,m,e,hf,h4⟩:=h2 i cs p hi hp
 exact ⟨A1,c,Bl,d,E,m,e,hf.later hb,h4⟩
theorem Steps.at {w:World} {B:Nat} {A:Option Addr} {l:List (Fr×Int)} (h:Steps w B A l) (j:Nat) (hj:j<l.length) :
 ∃ ad,A=some ad∧∃ A1 c Bl d E m,FrS w (fun b=>b<B) A1 Bl E (l[j]'hj).1∧(l[j]'hj).1.cols.length≤c∧(l[j]'hj).1.wf∧∀ X,Below w.heap.size w X→X.cell? (ad.add (j*12))=some (.int .i64 (l[j]'hj).1.kind)∧X.cell? ⟨(ad.add (j*12)).block,(ad.add (j*12)).off+1,none⟩=some (.int .i64 (l[j]'hj).1.number) ∧
   X.cell? ⟨(ad.add (j*12)).block,(ad.add (j*12)).off+2,none⟩=some (.slice A1 (l[j]'hj).1.cols.length c)∧X.cell? ⟨(ad.add (j*12)).block,(ad.add (j*12)).off+3,none⟩=some (.int .i64 (l[j]'hj).1.seq) ∧
   X.cell? ⟨(ad.add (j*12)).block,(ad.add (j*12)).off+4,none⟩=some (.int .i64 (l[j]'hj).1.first)∧X.cell? ⟨(ad.add (j*12)).block,(ad.add (j*12)).off+5,none⟩=some (.int .i64 (l[j]'hj).1.rows) ∧
   X.cell? ⟨(ad.add (j*12)).block,(ad.add (j*12)).off+6,none⟩=some (.slice Bl (l[j]'hj).1.block.length d)∧X.cell? ⟨(ad.add (j*12)).block,(ad.add (j*12)).off+7,none⟩=some (.int .i64 (l[j]'hj).1.spot) ∧
   X.cell? ⟨(ad.add (j*12)).block,(ad.add (j*12)).off+8,none⟩=some (.int .i64 (l[j]'hj).1.frames)∧X.cell? ⟨(ad.add (j*12)).block,(ad.add (j*12)).off+9,none⟩=some (.int .i64 (l[j]'hj).1.irows) ∧
   X.cell? ⟨(ad.add (j*12)).block,(ad.add (j*12)).off+10,none⟩=some (.slice E (l[j]'hj).1.ents.length m)∧X.cell? ⟨(ad.add (j*12)).block,(ad.add (j*12)).off+11,none⟩=some (.int .i64 (l[j]'hj).2):=by
 obtain ⟨rows,h1,h2,h3⟩:=h.ex
 have h12:∀ cs∈rows,cs.length=12:=fun cs hc=>by
  obtain ⟨i,hi,rfl⟩:=List.getElem_of_mem hc
  obtain ⟨A,c,B,d,E,m,e,_⟩:=h2 i _ (l[i]'(by omega)) (List.getElem?_eq_getElem hi) (List.getElem?_eq_getElem (by omega))
  rw [e]
  rfl
 obtain ⟨cs,hcs⟩:∃ cs,rows[j]? = some cs:=⟨_,List.getElem?_eq_getElem (by omega)⟩
 obtain ⟨A1,c,Bl,d,E,m,rfl,hf,hcap,hw⟩:=h2 j cs (l[j]'hj) hcs (List.getElem?_eq_getElem hj)
 have hg:=fun r hr=>rows_get h12 hcs (r:=r) hr
 obtain ⟨ad,e1,_⟩:=h3 (12*j+0) _ (hg 0 (by omega))
 refine ⟨ad,e1,A1,c,Bl,d,E,m,hf,hcap,hw,fun X hb=>?_⟩
 have h4:=h3.below hb
 have hc:∀ r u,0<r→r<12→(plCells A1 c Bl d E m (l[j]'hj))[r]? = some u→X.cell? ⟨(ad.add (j*12)).block,(ad.add (j*12)).off+r,none⟩=some u:=fun r u hr0 hr hu=>by
  obtain ⟨ad',e,hcl⟩:=h4 (12*j+r) u ((hg r hr).trans hu)
  rw [e1] at e
  cases e
  rw [← addr_add_pos _ _ hr0,addr_add_add,Nat.mul_comm j 12]
  exact hcl
 refine ⟨?_,hc 1 _ (by omega) (by omega) rfl,hc 2 _ (by omega) (by omega) rfl,hc 3 _ (by omega) (by omega) rfl,hc 4 _ (by omega) (by omega) rfl,hc 5 _ (by omega) (by omega) rfl,hc 6 _ (by omega) (by omega) rfl,hc 7 _ (by omega) (by omega) rfl,hc 8 _ (by omega) (by omega) rfl,hc 9 _ (by omega) (by omega) rfl,hc 10 _ (by omega) (by omega) rfl,hc 11 _ (by omega) (by omega) rfl⟩
 obtain ⟨ad',e,hcell⟩:=h4 (12*j+0) _ (hg 0 (by omega))
 rw [e1] at e
 cases e
 rw [Nat.mul_comm]
 exact hcell
theorem cells12 {w:World} {g:Nat} {a0 a1 a2 a3 a4 a5 a6 a7 a8 a9 a10 a11:Value} {t:TypeId} {fr:Nat×Nat} (hg:w.heap[g]? = some (.cells #[a0,a1,a2,a3,a4,a5,a6,a7,a8,a9,a10,a11] t fr)) :
 w.cell? ⟨g,0,none⟩=some a0∧w.cell? ⟨g,1,none⟩=some a1∧w.cell? ⟨g,2,none⟩=some a2∧w.cell? ⟨g,3,none⟩=some a3∧w.cell? ⟨g,4,none⟩=some a4∧w.cell? ⟨g,5,none⟩=some a5∧w.cell? ⟨g,6,none⟩=some a6∧w.cell? ⟨g,7,none⟩=some a7∧w.cell? ⟨g,8,none⟩=some a8∧w.cell? ⟨g,9,none⟩=some a9∧w.cell? ⟨g,10,none⟩=some a10∧w.cell? ⟨g,11,none⟩=some a11:=
 ⟨by rw [obj_cell hg];rfl,by rw [obj_cell hg];rfl,by rw [obj_cell hg];rfl,by rw [obj_cell hg];rfl,by rw [obj_cell hg];rfl,by rw [obj_cell hg];rfl,by rw [obj_cell hg];rfl,by rw [obj_cell hg];rfl,by rw [obj_cell hg];rfl,by rw [obj_cell hg];rfl,by rw [obj_cell hg];rfl,by rw [obj_cell hg];rfl⟩
structure Duo (w wr:World) (S:Nat→Prop) (gw gr:Nat) (k:Wk) (r:Rk):Prop where
 prog:WkV wr S gw k
 ref:RkV wr (fun b=>¬S b) gr r
 own:∀ b,S b→w.heap.size≤b
 low:w.heap.size≤gr
 keeps:Keeps w wr
def Far (wr w':World) (S:Nat→Prop) (gr:Nat):Prop:=∀ b,b<wr.heap.size→¬S b→b≠gr→w'.heap[b]? = wr.heap[b]?
theorem Duo.below {w wr w':World} {S:Nat→Prop} {gw gr:Nat} {k:Wk} {r:Rk} (h:Duo w wr S gw gr k r) (hk:Keeps wr w'):Duo w w' S gw gr k r:=
 ⟨h.prog.below hk.below,h.ref.below hk.below,h.own,h.low,h.keeps.trans hk⟩
theorem Duo.here {w wr:World} {S:Nat→Prop} {gw gr:Nat} {k:Wk} {r:Rk} (h:Duo w wr S gw gr k r):Duo w wr (fun b=>S b∧b<wr.heap.size) gw gr k r:=
 ⟨h.prog.here,h.ref.mono fun b _ hb hs=>hb hs.1,fun b hb=>h.own b hb.1,h.low,h.keeps⟩
theorem Duo.gr_lt {w wr:World} {S:Nat→Prop} {gw gr:Nat} {k:Wk} {r:Rk} (h:Duo w wr S gw gr k r):gr<wr.heap.size:=h.ref.lt
theorem Duo.keep_of {w wr w':World} {S:Nat→Prop} {gw gr:Nat} {k:Wk} {r:Rk} (h:Duo w wr S gw gr k r) (ht:Touch S wr w'):Keeps w w':=
 Touch.nothing (F:=S) ((Touch.of_below h.keeps.below fun b hb hs=>absurd hb (by omega)).then ht) fun b hb hs=>by have:=h.own b hs;omega
theorem Duo.next {w wr:World} {S:Nat→Prop} {gw gr:Nat} {k:Wk} {r:Rk} (h:Duo w wr S gw gr k r) (hok:k.ok) {A B E:Option Addr} {c d m:Nat} {f:Fr} (a:Int) (hf:FrS wr (fun b=>b<w.heap.size) A B E f) (hfw:f.wf) (htb:Tabs w) (ht:Table w) :
 Calls Tryz.prog 13 #[.pointer (some ⟨gw,0,none⟩),.agg (frCells A c B d E m f),.int .i64 a] wr fun e w'=>e=.returned (.int .i64 (k.next f a).2)∧∃ S',Duo w w' S' gw gr (k.next f a).1 r∧Far wr w' S gr∧∀ b,S' b→S b∨wr.heap.size≤b:=by
 have hkw:=h.keeps.size
 refine (scanNext_went gw (fun b=>S b∧b<wr.heap.size) k A B E c d m f a wr h.prog.here hok (hf.mono fun b hb hw=>⟨hb,fun hs=>by have:=h.own b hs.1;omega⟩) hfw fun w' ht'=>?_).mono fun e w' ⟨h1,h2,h3⟩=>?_
 · have hk:=h.keep_of (ht'.mono fun b _ hs=>hs.1)
   exact ⟨htb.below hk.below,ht.later hk.below⟩
 · have hS:Touch S wr w':=(h3.in h.prog.here).mono fun b _ hs=>hs.1
   refine ⟨h1,More (fun b=>S b∧b<wr.heap.size) wr,⟨h2,?_,fun b hb=>?_,h.low,h.keep_of hS⟩,fun b hb hs hg=>hS.block b hb hs,fun b hb=>hb.imp (fun hs=>hs.1) id⟩
   · exact (h.ref.here.touch hS fun b hb=>hb.1).mono fun b _ hb hm=>hm.elim (fun hs=>hb.1 hs.1) fun hs=>by have:=hb.2;omega
   · rcases hb with hb | hb
     · exact h.own b hb.1
     · omega
theorem Duo.rnext {w wr:World} {S:Nat→Prop} {gw gr:Nat} {k:Wk} {r:Rk} (h:Duo w wr S gw gr k r) (hfit:r.fit) {A B E:Option Addr} {c d m:Nat} {f:Fr} (a:Int) (hf:FrS wr (fun b=>b<w.heap.size) A B E f) (hcap:f.cols.length≤c) (hfw:f.wf) (htb:Tabs w) (hmore:r.L.length<1048576) :
 Calls Tryz.prog 14 #[.pointer (some ⟨gr,0,none⟩),.agg (frCells A c B d E m f),.int .i64 a] wr fun e w'=>e=.returned (.int .i64 (r.next f a).2)∧∃ S',Duo w w' S' gw gr k (r.next f a).1∧Far wr w' S gr∧∀ b,S' b→S b∨wr.heap.size≤b:=by
 have hkw:=h.keeps.size
 refine (rkNext_calls gr (fun b=>¬S b) (fun b=>b<w.heap.size) r A B E c d m f a wr h.ref hfit hf (fun b hb=>by omega) (fun b hb=>by have:=h.low;omega) hcap hfw (htb.below h.keeps.below) hmore).mono fun e w' ⟨h1,h2,h3⟩=>?_
 have hk:Keeps w w':=Touch.nothing (F:=At gr) ((Touch.of_below h.keeps.below fun b hb hs=>absurd hb (by omega)).then h3) fun b hb hs=>by have:=h.low;rw [At] at hs;omega
 refine ⟨h1,fun b=>S b∧b<wr.heap.size,⟨h.prog.here.touch h3 fun b hb e=>h.ref.self (e▸hb.1),h2.mono fun b _ hb hs=>?_,fun b hb=>h.own b hb.1,h.low,hk⟩,fun b hb hs hg=>h3.block b hb hg,fun b hb=>.inl hb.1⟩
 rcases hb with (hb | hb) | hb
 · exact hb hs.1
 · have:=h.own b hs.1;omega
 · have:=hs.2;omega
theorem Duo.seen {w wr:World} {S:Nat→Prop} {gw gr:Nat} {k:Wk} {r:Rk} (h:Duo w wr S gw gr k r) (ht:Twin k r) (A:Option Addr) (c:Nat) (ns:List Int) (hrow:RowAt wr A (i64s ns)) (hn:ns.length≤8) (htb:Tabs w) :
 Calls Tryz.prog 15 #[.pointer (some ⟨gw,0,none⟩),.pointer (some ⟨gr,0,none⟩),.slice A ns.length c] wr fun e w'=>e=.returned (.bool true)∧Keeps wr w':=
 seen_calls gw gr S (fun b=>¬S b) k r A c ns wr h.prog h.ref ht hrow hn (htb.below h.keeps.below)
theorem Duo.start {w w1 w2 w3:World} {gw gr:Nat} (hk1:Keeps w w1) (hk2:Keeps w1 w2) (hk3:Keeps w2 w3) (h1:WkV w2 (fun j=>w1.heap.size≤j) gw Wk.fresh) (h2:RkV w3 (fun j=>w2.heap.size≤j) gr Rk.fresh) (hg:w2.heap.size≤gr):Duo w w3 (fun b=>w1.heap.size≤b∧b<w2.heap.size) gw gr Wk.fresh Rk.fresh:=by
 have s1:=hk1.size
 have s2:=hk2.size
 exact ⟨h1.here.below hk3.below,h2.mono fun b _ hb hs=>by omega,fun b hb=>by omega,by omega,hk1.trans (hk2.trans hk3)⟩
end Go.Proofs.YtihodcnnappkbaaGreatDoor
