/-
  The walk of the law's seen. Condition: the program's walk and the reference's stand for walks that are alike; the tables are as laid. Frames with their places, as an argument holds them. No condition. The program's walk and the reference's side by side, told the same frames. Condition: as each text says.
-/
import Derived.Test.YtihodcnnappkbaaGreatDoorG26
import Derived.Test.YtihodcnnappkbaaGreatDoorG14
import Derived.Test.YtihodcnnappkbaaGreatDoorG24
import Derived.Test.YtihodcnnappkbaaGreatDoorG20
import Derived.BigRegion
namespace Go.Proofs.YtihodcnnappkbaaGreatDoor
open Go.RowKit Go.BigFrame
set_option linter.unusedVariables false
set_option linter.unusedSimpArgs false
attribute [local go_sem] run_storeF
theorem i64s_one (l:List Int):∀ u∈i64s l,u.oneCell'=true:=fun u hu=>by
 obtain ⟨x,_,rfl⟩:=List.mem_map.1 hu
 rfl
set_option maxRecDepth 40000 in
set_option maxHeartbeats 8000000 in
theorem seen_calls (gw gr:Nat) (S T:Nat→Prop) (k:Wk) (r:Rk) (A:Option Addr) (c:Nat) (ns:List Int) (w:World) (hk:WkV w S gw k) (hr:RkV w T gr r) (ht:Twin k r) (af:RowAt w A (i64s ns)) (hn:ns.length≤8) (an:Tabs w) :
 Calls Tryz.prog 15 #[.pointer (some ⟨gw,0,none⟩),.pointer (some ⟨gr,0,none⟩),.slice A ns.length c] w fun e w'=>e=.returned (.bool true)∧Keeps w w':=by
 have bm:=ht.ok.en
 have az:=ht.fit
 have ca:=ht.ok.num
 have cEN:=scanEntries_calls gw S k w hk (by omega)
 have HW:Hid (∀ X,Keeps w X→WkV X S gw k):=Hi fun X hX=>hk.below hX.below
 have HR:Hid (∀ X,Keeps w X→RkV X T gr r):=Hi fun X hX=>hr.below hX.below
 have HF:Hid (∀ X,Keeps w X→Calls Tryz.prog 46 #[.pointer (some ⟨gr,0,none⟩)] X fun e w'=>e=.returned (.int .i64 k.frames)∧Keeps X w'):=Hi fun X hX=>by
  have h:=rkFrames_calls gr T r X (HR.out X hX) ht.rok
  rw [show framesFrom r.f0 r.L=k.frames from ht.m.fr] at h
  exact h
 have cj:Hid (∀ X,Keeps w X→Calls Tryz.prog 47 #[.pointer (some ⟨gr,0,none⟩)] X fun e w'=>e=.returned (.int .i64 k.rows)∧Keeps X w'):=Hi fun X hX=>by
  have h:=rkRows_calls gr T r X (HR.out X hX) ht.rok
  rw [show rowsFrom r.r0 r.L=k.rows from ht.m.rw] at h
  exact h
 have bj:Hid (∀ X,Keeps w X→Calls Tryz.prog 48 #[.pointer (some ⟨gr,0,none⟩)] X fun e w'=>e=.returned (.int .i64 k.number)∧Keeps X w'):=Hi fun X hX=>by
  have h:=rkNumber_calls gr T r X (HR.out X hX)
  rw [ht.m.num] at h
  exact h
 have c6:Hid (∀ X,Keeps w X→Calls Tryz.prog 49 #[.pointer (some ⟨gr,0,none⟩)] X fun e w'=>e=.returned (.int .i64 k.since)∧Keeps X w'):=Hi fun X hX=>by
  have h:=rkSince_calls gr T r X (HR.out X hX)
  rw [ht.m.since] at h
  exact h
 have c4:Hid (∀ X,Keeps w X→Calls Tryz.prog 50 #[.pointer (some ⟨gr,0,none⟩)] X fun e w'=>e=.returned (.bool k.closed)∧Keeps X w'):=Hi fun X hX=>by
  have h:=rkClosed_calls gr T r X (HR.out X hX)
  rw [ht.m.cl] at h
  exact h
 have bR:Hid (∀ X,Keeps w X→Calls Tryz.prog 51 #[.pointer (some ⟨gr,0,none⟩)] X fun e w'=>∃ B m,e=.returned (.slice B k.entries.length m)∧RowAt w' B (entCells k.entries)∧Keeps X w'):=Hi fun X hX=>by
  have h:=rkEntries_calls gr T r X (HR.out X hX) ht.rok
  rw [ht.m.entries] at h
  refine h.mono fun e w' ⟨v,h1,h2,h3⟩=>?_
  obtain ⟨B,m,h4,_,h5,_⟩:=h2.form
  exact ⟨B,m,by rw [h1,h4],h5,h3⟩
 have bQ:Hid (∀ X L lc B m,RowAt X L (entCells k.entries)→RowAt X B (entCells k.entries)→Calls Tryz.prog 33 #[.slice L k.entries.length lc,.slice B k.entries.length m] X fun e w'=>e=.returned (.bool true)∧Keeps X w'):=Hi fun X L lc B m h1 h2=>by
  have h:=sameEntries_calls L B lc m k.entries k.entries X (by omega) (by omega) h1 h2
  rw [show decide (k.entries=k.entries)=true by simp] at h
  exact h
 have c0:Hid (∀ X (n:Int),Keeps w X→Calls Tryz.prog 37 #[.pointer (some ⟨gw,0,none⟩),.int .i64 n] X fun e w'=>∃ B m,e=.returned (.tuple #[.agg #[.slice B (k.schema n).length m],.bool (k.at n).isSome])∧SchS w' (fun b=>X.heap.size≤b) B (k.schema n)∧FreeC w' B (k.schema n)∧Keeps X w'):=Hi fun X n hX=>
  scanSchema_free gw S k n X (HW.out X hX) ht.sound.fine fun w' h=>an.below (hX.trans h).below
 have cf:Hid (∀ X (n:Int),Keeps w X→Calls Tryz.prog 52 #[.pointer (some ⟨gr,0,none⟩),.int .i64 n] X fun e w'=>∃ B m,e=.returned (.tuple #[.agg #[.slice B (colsIn (r.schema n)).length m],.bool (k.at n).isSome])∧SchS w' (fun b=>T b∨X.heap.size≤b) B (colsIn (r.schema n))∧Keeps X w'):=Hi fun X n hX=>by
  have h:=rkSchema_calls gr T r n X (HR.out X hX)
  rw [(ht.m.sc n).1] at h
  exact h
 have cg:Hid (∀ X (n:Int),Keeps w X→Calls Tryz.prog 53 #[.pointer (some ⟨gw,0,none⟩),.int .i64 n] X fun e w'=>e=.returned (.tuple #[.int .i64 (placeOf (k.at n)),.bool (k.at n).isSome])∧Keeps X w'):=Hi fun X n hX=>
  scanPlace_calls gw S k n X (HW.out X hX)
 have c1:Hid (∀ X (n:Int),Keeps w X→Calls Tryz.prog 54 #[.pointer (some ⟨gr,0,none⟩),.int .i64 n] X fun e w'=>e=.returned (.tuple #[.int .i64 (placeOf (k.at n)),.bool (k.at n).isSome])∧Keeps X w'):=Hi fun X n hX=>by
  have h:=rkPlace_calls gr T r n X (HR.out X hX)
  rw [ht.m.pl n] at h
  exact h
 have c7:Hid (∀ X (n:Int) B1 m1 B2 m2 S1 S2,SchS X S1 B1 (k.schema n)→SchS X S2 B2 (colsIn (r.schema n))→Calls Tryz.prog 40 #[.agg #[.slice B1 (k.schema n).length m1],.agg #[.slice B2 (colsIn (r.schema n)).length m2]] X fun e w'=>e=.returned (.bool true)∧Keeps X w'):=Hi fun X n B1 m1 B2 m2 S1 S2 h1 h2=>by
  have h:=refSchSame_calls B1 B2 m1 m2 S1 S2 (k.schema n) (colsIn (r.schema n)) X h1 h2
  rw [ht.m.same ht.sound n] at h
  exact h
 have bA:=Hi cEN
 have bv:=Hi af
 obtain ⟨N,hN⟩:∃ N,N=k.entries.length:=⟨_,rfl⟩
 obtain ⟨NS,bz⟩:∃ NS,NS=ns.length:=⟨_,rfl⟩
 rw [← bz] at hn ⊢
 rw [← hN] at bA bR bQ bm
 have cp:IntKind.i64.wrap (k.number+1)=k.number+1:=IntWalk.i64_in _ (by omega)
 have aH:=Hi bz
 clear cEN hk hr ht af an az hN bz
 go_enter Tryz.func15,Tryz.ntmps15
 go_wp2_with fail
 refine bA.out.mono ?_
 rintro e w1 ⟨v1,rfl,bJ,ab⟩
 obtain ⟨L,lc,rfl,c5,c2,am,aR⟩:=Wiped.start bJ ab
 have aL:=Hi aR
 have al:=Hi am
 have aG:=Hi ab
 clear bJ aR am ab bA
 go_wp2_with fail
 refine (scanFrames_calls gw S k w1 (HW.out w1 aG.out)).mono ?_
 rintro e vx ⟨rfl,rfl⟩
 go_wp2_with fail
 refine (HF.out w1 aG.out).mono ?_
 rintro e w2 ⟨rfl,aE⟩
 have b0:=Hi (aG.out.trans aE)
 have aD:=Hi aE
 clear aE
 go_wp2_with fail
 refine (scanRows_calls gw S k w2 (HW.out w2 b0.out)).mono ?_
 rintro e vx ⟨rfl,rfl⟩
 go_wp2_with fail
 refine (cj.out w2 b0.out).mono ?_
 rintro e w3 ⟨rfl,ac⟩
 have b6:=Hi (b0.out.trans ac)
 have bG:=Hi (aD.out.trans ac)
 clear ac
 go_wp2_with fail
 refine (scanNumber_calls gw S k w3 (HW.out w3 b6.out)).mono ?_
 rintro e vx ⟨rfl,rfl⟩
 go_wp2_with fail
 refine (bj.out w3 b6.out).mono ?_
 rintro e w4 ⟨rfl,bn⟩
 have b5:=Hi (b6.out.trans bn)
 have aF:=Hi (bG.out.trans bn)
 clear bn
 go_wp2_with fail
 refine (scanSince_calls gw S k w4 (HW.out w4 b5.out)).mono ?_
 rintro e vx ⟨rfl,rfl⟩
 go_wp2_with fail
 refine (c6.out w4 b5.out).mono ?_
 rintro e w5 ⟨rfl,av⟩
 have aZ:=Hi (b5.out.trans av)
 have bD:=Hi (aF.out.trans av)
 clear av
 go_wp2_with fail
 refine (scanClosed_calls gw S k w5 (HW.out w5 aZ.out)).mono ?_
 rintro e vx ⟨rfl,rfl⟩
 go_wp2_with fail
 refine (c4.out w5 aZ.out).mono ?_
 rintro e w6 ⟨rfl,ax⟩
 have bt:=Hi (aZ.out.trans ax)
 have bs:=Hi (bD.out.trans ax)
 clear ax
 go_wp2_with fail
 refine (bR.out w6 bt.out).mono ?_
 rintro e w7 ⟨B7,m7,rfl,ao,ag⟩
 have bK:=bQ.out w7 L lc B7 m7 (al.out.below (bs.out.trans ag).below) ao
 have aY:=Hi bK
 have bV:=Hi (bt.out.trans ag)
 have bN:=Hi (bs.out.trans ag)
 clear ag bK ao
 go_wp2_with fail
 refine aY.out.mono ?_
 rintro e w8 ⟨rfl,bC⟩
 have bY:=Hi (bV.out.trans bC)
 have bM:Wiped w w8 L lc:=by
  have hb:=bN.out.trans bC
  refine ⟨bY.out,fun j hj=>?_⟩
  obtain ⟨ad,e1,e2,e3,e4⟩:=aL.out.room j hj
  refine ⟨ad,e1,e2,fun q hq=>?_,e4⟩
  obtain ⟨u,h1,h2⟩:=e3 q hq
  have aC:=World.block_lt_of_cell? w1 _ h1
  exact ⟨u,by rw [World.cell?_of_block (w:=w1) (hb.below.block _ aC)];exact h1,by rw [World.frozen?_of_block (w:=w1) (hb.below.block _ aC)];exact h2⟩
 have bl:=Hi bM
 clear bC bM aY aD bG aF bD bs bN aG b0 b6 b5 aZ bt bV aL al
 have ck:(lc:Int)≤9223372036854775807:=by omega
 go_wp2_with fail
 go_loopw [69] (fun i wr=>∃ j:Nat,j≤lc∧i=.int .i64 (j:Int)∧Wiped w wr L lc) (fun i _=>lc-(intOf i).toNat)
 case atStart=>exact ⟨0,by omega,rfl,bl.out⟩
 case round=>
  obtain ⟨j,hj,rfl,b4⟩:=hrel
  by_cases aC:j<lc
  · obtain ⟨ad,u0,u1,u2,rfl,⟨p0,p1,p2⟩,⟨q0,q1,q2⟩,e1,e2,aI⟩:=b4.get aC
    have e3:=fun x=>(e1 x).1
    have e4:=fun x=>(e1 x).2
    have e5:=fun x y=>(e2 x y).1
    have e6:=fun x y=>(e2 x y).2
    clear e1 e2
    have bb:=Hi aI
    have bh:(j:Int)<(lc:Int):=by omega
    have c9:(0:Int)≤(j:Int):=by omega
    clear b4 aI bl
    go_wp2
    exact ⟨⟨j+1,by omega,by go_num,bb.out _ _ _⟩,by simp [intOf];omega⟩
  · have bh:¬(j:Int)<(lc:Int):=by omega
    have ak:=Hi b4.keeps
    clear b4 bl bY
    go_wp2_with fail
    refine (bj.out wr ak.out).mono ?_
    rintro e w9 ⟨rfl,bI⟩
    have bu:=Hi (ak.out.trans bI)
    clear bI ak
    go_wp2_with fail
    refine (bj.out w9 bu.out).mono ?_
    rintro e w10 ⟨rfl,aJ⟩
    have ah:=Hi (bu.out.trans aJ)
    clear aJ bu
    have aQ:Loose (w10.alloc (.cells #[.int .i64 (-1),.int .i64 0,.int .i64 1,.int .i64 2,.int .i64 k.number,.int .i64 (k.number+1)] 2)) w.heap.size 2 1 (.slice (some ⟨w10.heap.size,0,none⟩) 6 6) 6 (i64s [-1,0,1,2,k.number,k.number+1]):=
     .inr ⟨w10.heap.size,6,rfl,by omega,⟨rfl,.inr ⟨w10.heap.size,6,_,rfl,ah.out.size,heap_alloc_new w10 _,by omega,by simp only [maxLen];omega,rfl,rfl⟩⟩⟩
    have aW:=Hi aQ
    have ak:=Hi (ah.out.alloc (.cells #[.int .i64 (-1),.int .i64 0,.int .i64 1,.int .i64 2,.int .i64 k.number,.int .i64 (k.number+1)] 2))
    have bW:=Hi (bv.out.below ak.out.below)
    have ap:Hid ((i64s ns).length=NS*1):=Hi (by rw [i64s_length,aH.out];omega)
    clear aQ
    go_wp2_with (at_builtin;refine wpList_append_rows w.heap.size (by rfl) _ _ 92 2 (.int .i64 0) 1 8 (by rfl) Tryz.underlying92 info_i64b rfl (by omega) (.slice (some ⟨w10.heap.size,0,none⟩) 6 6) 6 (i64s [-1,0,1,2,k.number,k.number+1]) (by rfl) aW.out A NS c (i64s ns) (by rfl) ap.out bW.out (i64s_one ns) (by simp only [maxLen];omega) (by omega) ak.out.size ?_)
    intro v' w11 aO aT _
    obtain ⟨A11,c11,rfl,bP,aa,_⟩:=aO.form
    have aM:Keeps w w11:=Touch.nothing (F:=fun b=>w.heap.size≤b) ((Touch.of_below ak.out.below fun b hb h=>absurd hb (by omega)).grown aT fun b hb _=>by
     have:blk (.slice (some ⟨w10.heap.size,0,none⟩) 6 6)=some w10.heap.size:=blk_at _ _ _ _ (by omega)
     rw [this] at hb
     injection hb with hb
     have:=ah.out.size
     omega) fun b hb h=>by omega
    have e11:i64s [-1,0,1,2,k.number,k.number+1]++i64s ns=i64s ([-1,0,1,2,k.number,k.number+1]++ns):=by simp [i64s]
    rw [e11] at aa
    have aB:=Hi aa
    have aP:=Hi aM
    have be:Hid (([-1,0,1,2,k.number,k.number+1]++ns:List Int).length=6+NS):=Hi (by rw [List.length_append,aH.out];rfl)
    clear aO aT aa aM e11 aW ak bW ap ah
    generalize ([-1,0,1,2,k.number,k.number+1]++ns:List Int)=NL at *
    have hm:6+NS≤20:=by omega
    generalize 6+NS=M at *
    go_wp2_with fail
    go_loopw [86] (fun i wr=>∃ j:Nat,j≤M∧i=.int .i64 (j:Int)∧Keeps w11 wr) (fun i _=>M-(intOf i).toNat)
    case atStart=>exact ⟨0,by omega,rfl,Keeps.refl _⟩
    case round=>
     obtain ⟨j,hj,rfl,aj⟩:=hrel
     by_cases aC:j<M
     · obtain ⟨ad,rfl,hc⟩:=row_i64 (aB.out.below aj.below) j (by rw [be.out];exact aC)
       generalize NL[j]'_=n at hc
       have bh:(j:Int)<(M:Int):=by omega
       have c9:(0:Int)≤(j:Int):=by omega
       have cc:=Hi aj
       have bX:=Hi (aP.out.trans aj)
       clear aj
       obtain ⟨N1,b1⟩:∃ N1,N1=(k.schema n).length:=⟨_,rfl⟩
       obtain ⟨N2,bp⟩:∃ N2,N2=(colsIn (r.schema n)).length:=⟨_,rfl⟩
       obtain ⟨q,hq⟩:∃ q,q=(k.at n).isSome:=⟨_,rfl⟩
       obtain ⟨pl,bc⟩:∃ pl,pl=placeOf (k.at n):=⟨_,rfl⟩
       have bk:Hid (∀ X,Keeps w X→Calls Tryz.prog 37 #[.pointer (some ⟨gw,0,none⟩),.int .i64 n] X fun e w'=>∃ B m,e=.returned (.tuple #[.agg #[.slice B N1 m],.bool q])∧SchS w' (fun b=>X.heap.size≤b) B (k.schema n)∧FreeC w' B (k.schema n)∧Keeps X w'):=Hi fun X hX=>by rw [b1,hq];exact c0.out X n hX
       have b7:Hid (∀ X,Keeps w X→Calls Tryz.prog 52 #[.pointer (some ⟨gr,0,none⟩),.int .i64 n] X fun e w'=>∃ B m,e=.returned (.tuple #[.agg #[.slice B N2 m],.bool q])∧SchS w' (fun b=>T b∨X.heap.size≤b) B (colsIn (r.schema n))∧Keeps X w'):=Hi fun X hX=>by rw [bp,hq];exact cf.out X n hX
       have bi:Hid (∀ X,Keeps w X→Calls Tryz.prog 53 #[.pointer (some ⟨gw,0,none⟩),.int .i64 n] X fun e w'=>e=.returned (.tuple #[.int .i64 pl,.bool q])∧Keeps X w'):=Hi fun X hX=>by rw [bc,hq];exact cg.out X n hX
       have br:Hid (∀ X,Keeps w X→Calls Tryz.prog 54 #[.pointer (some ⟨gr,0,none⟩),.int .i64 n] X fun e w'=>e=.returned (.tuple #[.int .i64 pl,.bool q])∧Keeps X w'):=Hi fun X hX=>by rw [bc,hq];exact c1.out X n hX
       have b8:Hid (∀ X B1 m1 B2 m2 S1 S2,SchS X S1 B1 (k.schema n)→SchS X S2 B2 (colsIn (r.schema n))→Calls Tryz.prog 40 #[.agg #[.slice B1 N1 m1],.agg #[.slice B2 N2 m2]] X fun e w'=>e=.returned (.bool true)∧Keeps X w'):=Hi fun X B1 m1 B2 m2 S1 S2 h1 h2=>by rw [b1,bp];exact c7.out X n B1 m1 B2 m2 S1 S2 h1 h2
       have bo:=Hi b1
       clear b1 bp hq bc
       go_wp2_with fail
       refine (bk.out wr bX.out).mono ?_
       rintro e v1 ⟨B1,m1,rfl,bd,bH,ab⟩
       have c3:N1≤1152921504606846976:=by rw [bo.out];exact bd.len
       obtain ⟨v2,b3⟩:∃ v2,v2=v1.alloc (.cells #[.slice B1 N1 m1] 30):=⟨_,rfl⟩
       have ay:Keeps v1 v2:=by rw [b3];exact (Keeps.refl v1).alloc _
       have bF:v2.heap[v1.heap.size]? = some (.cells #[.slice B1 N1 m1] 30):=by rw [b3];exact obj_new v1 _
       have bg:=Hi bd
       have bU:=Hi bH
       have aG:=Hi ab
       have aX:=Hi ay
       have aD:=Hi bF
       have aN:=Hi (bX.out.trans (ab.trans ay))
       clear bd bH ab ay bF
       go_wp2_with fail
       rw [← b3]
       clear b3
       refine (b7.out v2 aN.out).mono ?_
       rintro e v3 ⟨B2,m2,rfl,bZ,ac⟩
       obtain ⟨v4,b2⟩:∃ v4,v4=v3.alloc (.cells #[.slice B2 N2 m2] 30):=⟨_,rfl⟩
       have ae:Keeps v3 v4:=by rw [b2];exact (Keeps.refl v3).alloc _
       have bL:v4.heap[v3.heap.size]? = some (.cells #[.slice B2 N2 m2] 30):=by rw [b2];exact obj_new v3 _
       have bE:=Hi (bZ.later ae.below)
       have ar:=Hi (ac.trans ae)
       have aF:=Hi bL
       have aS:=Hi (aN.out.trans (ac.trans ae))
       clear bZ ac ae bL
       go_wp2_with fail
       rw [← b2]
       clear b2
       refine (bi.out v4 aS.out).mono ?_
       rintro e v5 ⟨rfl,av⟩
       have aA:=Hi av
       have ba:=Hi (aS.out.trans av)
       clear av
       go_wp2_with fail
       refine (br.out v5 ba.out).mono ?_
       rintro e v6 ⟨rfl,ax⟩
       have ai:=Hi (aA.out.trans ax)
       have aw:=Hi (aX.out.trans (ar.out.trans (aA.out.trans ax)))
       clear ax
       have bw:=((ar.out.trans ai.out).below.block _ (obj_lt aD.out)).trans aD.out
       have bT:=(ai.out.below.block _ (obj_lt aF.out)).trans aF.out
       have aV:=Hi (b8.out v6 B1 m1 B2 m2 _ _ (bg.out.later aw.out.below) (bE.out.later ai.out.below))
       obtain ⟨d1,f1⟩:=cells1 bw
       obtain ⟨d3,f3⟩:=cells1 bT
       have bq:=Hi bw
       clear bw bT
       go_wp2_with fail
       refine aV.out.mono ?_
       rintro e v7 ⟨rfl,ag⟩
       have bS:=(ag.below.block _ (obj_lt bq.out)).trans bq.out
       obtain ⟨d7,f7⟩:=cells1 bS
       have bx:Hid (Named wr v7 v1.heap.size B1 N1 m1):=Hi (by
        have h:=Named.start (X:=v1.heap.size) (c:=m1) bg.out bU.out (Nat.le_refl _) (aw.out.trans ag).below (aG.out.trans (aw.out.trans ag)) (by rw [← bo.out];exact d7)
        rw [← bo.out] at h
        exact h)
       clear ag bS d1 f1 d3 f3 aV bq ai aA ar aX aD aF bg bE bU
       go_wp2_with fail
       go_loopw [136] (fun i wr3=>∃ jj:Nat,jj≤N1∧i=.int .i64 (jj:Int)∧Named wr wr3 v1.heap.size B1 N1 m1) (fun i _=>N1-(intOf i).toNat)
       case atStart=>exact ⟨0,by omega,rfl,bx.out⟩
       case round=>
        rename_i wr3
        obtain ⟨jj,co,rfl,aU⟩:=hrel
        by_cases b9:jj<N1
        · obtain ⟨ad2,x,rfl,hx,hz,aI⟩:=aU.get b9
          have aq:=aU.cell
          have bb:=Hi aI
          have bB:(jj:Int)<(N1:Int):=by omega
          have ci:(0:Int)≤(jj:Int):=by omega
          clear aU aI bx
          go_wp2
          exact ⟨⟨jj+1,by omega,by go_num,bb.out _⟩,by simp [intOf];omega⟩
        · have bB:¬(jj:Int)<(N1:Int):=by omega
          have cm:=Hi aU.keeps
          clear aU bx
          go_wp2
          exact ⟨⟨j+1,by omega,by go_num,cc.out.trans cm.out⟩,by simp [intOf];omega⟩
     · have bh:¬(j:Int)<(M:Int):=by omega
       have cd:=Hi (aP.out.trans aj)
       clear aj
       go_wp2
       go_ret
       exact ⟨rfl,cd.out⟩
end Go.Proofs.YtihodcnnappkbaaGreatDoor
namespace Go.Proofs.YtihodcnnappkbaaGreatDoor
open Go.RowKit Go.BigFrame
set_option linter.unusedVariables false
set_option linter.unusedSimpArgs false
def StR (w:World) (B:Nat) (cs:List Value) (p:Fr×Int):Prop:=∃ A c Bl d E m,cs=plCells A c Bl d E m p∧FrS w (fun b=>b<B) A Bl E p.1∧p.1.cols.length≤c∧p.1.wf
structure Steps (w:World) (B:Nat) (A:Option Addr) (l:List (Fr×Int)):Prop where
 ex:∃ rows:List (List Value),rows.length=l.length∧(∀ (i:Nat) (cs:List Value) (p:Fr×Int),rows[i]? = some cs→l[i]? = some p→StR w B cs p)∧RowAt w A rows.flatten
theorem Steps.at {w:World} {B:Nat} {A:Option Addr} {l:List (Fr×Int)} (h:Steps w B A l) (j:Nat) (hj:j<l.length) :
 ∃ ad,A=some ad∧∃ A1 c Bl d E m,FrS w (fun b=>b<B) A1 Bl E (l[j]'hj).1∧(l[j]'hj).1.cols.length≤c∧(l[j]'hj).1.wf∧∀ X,Below w.heap.size w X→X.cell? (ad.add (j*12))=some (.int .i64 (l[j]'hj).1.kind)∧X.cell? ⟨(ad.add (j*12)).block,(ad.add (j*12)).off+1,none⟩=some (.int .i64 (l[j]'hj).1.number) ∧
   X.cell? ⟨(ad.add (j*12)).block,(ad.add (j*12)).off+2,none⟩=some (.slice A1 (l[j]'hj).1.cols.length c)∧X.cell? ⟨(ad.add (j*12)).block,(ad.add (j*12)).off+3,none⟩=some (.int .i64 (l[j]'hj).1.seq) ∧
   X.cell? ⟨(ad.add (j*12)).block,(ad.add (j*12)).off+4,none⟩=some (.int .i64 (l[j]'hj).1.first)∧X.cell? ⟨(ad.add (j*12)).block,(ad.add (j*12)).off+5,none⟩=some (.int .i64 (l[j]'hj).1.rows) ∧
   X.cell? ⟨(ad.add (j*12)).block,(ad.add (j*12)).off+6,none⟩=some (.slice Bl (l[j]'hj).1.block.length d)∧X.cell? ⟨(ad.add (j*12)).block,(ad.add (j*12)).off+7,none⟩=some (.int .i64 (l[j]'hj).1.spot) ∧
   X.cell? ⟨(ad.add (j*12)).block,(ad.add (j*12)).off+8,none⟩=some (.int .i64 (l[j]'hj).1.frames)∧X.cell? ⟨(ad.add (j*12)).block,(ad.add (j*12)).off+9,none⟩=some (.int .i64 (l[j]'hj).1.irows) ∧
   X.cell? ⟨(ad.add (j*12)).block,(ad.add (j*12)).off+10,none⟩=some (.slice E (l[j]'hj).1.ents.length m)∧X.cell? ⟨(ad.add (j*12)).block,(ad.add (j*12)).off+11,none⟩=some (.int .i64 (l[j]'hj).2):=by
 obtain ⟨rows,h1,h2,h3⟩:=h.ex
 have ce:∀ cs∈rows,cs.length=12:=fun cs hc=>by
  obtain ⟨i,hi,rfl⟩:=List.getElem_of_mem hc
  obtain ⟨A,c,B,d,E,m,e,_⟩:=h2 i _ (l[i]'(by omega)) (List.getElem?_eq_getElem hi) (List.getElem?_eq_getElem (by omega))
  rw [e]
  rfl
 obtain ⟨cs,bO⟩:∃ cs,rows[j]? = some cs:=⟨_,List.getElem?_eq_getElem (by omega)⟩
 obtain ⟨A1,c,Bl,d,E,m,rfl,hf,au,hw⟩:=h2 j cs (l[j]'hj) bO (List.getElem?_eq_getElem hj)
 have hg:=fun r hr=>rows_get ce bO (r:=r) hr
 obtain ⟨ad,e1,_⟩:=h3 (12*j+0) _ (hg 0 (by omega))
 refine ⟨ad,e1,A1,c,Bl,d,E,m,hf,au,hw,fun X hb=>?_⟩
 have h4:=h3.below hb
 have hc:∀ r u,0<r→r<12→(plCells A1 c Bl d E m (l[j]'hj))[r]? = some u→X.cell? ⟨(ad.add (j*12)).block,(ad.add (j*12)).off+r,none⟩=some u:=fun r u c8 hr hu=>by
  obtain ⟨ad',e,cn⟩:=h4 (12*j+r) u ((hg r hr).trans hu)
  rw [e1] at e
  cases e
  rw [← addr_add_pos _ _ c8,addr_add_add,Nat.mul_comm j 12]
  exact cn
 refine ⟨?_,hc 1 _ (by omega) (by omega) rfl,hc 2 _ (by omega) (by omega) rfl,hc 3 _ (by omega) (by omega) rfl,hc 4 _ (by omega) (by omega) rfl,hc 5 _ (by omega) (by omega) rfl,hc 6 _ (by omega) (by omega) rfl,hc 7 _ (by omega) (by omega) rfl,hc 8 _ (by omega) (by omega) rfl,hc 9 _ (by omega) (by omega) rfl,hc 10 _ (by omega) (by omega) rfl,hc 11 _ (by omega) (by omega) rfl⟩
 obtain ⟨ad',e,aq⟩:=h4 (12*j+0) _ (hg 0 (by omega))
 rw [e1] at e
 cases e
 rw [Nat.mul_comm]
 exact aq
theorem cells12 {w:World} {g:Nat} {a0 a1 a2 a3 a4 a5 a6 a7 a8 a9 a10 a11:Value} {t:TypeId} {fr:Nat×Nat} (hg:w.heap[g]? = some (.cells #[a0,a1,a2,a3,a4,a5,a6,a7,a8,a9,a10,a11] t fr)) :
 w.cell? ⟨g,0,none⟩=some a0∧w.cell? ⟨g,1,none⟩=some a1∧w.cell? ⟨g,2,none⟩=some a2∧w.cell? ⟨g,3,none⟩=some a3∧w.cell? ⟨g,4,none⟩=some a4∧w.cell? ⟨g,5,none⟩=some a5∧w.cell? ⟨g,6,none⟩=some a6∧w.cell? ⟨g,7,none⟩=some a7∧w.cell? ⟨g,8,none⟩=some a8∧w.cell? ⟨g,9,none⟩=some a9∧w.cell? ⟨g,10,none⟩=some a10∧w.cell? ⟨g,11,none⟩=some a11:=
 ⟨by rw [obj_cell hg];rfl,by rw [obj_cell hg];rfl,by rw [obj_cell hg];rfl,by rw [obj_cell hg];rfl,by rw [obj_cell hg];rfl,by rw [obj_cell hg];rfl,by rw [obj_cell hg];rfl,by rw [obj_cell hg];rfl,by rw [obj_cell hg];rfl,by rw [obj_cell hg];rfl,by rw [obj_cell hg];rfl,by rw [obj_cell hg];rfl⟩
structure Duo (w wr:World) (S:Nat→Prop) (gw gr:Nat) (k:Wk) (r:Rk):Prop where
 prog:WkV wr S gw k
 ref:RkV wr (fun b=>¬S b) gr r
 own:∀ b,S b→w.heap.size≤b
 low:w.heap.size≤gr
 keeps:Keeps w wr
def Far (wr w':World) (S:Nat→Prop) (gr:Nat):Prop:=∀ b,b<wr.heap.size→¬S b→b≠gr→w'.heap[b]? = wr.heap[b]?
theorem Duo.below {w wr w':World} {S:Nat→Prop} {gw gr:Nat} {k:Wk} {r:Rk} (h:Duo w wr S gw gr k r) (hk:Keeps wr w'):Duo w w' S gw gr k r:=
 ⟨h.prog.below hk.below,h.ref.below hk.below,h.own,h.low,h.keeps.trans hk⟩
theorem Duo.here {w wr:World} {S:Nat→Prop} {gw gr:Nat} {k:Wk} {r:Rk} (h:Duo w wr S gw gr k r):Duo w wr (fun b=>S b∧b<wr.heap.size) gw gr k r:=
 ⟨h.prog.here,h.ref.mono fun b _ hb hs=>hb hs.1,fun b hb=>h.own b hb.1,h.low,h.keeps⟩
theorem Duo.gr_lt {w wr:World} {S:Nat→Prop} {gw gr:Nat} {k:Wk} {r:Rk} (h:Duo w wr S gw gr k r):gr<wr.heap.size:=h.ref.lt
theorem Duo.keep_of {w wr w':World} {S:Nat→Prop} {gw gr:Nat} {k:Wk} {r:Rk} (h:Duo w wr S gw gr k r) (ht:Touch S wr w'):Keeps w w':=
 Touch.nothing (F:=S) ((Touch.of_below h.keeps.below fun b hb hs=>absurd hb (by omega)).then ht) fun b hb hs=>by have:=h.own b hs;omega
theorem Duo.next {w wr:World} {S:Nat→Prop} {gw gr:Nat} {k:Wk} {r:Rk} (h:Duo w wr S gw gr k r) (ch:k.ok) {A B E:Option Addr} {c d m:Nat} {f:Fr} (a:Int) (hf:FrS wr (fun b=>b<w.heap.size) A B E f) (bf:f.wf) (an:Tabs w) (ht:Table w) :
 Calls Tryz.prog 13 #[.pointer (some ⟨gw,0,none⟩),.agg (frCells A c B d E m f),.int .i64 a] wr fun e w'=>e=.returned (.int .i64 (k.next f a).2)∧∃ S',Duo w w' S' gw gr (k.next f a).1 r∧Far wr w' S gr∧∀ b,S' b→S b∨wr.heap.size≤b:=by
 have aj:=h.keeps.size
 refine (scanNext_went gw (fun b=>S b∧b<wr.heap.size) k A B E c d m f a wr h.prog.here ch (hf.mono fun b hb hw=>⟨hb,fun hs=>by have:=h.own b hs.1;omega⟩) bf fun w' cb=>?_).mono fun e w' ⟨h1,h2,h3⟩=>?_
 · have hk:=h.keep_of (cb.mono fun b _ hs=>hs.1)
   exact ⟨an.below hk.below,ht.later hk.below⟩
 · have hS:Touch S wr w':=(h3.in h.prog.here).mono fun b _ hs=>hs.1
   refine ⟨h1,More (fun b=>S b∧b<wr.heap.size) wr,⟨h2, ?_,fun b hb=>?_,h.low,h.keep_of hS⟩,fun b hb hs hg=>hS.block b hb hs,fun b hb=>hb.imp (fun hs=>hs.1) id⟩
   · exact (h.ref.here.touch hS fun b hb=>hb.1).mono fun b _ hb hm=>hm.elim (fun hs=>hb.1 hs.1) fun hs=>by have:=hb.2;omega
   · rcases hb with hb | hb
     · exact h.own b hb.1
     · omega
theorem Duo.rnext {w wr:World} {S:Nat→Prop} {gw gr:Nat} {k:Wk} {r:Rk} (h:Duo w wr S gw gr k r) (az:r.fit) {A B E:Option Addr} {c d m:Nat} {f:Fr} (a:Int) (hf:FrS wr (fun b=>b<w.heap.size) A B E f) (au:f.cols.length≤c) (bf:f.wf) (an:Tabs w) (aK:r.L.length<1048576) :
 Calls Tryz.prog 14 #[.pointer (some ⟨gr,0,none⟩),.agg (frCells A c B d E m f),.int .i64 a] wr fun e w'=>e=.returned (.int .i64 (r.next f a).2)∧∃ S',Duo w w' S' gw gr k (r.next f a).1∧Far wr w' S gr∧∀ b,S' b→S b∨wr.heap.size≤b:=by
 have aj:=h.keeps.size
 refine (rkNext_calls gr (fun b=>¬S b) (fun b=>b<w.heap.size) r A B E c d m f a wr h.ref az hf (fun b hb=>by omega) (fun b hb=>by have:=h.low;omega) au bf (an.below h.keeps.below) aK).mono fun e w' ⟨h1,h2,h3⟩=>?_
 have hk:Keeps w w':=Touch.nothing (F:=At gr) ((Touch.of_below h.keeps.below fun b hb hs=>absurd hb (by omega)).then h3) fun b hb hs=>by have:=h.low;rw [At] at hs;omega
 refine ⟨h1,fun b=>S b∧b<wr.heap.size,⟨h.prog.here.touch h3 fun b hb e=>h.ref.self (e▸hb.1),h2.mono fun b _ hb hs=>?_,fun b hb=>h.own b hb.1,h.low,hk⟩,fun b hb hs hg=>h3.block b hb hg,fun b hb=>.inl hb.1⟩
 rcases hb with (hb | hb) | hb
 · exact hb hs.1
 · have:=h.own b hs.1;omega
 · have:=hs.2;omega
theorem Duo.seen {w wr:World} {S:Nat→Prop} {gw gr:Nat} {k:Wk} {r:Rk} (h:Duo w wr S gw gr k r) (ht:Twin k r) (A:Option Addr) (c:Nat) (ns:List Int) (af:RowAt wr A (i64s ns)) (hn:ns.length≤8) (an:Tabs w) :
 Calls Tryz.prog 15 #[.pointer (some ⟨gw,0,none⟩),.pointer (some ⟨gr,0,none⟩),.slice A ns.length c] wr fun e w'=>e=.returned (.bool true)∧Keeps wr w':=
 seen_calls gw gr S (fun b=>¬S b) k r A c ns wr h.prog h.ref ht af hn (an.below h.keeps.below)
theorem Duo.start {w w1 w2 w3:World} {gw gr:Nat} (ab:Keeps w w1) (aE:Keeps w1 w2) (ac:Keeps w2 w3) (h1:WkV w2 (fun j=>w1.heap.size≤j) gw Wk.fresh) (h2:RkV w3 (fun j=>w2.heap.size≤j) gr Rk.fresh) (hg:w2.heap.size≤gr):Duo w w3 (fun b=>w1.heap.size≤b∧b<w2.heap.size) gw gr Wk.fresh Rk.fresh:=by
 have s1:=ab.size
 have s2:=aE.size
 exact ⟨h1.here.below ac.below,h2.mono fun b _ hb hs=>by omega,fun b hb=>by omega,by omega,ab.trans (aE.trans ac)⟩
end Go.Proofs.YtihodcnnappkbaaGreatDoor
