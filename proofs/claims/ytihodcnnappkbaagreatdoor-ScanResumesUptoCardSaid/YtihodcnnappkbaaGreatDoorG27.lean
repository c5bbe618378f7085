/-
  The walk of the law's seen. Condition: the program's walk and the reference's stand for walks that are alike; the tables are as laid. Frames with their places, as an argument holds them. No condition. The program's walk and the reference's side by side, told the same frames. Condition: as each text says.
-/
import Derived.Test.YtihodcnnappkbaaGreatDoorG26
import Derived.Test.YtihodcnnappkbaaGreatDoorG14
import Derived.Test.YtihodcnnappkbaaGreatDoorG24
import Derived.Test.YtihodcnnappkbaaGreatDoorG20
import Derived.BigRegion
set_option linter.unusedVariables false
set_option linter.unusedSimpArgs false
set_option maxHeartbeats 8000000
set_option maxRecDepth 40000
namespace Go.Proofs.YtihodcnnappkbaaGreatDoor
section
open Go.RowKit Go.BigFrame
attribute [local go_sem] run_storeF
theorem i64s_one (l:List Int):∀ u∈i64s l,u.oneCell'=true:=fun u hu=>by
 obtain ⟨x,_,rfl⟩:=List.mem_map.1 hu
 rfl
theorem seen_calls (gw gr:Nat) (S T:Nat→Prop) (k:Wk) (r:Rk) (A:Option Addr) (c:Nat) (ns:List Int) (w:World) (hk:WkV w S gw k) (hr:RkV w T gr r) (ht:Twin k r) (af:RowAt w A (i64s ns)) (hn:ns.length≤8) (an:Tabs w) :
 Calls Tryz.prog 15 #[.pointer (some ⟨gw,0,none⟩),.pointer (some ⟨gr,0,none⟩),.slice A ns.length c] w fun e w'=>e=.returned (.bool true)∧Keeps w w':=by
 have bf:=ht.ok.en
 have aA:=ht.fit
 have cj:=ht.ok.num
 have cEN:=scanEntries_calls gw S k w hk (by omega)
 have HW:Hid (∀ X,Keeps w X→WkV X S gw k):=Hi fun X hX=>hk.below hX.below
 have HR:Hid (∀ X,Keeps w X→RkV X T gr r):=Hi fun X hX=>hr.below hX.below
 have HF:Hid (∀ X,Keeps w X→Calls Tryz.prog 46 #[.pointer (some ⟨gr,0,none⟩)] X fun e w'=>e=.returned (.int .i64 k.frames)∧Keeps X w'):=Hi fun X hX=>by
  have h:=rkFrames_calls gr T r X (HR.out X hX) ht.rok
  rw [show framesFrom r.f0 r.L=k.frames from ht.m.fr] at h
  exact h
 have cf:Hid (∀ X,Keeps w X→Calls Tryz.prog 47 #[.pointer (some ⟨gr,0,none⟩)] X fun e w'=>e=.returned (.int .i64 k.rows)∧Keeps X w'):=Hi fun X hX=>by
  have h:=rkRows_calls gr T r X (HR.out X hX) ht.rok
  rw [show rowsFrom r.r0 r.L=k.rows from ht.m.rw] at h
  exact h
 have bb:Hid (∀ X,Keeps w X→Calls Tryz.prog 48 #[.pointer (some ⟨gr,0,none⟩)] X fun e w'=>e=.returned (.int .i64 k.number)∧Keeps X w'):=Hi fun X hX=>by
  have h:=rkNumber_calls gr T r X (HR.out X hX)
  rw [ht.m.num] at h
  exact h
 have c3:Hid (∀ X,Keeps w X→Calls Tryz.prog 49 #[.pointer (some ⟨gr,0,none⟩)] X fun e w'=>e=.returned (.int .i64 k.since)∧Keeps X w'):=Hi fun X hX=>by
  have h:=rkSince_calls gr T r X (HR.out X hX)
  rw [ht.m.since] at h
  exact h
 have c7:Hid (∀ X,Keeps w X→Calls Tryz.prog 50 #[.pointer (some ⟨gr,0,none⟩)] X fun e w'=>e=.returned (.bool k.closed)∧Keeps X w'):=Hi fun X hX=>by
  have h:=rkClosed_calls gr T r X (HR.out X hX)
  rw [ht.m.cl] at h
  exact h
 have bL:Hid (∀ X,Keeps w X→Calls Tryz.prog 51 #[.pointer (some ⟨gr,0,none⟩)] X fun e w'=>∃ B m,e=.returned (.slice B k.entries.length m)∧RowAt w' B (entCells k.entries)∧Keeps X w'):=Hi fun X hX=>by
  have h:=rkEntries_calls gr T r X (HR.out X hX) ht.rok
  rw [ht.m.entries] at h
  refine h.mono fun e w' ⟨v,h1,h2,h3⟩=>?_
  obtain ⟨B,m,h4,_,h5,_⟩:=h2.form
  exact ⟨B,m,by rw [h1,h4],h5,h3⟩
 have bR:Hid (∀ X L lc B m,RowAt X L (entCells k.entries)→RowAt X B (entCells k.entries)→Calls Tryz.prog 33 #[.slice L k.entries.length lc,.slice B k.entries.length m] X fun e w'=>e=.returned (.bool true)∧Keeps X w'):=Hi fun X L lc B m h1 h2=>by
  have h:=sameEntries_calls L B lc m k.entries k.entries X (by omega) (by omega) h1 h2
  rw [show decide (k.entries=k.entries)=true by simp] at h
  exact h
 have c1:Hid (∀ X (n:Int),Keeps w X→Calls Tryz.prog 37 #[.pointer (some ⟨gw,0,none⟩),.int .i64 n] X fun e w'=>∃ B m,e=.returned (.tuple #[.agg #[.slice B (k.schema n).length m],.bool (k.at n).isSome])∧SchS w' (fun b=>X.heap.size≤b) B (k.schema n)∧FreeC w' B (k.schema n)∧Keeps X w'):=Hi fun X n hX=>
  scanSchema_free gw S k n X (HW.out X hX) ht.sound.fine fun w' h=>an.below (hX.trans h).below
 have cd:Hid (∀ X (n:Int),Keeps w X→Calls Tryz.prog 52 #[.pointer (some ⟨gr,0,none⟩),.int .i64 n] X fun e w'=>∃ B m,e=.returned (.tuple #[.agg #[.slice B (colsIn (r.schema n)).length m],.bool (k.at n).isSome])∧SchS w' (fun b=>T b∨X.heap.size≤b) B (colsIn (r.schema n))∧Keeps X w'):=Hi fun X n hX=>by
  have h:=rkSchema_calls gr T r n X (HR.out X hX)
  rw [(ht.m.sc n).1] at h
  exact h
 have ci:Hid (∀ X (n:Int),Keeps w X→Calls Tryz.prog 53 #[.pointer (some ⟨gw,0,none⟩),.int .i64 n] X fun e w'=>e=.returned (.tuple #[.int .i64 (placeOf (k.at n)),.bool (k.at n).isSome])∧Keeps X w'):=Hi fun X n hX=>
  scanPlace_calls gw S k n X (HW.out X hX)
 have ce:Hid (∀ X (n:Int),Keeps w X→Calls Tryz.prog 54 #[.pointer (some ⟨gr,0,none⟩),.int .i64 n] X fun e w'=>e=.returned (.tuple #[.int .i64 (placeOf (k.at n)),.bool (k.at n).isSome])∧Keeps X w'):=Hi fun X n hX=>by
  have h:=rkPlace_calls gr T r n X (HR.out X hX)
  rw [ht.m.pl n] at h
  exact h
 have c6:Hid (∀ X (n:Int) B1 m1 B2 m2 S1 S2,SchS X S1 B1 (k.schema n)→SchS X S2 B2 (colsIn (r.schema n))→Calls Tryz.prog 40 #[.agg #[.slice B1 (k.schema n).length m1],.agg #[.slice B2 (colsIn (r.schema n)).length m2]] X fun e w'=>e=.returned (.bool true)∧Keeps X w'):=Hi fun X n B1 m1 B2 m2 S1 S2 h1 h2=>by
  have h:=refSchSame_calls B1 B2 m1 m2 S1 S2 (k.schema n) (colsIn (r.schema n)) X h1 h2
  rw [ht.m.same ht.sound n] at h
  exact h
 have bh:=Hi cEN
 have bp:=Hi af
 obtain ⟨N,hN⟩:∃ N,N=k.entries.length:=⟨_,rfl⟩
 obtain ⟨NS,be⟩:∃ NS,NS=ns.length:=⟨_,rfl⟩
 rw [← be] at hn ⊢
 rw [← hN] at bh bL bR bf
 have co:IntKind.i64.wrap (k.number+1)=k.number+1:=IntWalk.i64_in _ (by omega)
 have aO:=Hi be
 clear cEN hk hr ht af an aA hN be
 go_enter Tryz.func15,Tryz.ntmps15
 go_wp2_with fail
 refine bh.out.mono ?_
 rintro e w1 ⟨v1,rfl,bP,aw⟩
 obtain ⟨L,lc,rfl,cn,c5,ak,aM⟩:=Wiped.start bP aw
 have aX:=Hi aM
 have aj:=Hi ak
 have aF:=Hi aw
 clear bP aM ak aw bh
 go_wp2_with fail
 refine (scanFrames_calls gw S k w1 (HW.out w1 aF.out)).mono ?_
 rintro e vx ⟨rfl,rfl⟩
 go_wp2_with fail
 refine (HF.out w1 aF.out).mono ?_
 rintro e w2 ⟨rfl,bm⟩
 have b2:=Hi (aF.out.trans bm)
 have aC:=Hi bm
 clear bm
 go_wp2_with fail
 refine (scanRows_calls gw S k w2 (HW.out w2 b2.out)).mono ?_
 rintro e vx ⟨rfl,rfl⟩
 go_wp2_with fail
 refine (cf.out w2 b2.out).mono ?_
 rintro e w3 ⟨rfl,ar⟩
 have b3:=Hi (b2.out.trans ar)
 have bJ:=Hi (aC.out.trans ar)
 clear ar
 go_wp2_with fail
 refine (scanNumber_calls gw S k w3 (HW.out w3 b3.out)).mono ?_
 rintro e vx ⟨rfl,rfl⟩
 go_wp2_with fail
 refine (bb.out w3 b3.out).mono ?_
 rintro e w4 ⟨rfl,bB⟩
 have b1:=Hi (b3.out.trans bB)
 have aD:=Hi (bJ.out.trans bB)
 clear bB
 go_wp2_with fail
 refine (scanSince_calls gw S k w4 (HW.out w4 b1.out)).mono ?_
 rintro e vx ⟨rfl,rfl⟩
 go_wp2_with fail
 refine (c3.out w4 b1.out).mono ?_
 rintro e w5 ⟨rfl,ay⟩
 have aZ:=Hi (b1.out.trans ay)
 have bH:=Hi (aD.out.trans ay)
 clear ay
 go_wp2_with fail
 refine (scanClosed_calls gw S k w5 (HW.out w5 aZ.out)).mono ?_
 rintro e vx ⟨rfl,rfl⟩
 go_wp2_with fail
 refine (c7.out w5 aZ.out).mono ?_
 rintro e w6 ⟨rfl,au⟩
 have bz:=Hi (aZ.out.trans au)
 have b7:=Hi (bH.out.trans au)
 clear au
 go_wp2_with fail
 refine (bL.out w6 bz.out).mono ?_
 rintro e w7 ⟨B7,m7,rfl,am,ae⟩
 have bE:=bR.out w7 L lc B7 m7 (aj.out.below (b7.out.trans ae).below) am
 have aN:=Hi bE
 have bX:=Hi (bz.out.trans ae)
 have bO:=Hi (b7.out.trans ae)
 clear ae bE am
 go_wp2_with fail
 refine aN.out.mono ?_
 rintro e w8 ⟨rfl,bi⟩
 have bD:=Hi (bX.out.trans bi)
 have bI:Wiped w w8 L lc:=by
  have hb:=bO.out.trans bi
  refine ⟨bD.out,fun j hj=>?_⟩
  obtain ⟨ad,e1,e2,e3,e4⟩:=aX.out.room j hj
  refine ⟨ad,e1,e2,fun q hq=>?_,e4⟩
  obtain ⟨u,h1,h2⟩:=e3 q hq
  have aE:=World.block_lt_of_cell? w1 _ h1
  exact ⟨u,by rw [World.cell?_of_block (w:=w1) (hb.below.block _ aE)];exact h1,by rw [World.frozen?_of_block (w:=w1) (hb.below.block _ aE)];exact h2⟩
 have bC:=Hi bI
 clear bi bI aN aC bJ aD bH b7 bO aF b2 b3 b1 aZ bz bX aX aj
 have cb:(lc:Int)≤9223372036854775807:=by omega
 go_wp2_with fail
 go_loopw [69] (fun i wr=>∃ j:Nat,j≤lc∧i=.int .i64 (j:Int)∧Wiped w wr L lc) (fun i _=>lc-(intOf i).toNat)
 case atStart=>exact ⟨0,by omega,rfl,bC.out⟩
 case round=>
  obtain ⟨j,hj,rfl,b4⟩:=hrel
  by_cases aE:j<lc
  · obtain ⟨ad,u0,u1,u2,rfl,⟨p0,p1,p2⟩,⟨q0,q1,q2⟩,e1,e2,aQ⟩:=b4.get aE
    have e3:=fun x=>(e1 x).1
    have e4:=fun x=>(e1 x).2
    have e5:=fun x y=>(e2 x y).1
    have e6:=fun x y=>(e2 x y).2
    clear e1 e2
    have bk:=Hi aQ
    have ba:(j:Int)<(lc:Int):=by omega
    have cg:(0:Int)≤(j:Int):=by omega
    clear b4 aQ bC
    go_wp2
    exact ⟨⟨j+1,by omega,by go_num,bk.out _ _ _⟩,by simp [intOf];omega⟩
  · have ba:¬(j:Int)<(lc:Int):=by omega
    have ai:=Hi b4.keeps
    clear b4 bC bD
    go_wp2_with fail
    refine (bb.out wr ai.out).mono ?_
    rintro e w9 ⟨rfl,bV⟩
    have br:=Hi (ai.out.trans bV)
    clear bV ai
    go_wp2_with fail
    refine (bb.out w9 br.out).mono ?_
    rintro e w10 ⟨rfl,aU⟩
    have ag:=Hi (br.out.trans aU)
    clear aU br
    have aH:Loose (w10.alloc (.cells #[.int .i64 (-1),.int .i64 0,.int .i64 1,.int .i64 2,.int .i64 k.number,.int .i64 (k.number+1)] 2)) w.heap.size 2 1 (.slice (some ⟨w10.heap.size,0,none⟩) 6 6) 6 (i64s [-1,0,1,2,k.number,k.number+1]):=
     .inr ⟨w10.heap.size,6,rfl,by omega,⟨rfl,.inr ⟨w10.heap.size,6,_,rfl,ag.out.size,heap_alloc_new w10 _,by omega,by simp only [maxLen];omega,rfl,rfl⟩⟩⟩
    have aS:=Hi aH
    have ai:=Hi (ag.out.alloc (.cells #[.int .i64 (-1),.int .i64 0,.int .i64 1,.int .i64 2,.int .i64 k.number,.int .i64 (k.number+1)] 2))
    have bZ:=Hi (bp.out.below ai.out.below)
    have al:Hid ((i64s ns).length=NS*1):=Hi (by rw [i64s_length,aO.out];omega)
    clear aH
    go_wp2_with (at_builtin;refine wpList_append_rows w.heap.size (by rfl) _ _ 92 2 (.int .i64 0) 1 8 (by rfl) Tryz.underlying92 info_i64b rfl (by omega) (.slice (some ⟨w10.heap.size,0,none⟩) 6 6) 6 (i64s [-1,0,1,2,k.number,k.number+1]) (by rfl) aS.out A NS c (i64s ns) (by rfl) al.out bZ.out (i64s_one ns) (by simp only [maxLen];omega) (by omega) ai.out.size ?_)
    intro v' w11 aV aW _
    obtain ⟨A11,c11,rfl,bQ,aa,_⟩:=aV.form
    have aP:Keeps w w11:=Touch.nothing (F:=fun b=>w.heap.size≤b) ((Touch.of_below ai.out.below fun b hb h=>absurd hb (by omega)).grown aW fun b hb _=>by
     have:blk (.slice (some ⟨w10.heap.size,0,none⟩) 6 6)=some w10.heap.size:=blk_at _ _ _ _ (by omega)
     rw [this] at hb
     injection hb with hb
     have:=ag.out.size
     omega) fun b hb h=>by omega
    have e11:i64s [-1,0,1,2,k.number,k.number+1]++i64s ns=i64s ([-1,0,1,2,k.number,k.number+1]++ns):=by simp [i64s]
    rw [e11] at aa
    have ax:=Hi aa
    have aJ:=Hi aP
    have bq:Hid (([-1,0,1,2,k.number,k.number+1]++ns:List Int).length=6+NS):=Hi (by rw [List.length_append,aO.out];rfl)
    clear aV aW aa aP e11 aS ai bZ al ag
    generalize ([-1,0,1,2,k.number,k.number+1]++ns:List Int)=NL at *
    have hm:6+NS≤20:=by omega
    generalize 6+NS=M at *
    go_wp2_with fail
    go_loopw [86] (fun i wr=>∃ j:Nat,j≤M∧i=.int .i64 (j:Int)∧Keeps w11 wr) (fun i _=>M-(intOf i).toNat)
    case atStart=>exact ⟨0,by omega,rfl,Keeps.refl _⟩
    case round=>
     obtain ⟨j,hj,rfl,ah⟩:=hrel
     by_cases aE:j<M
     · obtain ⟨ad,rfl,hc⟩:=row_i64 (ax.out.below ah.below) j (by rw [bq.out];exact aE)
       generalize NL[j]'_=n at hc
       have ba:(j:Int)<(M:Int):=by omega
       have cg:(0:Int)≤(j:Int):=by omega
       have c8:=Hi ah
       have bM:=Hi (aJ.out.trans ah)
       clear ah
       obtain ⟨N1,aY⟩:∃ N1,N1=(k.schema n).length:=⟨_,rfl⟩
       obtain ⟨N2,bw⟩:∃ N2,N2=(colsIn (r.schema n)).length:=⟨_,rfl⟩
       obtain ⟨q,hq⟩:∃ q,q=(k.at n).isSome:=⟨_,rfl⟩
       obtain ⟨pl,bd⟩:∃ pl,pl=placeOf (k.at n):=⟨_,rfl⟩
       have bn:Hid (∀ X,Keeps w X→Calls Tryz.prog 37 #[.pointer (some ⟨gw,0,none⟩),.int .i64 n] X fun e w'=>∃ B m,e=.returned (.tuple #[.agg #[.slice B N1 m],.bool q])∧SchS w' (fun b=>X.heap.size≤b) B (k.schema n)∧FreeC w' B (k.schema n)∧Keeps X w'):=Hi fun X hX=>by rw [aY,hq];exact c1.out X n hX
       have bg:Hid (∀ X,Keeps w X→Calls Tryz.prog 52 #[.pointer (some ⟨gr,0,none⟩),.int .i64 n] X fun e w'=>∃ B m,e=.returned (.tuple #[.agg #[.slice B N2 m],.bool q])∧SchS w' (fun b=>T b∨X.heap.size≤b) B (colsIn (r.schema n))∧Keeps X w'):=Hi fun X hX=>by rw [bw,hq];exact cd.out X n hX
       have bl:Hid (∀ X,Keeps w X→Calls Tryz.prog 53 #[.pointer (some ⟨gw,0,none⟩),.int .i64 n] X fun e w'=>e=.returned (.tuple #[.int .i64 pl,.bool q])∧Keeps X w'):=Hi fun X hX=>by rw [bd,hq];exact ci.out X n hX
       have bx:Hid (∀ X,Keeps w X→Calls Tryz.prog 54 #[.pointer (some ⟨gr,0,none⟩),.int .i64 n] X fun e w'=>e=.returned (.tuple #[.int .i64 pl,.bool q])∧Keeps X w'):=Hi fun X hX=>by rw [bd,hq];exact ce.out X n hX
       have bc:Hid (∀ X B1 m1 B2 m2 S1 S2,SchS X S1 B1 (k.schema n)→SchS X S2 B2 (colsIn (r.schema n))→Calls Tryz.prog 40 #[.agg #[.slice B1 N1 m1],.agg #[.slice B2 N2 m2]] X fun e w'=>e=.returned (.bool true)∧Keeps X w'):=Hi fun X B1 m1 B2 m2 S1 S2 h1 h2=>by rw [aY,bw];exact c6.out X n B1 m1 B2 m2 S1 S2 h1 h2
       have bv:=Hi aY
       clear aY bw hq bd
       go_wp2_with fail
       refine (bn.out wr bM.out).mono ?_
       rintro e v1 ⟨B1,m1,rfl,b6,bU,aw⟩
       have cm:N1≤1152921504606846976:=by rw [bv.out];exact b6.len
       obtain ⟨v2,b5⟩:∃ v2,v2=v1.alloc (.cells #[.slice B1 N1 m1] 30):=⟨_,rfl⟩
       have az:Keeps v1 v2:=by rw [b5];exact (Keeps.refl v1).alloc _
       have bW:v2.heap[v1.heap.size]? = some (.cells #[.slice B1 N1 m1] 30):=by rw [b5];exact obj_new v1 _
       have b9:=Hi b6
       have bN:=Hi bU
       have aF:=Hi aw
       have aL:=Hi az
       have aC:=Hi bW
       have aT:=Hi (bM.out.trans (aw.trans az))
       clear b6 bU aw az bW
       go_wp2_with fail
       rw [← b5]
       clear b5
       refine (bg.out v2 aT.out).mono ?_
       rintro e v3 ⟨B2,m2,rfl,bG,ar⟩
       obtain ⟨v4,b0⟩:∃ v4,v4=v3.alloc (.cells #[.slice B2 N2 m2] 30):=⟨_,rfl⟩
       have ab:Keeps v3 v4:=by rw [b0];exact (Keeps.refl v3).alloc _
       have bK:v4.heap[v3.heap.size]? = some (.cells #[.slice B2 N2 m2] 30):=by rw [b0];exact obj_new v3 _
       have bT:=Hi (bG.later ab.below)
       have aB:=Hi (ar.trans ab)
       have aD:=Hi bK
       have aI:=Hi (aT.out.trans (ar.trans ab))
       clear bG ar ab bK
       go_wp2_with fail
       rw [← b0]
       clear b0
       refine (bl.out v4 aI.out).mono ?_
       rintro e v5 ⟨rfl,ay⟩
       have aq:=Hi ay
       have bj:=Hi (aI.out.trans ay)
       clear ay
       go_wp2_with fail
       refine (bx.out v5 bj.out).mono ?_
       rintro e v6 ⟨rfl,au⟩
       have ac:=Hi (aq.out.trans au)
       have ap:=Hi (aL.out.trans (aB.out.trans (aq.out.trans au)))
       clear au
       have b8:=((aB.out.trans ac.out).below.block _ (obj_lt aC.out)).trans aC.out
       have bY:=(ac.out.below.block _ (obj_lt aD.out)).trans aD.out
       have aK:=Hi (bc.out v6 B1 m1 B2 m2 _ _ (b9.out.later ap.out.below) (bT.out.later ac.out.below))
       obtain ⟨d1,f1⟩:=cells1 b8
       obtain ⟨d3,f3⟩:=cells1 bY
       have bs:=Hi b8
       clear b8 bY
       go_wp2_with fail
       refine aK.out.mono ?_
       rintro e v7 ⟨rfl,ae⟩
       have bF:=(ae.below.block _ (obj_lt bs.out)).trans bs.out
       obtain ⟨d7,f7⟩:=cells1 bF
       have bA:Hid (Named wr v7 v1.heap.size B1 N1 m1):=Hi (by
        have h:=Named.start (X:=v1.heap.size) (c:=m1) b9.out bN.out (Nat.le_refl _) (ap.out.trans ae).below (aF.out.trans (ap.out.trans ae)) (by rw [← bv.out];exact d7)
        rw [← bv.out] at h
        exact h)
       clear ae bF d1 f1 d3 f3 aK bs ac aq aB aL aC aD b9 bT bN
       go_wp2_with fail
       go_loopw [136] (fun i wr3=>∃ jj:Nat,jj≤N1∧i=.int .i64 (jj:Int)∧Named wr wr3 v1.heap.size B1 N1 m1) (fun i _=>N1-(intOf i).toNat)
       case atStart=>exact ⟨0,by omega,rfl,bA.out⟩
       case round=>
        rename_i wr3
        obtain ⟨jj,cp,rfl,aG⟩:=hrel
        by_cases bo:jj<N1
        · obtain ⟨ad2,x,rfl,hx,hz,aQ⟩:=aG.get bo
          have ao:=aG.cell
          have bk:=Hi aQ
          have bu:(jj:Int)<(N1:Int):=by omega
          have c2:(0:Int)≤(jj:Int):=by omega
          clear aG aQ bA
          go_wp2
          exact ⟨⟨jj+1,by omega,by go_num,bk.out _⟩,by simp [intOf];omega⟩
        · have bu:¬(jj:Int)<(N1:Int):=by omega
          have c4:=Hi aG.keeps
          clear aG bA
          go_wp2
          exact ⟨⟨j+1,by omega,by go_num,c8.out.trans c4.out⟩,by simp [intOf];omega⟩
     · have ba:¬(j:Int)<(M:Int):=by omega
       have ck:=Hi (aJ.out.trans ah)
       clear ah
       go_wp2
       go_ret
       exact ⟨rfl,ck.out⟩
end
section
open Go.RowKit Go.BigFrame
def StR (w:World) (B:Nat) (cs:List Value) (p:Fr×Int):Prop:=∃ A c Bl d E m,cs=plCells A c Bl d E m p∧FrS w (fun b=>b<B) A Bl E p.1∧p.1.cols.length≤c∧p.1.wf
structure Steps (w:World) (B:Nat) (A:Option Addr) (l:List (Fr×Int)):Prop where
 ex:∃ rows:List (List Value),rows.length=l.length∧(∀ (i:Nat) (cs:List Value) (p:Fr×Int),rows[i]? = some cs→l[i]? = some p→StR w B cs p)∧RowAt w A rows.flatten
theorem Steps.below {w w':World} {B:Nat} {A:Option Addr} {l:List (Fr×Int)} (h:Steps w B A l) (hb:Below w.heap.size w w'):Steps w' B A l:=by
 obtain ⟨rows,h1,h2,h3⟩:=h.ex
 refine ⟨rows,h1,fun i cs p hi hp=>?_,h3.below hb⟩
 obtain ⟨A1,c,Bl,d,E,m,e,hf,h4⟩:=h2 i cs p hi hp
 exact ⟨A1,c,Bl,d,E,m,e,hf.later hb,h4⟩
theorem Steps.at {w:World} {B:Nat} {A:Option Addr} {l:List (Fr×Int)} (h:Steps w B A l) (j:Nat) (hj:j<l.length) :
 ∃ ad,A=some ad∧∃ A1 c Bl d E m,FrS w (fun b=>b<B) A1 Bl E (l[j]'hj).1∧(l[j]'hj).1.cols.length≤c∧(l[j]'hj).1.wf∧∀ X,Below w.heap.size w X→X.cell? (ad.add (j*12))=some (.int .i64 (l[j]'hj).1.kind)∧X.cell? ⟨(ad.add (j*12)).block,(ad.add (j*12)).off+1,none⟩=some (.int .i64 (l[j]'hj).1.number) ∧
   X.cell? ⟨(ad.add (j*12)).block,(ad.add (j*12)).off+2,none⟩=some (.slice A1 (l[j]'hj).1.cols.length c)∧X.cell? ⟨(ad.add (j*12)).block,(ad.add (j*12)).off+3,none⟩=some (.int .i64 (l[j]'hj).1.seq) ∧
   X.cell? ⟨(ad.add (j*12)).block,(ad.add (j*12)).off+4,none⟩=some (.int .i64 (l[j]'hj).1.first)∧X.cell? ⟨(ad.add (j*12)).block,(ad.add (j*12)).off+5,none⟩=some (.int .i64 (l[j]'hj).1.rows) ∧
   X.cell? ⟨(ad.add (j*12)).block,(ad.add (j*12)).off+6,none⟩=some (.slice Bl (l[j]'hj).1.block.length d)∧X.cell? ⟨(ad.add (j*12)).block,(ad.add (j*12)).off+7,none⟩=some (.int .i64 (l[j]'hj).1.spot) ∧
   X.cell? ⟨(ad.add (j*12)).block,(ad.add (j*12)).off+8,none⟩=some (.int .i64 (l[j]'hj).1.frames)∧X.cell? ⟨(ad.add (j*12)).block,(ad.add (j*12)).off+9,none⟩=some (.int .i64 (l[j]'hj).1.irows) ∧
   X.cell? ⟨(ad.add (j*12)).block,(ad.add (j*12)).off+10,none⟩=some (.slice E (l[j]'hj).1.ents.length m)∧X.cell? ⟨(ad.add (j*12)).block,(ad.add (j*12)).off+11,none⟩=some (.int .i64 (l[j]'hj).2):=by
 obtain ⟨rows,h1,h2,h3⟩:=h.ex
 have c0:∀ cs∈rows,cs.length=12:=fun cs hc=>by
  obtain ⟨i,hi,rfl⟩:=List.getElem_of_mem hc
  obtain ⟨A,c,B,d,E,m,e,_⟩:=h2 i _ (l[i]'(by omega)) (List.getElem?_eq_getElem hi) (List.getElem?_eq_getElem (by omega))
  rw [e]
  rfl
 obtain ⟨cs,bS⟩:∃ cs,rows[j]? = some cs:=⟨_,List.getElem?_eq_getElem (by omega)⟩
 obtain ⟨A1,c,Bl,d,E,m,rfl,hf,av,hw⟩:=h2 j cs (l[j]'hj) bS (List.getElem?_eq_getElem hj)
 have hg:=fun r hr=>rows_get c0 bS (r:=r) hr
 obtain ⟨ad,e1,_⟩:=h3 (12*j+0) _ (hg 0 (by omega))
 refine ⟨ad,e1,A1,c,Bl,d,E,m,hf,av,hw,fun X hb=>?_⟩
 have h4:=h3.below hb
 have hc:∀ r u,0<r→r<12→(plCells A1 c Bl d E m (l[j]'hj))[r]? = some u→X.cell? ⟨(ad.add (j*12)).block,(ad.add (j*12)).off+r,none⟩=some u:=fun r u cc hr hu=>by
  obtain ⟨ad',e,c9⟩:=h4 (12*j+r) u ((hg r hr).trans hu)
  rw [e1] at e
  cases e
  rw [← addr_add_pos _ _ cc,addr_add_add,Nat.mul_comm j 12]
  exact c9
 refine ⟨?_,hc 1 _ (by omega) (by omega) rfl,hc 2 _ (by omega) (by omega) rfl,hc 3 _ (by omega) (by omega) rfl,hc 4 _ (by omega) (by omega) rfl,hc 5 _ (by omega) (by omega) rfl,hc 6 _ (by omega) (by omega) rfl,hc 7 _ (by omega) (by omega) rfl,hc 8 _ (by omega) (by omega) rfl,hc 9 _ (by omega) (by omega) rfl,hc 10 _ (by omega) (by omega) rfl,hc 11 _ (by omega) (by omega) rfl⟩
 obtain ⟨ad',e,ao⟩:=h4 (12*j+0) _ (hg 0 (by omega))
 rw [e1] at e
 cases e
 rw [Nat.mul_comm]
 exact ao
theorem cells12 {w:World} {g:Nat} {a0 a1 a2 a3 a4 a5 a6 a7 a8 a9 a10 a11:Value} {t:TypeId} {fr:Nat×Nat} (hg:w.heap[g]? = some (.cells #[a0,a1,a2,a3,a4,a5,a6,a7,a8,a9,a10,a11] t fr)) :
 w.cell? ⟨g,0,none⟩=some a0∧w.cell? ⟨g,1,none⟩=some a1∧w.cell? ⟨g,2,none⟩=some a2∧w.cell? ⟨g,3,none⟩=some a3∧w.cell? ⟨g,4,none⟩=some a4∧w.cell? ⟨g,5,none⟩=some a5∧w.cell? ⟨g,6,none⟩=some a6∧w.cell? ⟨g,7,none⟩=some a7∧w.cell? ⟨g,8,none⟩=some a8∧w.cell? ⟨g,9,none⟩=some a9∧w.cell? ⟨g,10,none⟩=some a10∧w.cell? ⟨g,11,none⟩=some a11:=
 ⟨by rw [obj_cell hg];rfl,by rw [obj_cell hg];rfl,by rw [obj_cell hg];rfl,by rw [obj_cell hg];rfl,by rw [obj_cell hg];rfl,by rw [obj_cell hg];rfl,by rw [obj_cell hg];rfl,by rw [obj_cell hg];rfl,by rw [obj_cell hg];rfl,by rw [obj_cell hg];rfl,by rw [obj_cell hg];rfl,by rw [obj_cell hg];rfl⟩
structure Duo (w wr:World) (S:Nat→Prop) (gw gr:Nat) (k:Wk) (r:Rk):Prop where
 prog:WkV wr S gw k
 ref:RkV wr (fun b=>¬S b) gr r
 own:∀ b,S b→w.heap.size≤b
 low:w.heap.size≤gr
 keeps:Keeps w wr
def Far (wr w':World) (S:Nat→Prop) (gr:Nat):Prop:=∀ b,b<wr.heap.size→¬S b→b≠gr→w'.heap[b]? = wr.heap[b]?
theorem Duo.below {w wr w':World} {S:Nat→Prop} {gw gr:Nat} {k:Wk} {r:Rk} (h:Duo w wr S gw gr k r) (hk:Keeps wr w'):Duo w w' S gw gr k r:=
 ⟨h.prog.below hk.below,h.ref.below hk.below,h.own,h.low,h.keeps.trans hk⟩
theorem Duo.here {w wr:World} {S:Nat→Prop} {gw gr:Nat} {k:Wk} {r:Rk} (h:Duo w wr S gw gr k r):Duo w wr (fun b=>S b∧b<wr.heap.size) gw gr k r:=
 ⟨h.prog.here,h.ref.mono fun b _ hb hs=>hb hs.1,fun b hb=>h.own b hb.1,h.low,h.keeps⟩
theorem Duo.gr_lt {w wr:World} {S:Nat→Prop} {gw gr:Nat} {k:Wk} {r:Rk} (h:Duo w wr S gw gr k r):gr<wr.heap.size:=h.ref.lt
theorem Duo.keep_of {w wr w':World} {S:Nat→Prop} {gw gr:Nat} {k:Wk} {r:Rk} (h:Duo w wr S gw gr k r) (ht:Touch S wr w'):Keeps w w':=
 Touch.nothing (F:=S) ((Touch.of_below h.keeps.below fun b hb hs=>absurd hb (by omega)).then ht) fun b hb hs=>by have:=h.own b hs;omega
theorem Duo.next {w wr:World} {S:Nat→Prop} {gw gr:Nat} {k:Wk} {r:Rk} (h:Duo w wr S gw gr k r) (ca:k.ok) {A B E:Option Addr} {c d m:Nat} {f:Fr} (a:Int) (hf:FrS wr (fun b=>b<w.heap.size) A B E f) (bt:f.wf) (an:Tabs w) (ht:Table w) :
 Calls Tryz.prog 13 #[.pointer (some ⟨gw,0,none⟩),.agg (frCells A c B d E m f),.int .i64 a] wr fun e w'=>e=.returned (.int .i64 (k.next f a).2)∧∃ S',Duo w w' S' gw gr (k.next f a).1 r∧Far wr w' S gr∧∀ b,S' b→S b∨wr.heap.size≤b:=by
 have ah:=h.keeps.size
 refine (scanNext_went gw (fun b=>S b∧b<wr.heap.size) k A B E c d m f a wr h.prog.here ca (hf.mono fun b hb hw=>⟨hb,fun hs=>by have:=h.own b hs.1;omega⟩) bt fun w' ch=>?_).mono fun e w' ⟨h1,h2,h3⟩=>?_
 · have hk:=h.keep_of (ch.mono fun b _ hs=>hs.1)
   exact ⟨an.below hk.below,ht.later hk.below⟩
 · have hS:Touch S wr w':=(h3.in h.prog.here).mono fun b _ hs=>hs.1
   refine ⟨h1,More (fun b=>S b∧b<wr.heap.size) wr,⟨h2, ?_,fun b hb=>?_,h.low,h.keep_of hS⟩,fun b hb hs hg=>hS.block b hb hs,fun b hb=>hb.imp (fun hs=>hs.1) id⟩
   · exact (h.ref.here.touch hS fun b hb=>hb.1).mono fun b _ hb hm=>hm.elim (fun hs=>hb.1 hs.1) fun hs=>by have:=hb.2;omega
   · rcases hb with hb | hb
     · exact h.own b hb.1
     · omega
theorem Duo.rnext {w wr:World} {S:Nat→Prop} {gw gr:Nat} {k:Wk} {r:Rk} (h:Duo w wr S gw gr k r) (aA:r.fit) {A B E:Option Addr} {c d m:Nat} {f:Fr} (a:Int) (hf:FrS wr (fun b=>b<w.heap.size) A B E f) (av:f.cols.length≤c) (bt:f.wf) (an:Tabs w) (aR:r.L.length<1048576) :
 Calls Tryz.prog 14 #[.pointer (some ⟨gr,0,none⟩),.agg (frCells A c B d E m f),.int .i64 a] wr fun e w'=>e=.returned (.int .i64 (r.next f a).2)∧∃ S',Duo w w' S' gw gr k (r.next f a).1∧Far wr w' S gr∧∀ b,S' b→S b∨wr.heap.size≤b:=by
 have ah:=h.keeps.size
 refine (rkNext_calls gr (fun b=>¬S b) (fun b=>b<w.heap.size) r A B E c d m f a wr h.ref aA hf (fun b hb=>by omega) (fun b hb=>by have:=h.low;omega) av bt (an.below h.keeps.below) aR).mono fun e w' ⟨h1,h2,h3⟩=>?_
 have hk:Keeps w w':=Touch.nothing (F:=At gr) ((Touch.of_below h.keeps.below fun b hb hs=>absurd hb (by omega)).then h3) fun b hb hs=>by have:=h.low;rw [At] at hs;omega
 refine ⟨h1,fun b=>S b∧b<wr.heap.size,⟨h.prog.here.touch h3 fun b hb e=>h.ref.self (e▸hb.1),h2.mono fun b _ hb hs=>?_,fun b hb=>h.own b hb.1,h.low,hk⟩,fun b hb hs hg=>h3.block b hb hg,fun b hb=>.inl hb.1⟩
 rcases hb with (hb | hb) | hb
 · exact hb hs.1
 · have:=h.own b hs.1;omega
 · have:=hs.2;omega
theorem Duo.seen {w wr:World} {S:Nat→Prop} {gw gr:Nat} {k:Wk} {r:Rk} (h:Duo w wr S gw gr k r) (ht:Twin k r) (A:Option Addr) (c:Nat) (ns:List Int) (af:RowAt wr A (i64s ns)) (hn:ns.length≤8) (an:Tabs w) :
 Calls Tryz.prog 15 #[.pointer (some ⟨gw,0,none⟩),.pointer (some ⟨gr,0,none⟩),.slice A ns.length c] wr fun e w'=>e=.returned (.bool true)∧Keeps wr w':=
 seen_calls gw gr S (fun b=>¬S b) k r A c ns wr h.prog h.ref ht af hn (an.below h.keeps.below)
end
end Go.Proofs.YtihodcnnappkbaaGreatDoor
