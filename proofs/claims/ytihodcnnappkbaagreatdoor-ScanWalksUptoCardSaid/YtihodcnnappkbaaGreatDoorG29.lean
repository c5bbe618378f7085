/-
  The walk of the law ScanWalks. Condition: the argument reads; the tables are as laid.
-/
import Derived.Test.YtihodcnnappkbaaGreatDoorG27
import Derived.Test.YtihodcnnappkbaaGreatDoorG24
import Derived.Test.YtihodcnnappkbaaGreatDoorG19
namespace Go.Proofs.YtihodcnnappkbaaGreatDoor
open Go.RowKit Go.BigFrame
set_option linter.unusedVariables false
set_option linter.unusedSimpArgs false
attribute [local go_sem] run_storeF
set_option maxRecDepth 40000 in
set_option maxHeartbeats 8000000 in
theorem walksL_calls (A:Option Addr) (c:Nat) (l:List (Fr×Int)) (w:World) (hs:Steps w w.heap.size A l) (hlc:l.length≤c) (hll:l.length≤1048576) (htb:Tabs w) (ht:Table w) :
 Calls Tryz.prog 3 #[.slice A l.length c] w fun e w'=>e=.returned (.bool true)∧Keeps w w':=by
 have hlv:=scanLive_calls w htb ht
 have HLV:=Hi hlv
 have HS:=Hi hs
 have HTB:=Hi htb
 have HTT:=Hi ht
 clear hlv hs htb ht
 obtain ⟨N,hN⟩:∃ N,N=l.length:=⟨_,rfl⟩
 rw [← hN] at hlc hll ⊢
 have HNL:=Hi hN
 clear hN
 by_cases hbig:300<N
 · have hbig2:(300:Int)<(N:Int):=by omega
   go_enter Tryz.func3,Tryz.ntmps3
   go_wp2_with fail
   refine HLV.out.mono ?_
   rintro e w1 ⟨rfl,hk1⟩
   go_wp2_with fail
   refine (scanNew_calls w1).mono ?_
   rintro e w2 ⟨gw,rfl,_,_,hk2⟩
   go_wp2_with fail
   refine (rkNew_calls w2).mono ?_
   rintro e w3 ⟨gr,rfl,_,_,hk3⟩
   go_wp2
   go_ret
   exact ⟨rfl,hk1.trans (hk2.trans hk3)⟩
 have hbig2:¬(300:Int)<(N:Int):=by omega
 go_enter Tryz.func3,Tryz.ntmps3
 go_wp2_with fail
 refine HLV.out.mono ?_
 rintro e w1 ⟨rfl,hk1⟩
 clear HLV
 go_wp2_with fail
 refine (scanNew_calls w1).mono ?_
 rintro e w2 ⟨gw,rfl,_,hv2,hk2⟩
 go_wp2_with fail
 refine (rkNew_calls w2).mono ?_
 rintro e w3 ⟨gr,rfl,hgr,hv3,hk3⟩
 have HD3:=Hi (Duo.start hk1 hk2 hk3 hv2 hv3 hgr)
 clear hk1 hk2 hk3 hv2 hv3 hgr
 go_wp2_with fail
 go_loopw [25] (fun i wr=>∃ (j:Nat) (k:Wk) (r:Rk) (S:Nat→Prop),j≤N∧i=.int .i64 (j:Int)∧Duo w wr S gw gr k r∧Twin k r∧r.L.length≤j) (fun i _=>N-(intOf i).toNat)
 case atStart=>exact ⟨0,Wk.fresh,Rk.fresh,_,by omega,rfl,HD3.out,twin_fresh,by simp [Rk.fresh]⟩
 case round=>
  obtain ⟨j,k,r,S,hj,rfl,hduo,htw,hrl⟩:=hrel
  by_cases hlt:j<N
  · obtain ⟨ad,rfl,A1,c1,B1,d1,E1,m1,hfr,hcap,hfw,hat⟩:=HS.out.at j (by rw [← HNL.out];exact hlt)
    obtain ⟨p0,p1,p2,p3,p4,p5,p6,p7,p8,p9,p10,p11⟩:=hat wr hduo.keeps.below
    clear hat
    generalize l[j]'_=x at *
    obtain ⟨f,a⟩:=x
    simp only at p0 p1 p2 p3 p4 p5 p6 p7 p8 p9 p10 p11 hfr hcap hfw
    have hjl:(j:Int)<(N:Int):=by omega
    have hj0:(0:Int)≤(j:Int):=by omega
    obtain ⟨he,htw2⟩:=htw.next hfw a
    obtain ⟨n1,hn1⟩:∃ n1,n1=f.cols.length:=⟨_,rfl⟩
    obtain ⟨n2,hn2⟩:∃ n2,n2=f.block.length:=⟨_,rfl⟩
    obtain ⟨n3,hn3⟩:∃ n3,n3=f.ents.length:=⟨_,rfl⟩
    obtain ⟨W4,hW4⟩:∃ W4,W4=wr.alloc (.cells #[.int .i64 f.kind,.int .i64 f.number,.slice A1 n1 c1,.int .i64 f.seq,.int .i64 f.first,.int .i64 f.rows,.slice B1 n2 d1,.int .i64 f.spot,.int .i64 f.frames,.int .i64 f.irows,.slice E1 n3 m1,.int .i64 a] 38):=⟨_,rfl⟩
    rw [← hn1] at p2
    rw [← hn2] at p6
    rw [← hn3] at p10
    have hcs:frCells A1 c1 B1 d1 E1 m1 f=#[.int .i64 f.kind,.int .i64 f.number,.slice A1 n1 c1,.int .i64 f.seq,.int .i64 f.first,.int .i64 f.rows,.slice B1 n2 d1,.int .i64 f.spot,.int .i64 f.frames,.int .i64 f.irows,.slice E1 n3 m1]:=by rw [hn1,hn2,hn3];rfl
    have hk4:Keeps wr W4:=by rw [hW4];exact (Keeps.refl wr).alloc _
    have hb4:W4.heap[wr.heap.size]? = some (.cells #[.int .i64 f.kind,.int .i64 f.number,.slice A1 n1 c1,.int .i64 f.seq,.int .i64 f.first,.int .i64 f.rows,.slice B1 n2 d1,.int .i64 f.spot,.int .i64 f.frames,.int .i64 f.irows,.slice E1 n3 m1,.int .i64 a] 38 (0,0)):=by rw [hW4];exact obj_new wr _
    have hgX:wr.heap.size≠gr:=by have:=hduo.gr_lt;omega
    have hd4:Duo w W4.drew (fun b=>S b∧b<wr.heap.size) gw gr k r:=hduo.here.below (hk4.trans (Keeps.drew W4))
    obtain ⟨S4,hS4⟩:∃ S4:Nat→Prop,S4=fun b=>S b∧b<wr.heap.size:=⟨_,rfl⟩
    rw [← hS4] at hd4
    have HLT4:Hid (wr.heap.size<W4.drew.heap.size∧¬S4 wr.heap.size):=Hi ⟨obj_lt hb4,by rw [hS4];intro h;have:=h.2;omega⟩
    obtain ⟨k',hk'⟩:∃ k',k'=(k.next f a).1:=⟨_,rfl⟩
    obtain ⟨r',hr'⟩:∃ r',r'=(r.next f a).1:=⟨_,rfl⟩
    obtain ⟨er,her⟩:∃ er,er=(k.next f a).2:=⟨_,rfl⟩
    have hn1c:=hd4.next htw.ok (c:=c1) (d:=d1) (m:=m1) a (hfr.later hd4.keeps.below) hfw HTB.out HTT.out
    rw [hcs,← hk',← her] at hn1c
    have HN1:=Hi hn1c
    have HN2:Hid (∀ X5 S5,Duo w X5 S5 gw gr k' r→Calls Tryz.prog 14 #[.pointer (some ⟨gr,0,none⟩),.agg #[.int .i64 f.kind,.int .i64 f.number,.slice A1 n1 c1,.int .i64 f.seq,.int .i64 f.first,.int .i64 f.rows,.slice B1 n2 d1,.int .i64 f.spot,.int .i64 f.frames,.int .i64 f.irows,.slice E1 n3 m1],.int .i64 a] X5 fun e w'=>e=.returned (.int .i64 er)∧∃ S',Duo w w' S' gw gr k' r'∧Far X5 w' S5 gr∧∀ b,S' b→S5 b∨X5.heap.size≤b):=Hi fun X5 S5 h5=>by
     have h:=h5.rnext htw.fit (c:=c1) (d:=d1) (m:=m1) a (hfr.later h5.keeps.below) hcap hfw HTB.out (by omega)
     rw [hcs,← hr',he,← her] at h
     exact h
    have HN3:Hid (∀ X6 S6,Duo w X6 S6 gw gr k' r'→Calls Tryz.prog 15 #[.pointer (some ⟨gw,0,none⟩),.pointer (some ⟨gr,0,none⟩),.slice (some ⟨X6.heap.size,0,none⟩) 1 1] (X6.alloc (.cells #[.int .i64 f.number] 2)) fun e w'=>e=.returned (.bool true)∧Keeps X6 w'):=Hi fun X6 S6 h6=>by
     have hka:Keeps X6 (X6.alloc (.cells #[.int .i64 f.number] 2)):=(Keeps.refl X6).alloc _
     have h:=(h6.below hka).seen (ns:=[f.number]) (hk'▸hr'▸htw2) (some ⟨X6.heap.size,0,none⟩) 1 (RowAt.new_at _ _ _ _ _ rfl _ rfl) (by simp) HTB.out
     exact h.mono fun e w' hh=>⟨hh.1,hka.trans hh.2⟩
    have HTW2:Hid (Twin k' r'):=Hi (by rw [hk',hr'];exact htw2)
    have hrl2:r'.L.length≤j+1:=by rw [hr'];have:=r.next_len f a;omega
    have HB4:Hid (W4.drew.heap[wr.heap.size]? = some (.cells #[.int .i64 f.kind,.int .i64 f.number,.slice A1 n1 c1,.int .i64 f.seq,.int .i64 f.first,.int .i64 f.rows,.slice B1 n2 d1,.int .i64 f.spot,.int .i64 f.frames,.int .i64 f.irows,.slice E1 n3 m1,.int .i64 a] 38 (0,0))):=Hi hb4
    have hc12:=cells12 hb4
    clear hduo htw hfr hcap hfw he htw2 hcs hd4 hn1c hk' hr' her hk4 hb4 HD3 hrl hn1 hn2 hn3 hS4
    obtain ⟨t0,t1,t2,t3,t4,t5,t6,t7,t8,t9,t10,t11⟩:=hc12
    go_wp2_with fail
    rw [← hW4]
    clear hW4
    refine wp_region_held_drew (S:=fun w'=>w'.cell? ⟨wr.heap.size,0,none⟩=some (.int .i64 f.kind)∧w'.cell? ⟨wr.heap.size,1,none⟩=some (.int .i64 f.number)∧w'.cell? ⟨wr.heap.size,2,none⟩=some (.slice A1 n1 c1)∧w'.cell? ⟨wr.heap.size,3,none⟩=some (.int .i64 f.seq)∧w'.cell? ⟨wr.heap.size,4,none⟩=some (.int .i64 f.first)∧w'.cell? ⟨wr.heap.size,5,none⟩=some (.int .i64 f.rows)∧w'.cell? ⟨wr.heap.size,6,none⟩=some (.slice B1 n2 d1)∧w'.cell? ⟨wr.heap.size,7,none⟩=some (.int .i64 f.spot)∧w'.cell? ⟨wr.heap.size,8,none⟩=some (.int .i64 f.frames)∧w'.cell? ⟨wr.heap.size,9,none⟩=some (.int .i64 f.irows)∧w'.cell? ⟨wr.heap.size,10,none⟩=some (.slice E1 n3 m1)∧w'.cell? ⟨wr.heap.size,11,none⟩=some (.int .i64 a)) (by kernel_rfl) ?_ (fun hHeld=>?_)
    · (try dsimp only);(refine ⟨?_,?_,?_,?_,?_,?_,?_,?_,?_,?_,?_,?_⟩ <;> first | assumption | go_keep)
    refine takeH 0 (v:=?_) rfl (by kernel_rfl) (by kernel_rfl) (by kernel_rfl) (fun _ _ _ h=>h) (Or.inl ⟨by first | kernel_rfl | rfl,?_⟩) (by assumption) ?_
    rotate_left
    · (intro w hSw;(try dsimp only at hSw);go_simp;try with_reducible rfl)
    try simp only [Act.put,List.setIfInBounds_toArray,List.set_cons_zero,List.set_cons_succ]
    refine takeH 1 (v:=?_) rfl (by kernel_rfl) (by kernel_rfl) (by kernel_rfl) (fun _ _ _ h=>h) (Or.inl ⟨by first | kernel_rfl | rfl,?_⟩) (by assumption) ?_
    rotate_left
    · (intro w hSw;(try dsimp only at hSw);go_simp;try with_reducible rfl)
    try simp only [Act.put,List.setIfInBounds_toArray,List.set_cons_zero,List.set_cons_succ]
    refine takeH 2 (v:=?_) rfl (by kernel_rfl) (by kernel_rfl) (by kernel_rfl) (fun _ _ _ h=>h) (Or.inl ⟨by first | kernel_rfl | rfl,?_⟩) (by assumption) ?_
    rotate_left
    · (intro w hSw;(try dsimp only at hSw);go_simp;try with_reducible rfl)
    try simp only [Act.put,List.setIfInBounds_toArray,List.set_cons_zero,List.set_cons_succ]
    refine takeH 3 (v:=?_) rfl (by kernel_rfl) (by kernel_rfl) (by kernel_rfl) (fun _ _ _ h=>h) (Or.inl ⟨by first | kernel_rfl | rfl,?_⟩) (by assumption) ?_
    rotate_left
    · (intro w hSw;(try dsimp only at hSw);go_simp;try with_reducible rfl)
    try simp only [Act.put,List.setIfInBounds_toArray,List.set_cons_zero,List.set_cons_succ]
    refine takeH 4 (v:=?_) rfl (by kernel_rfl) (by kernel_rfl) (by kernel_rfl) (fun _ _ _ h=>h) (Or.inl ⟨by first | kernel_rfl | rfl,?_⟩) (by assumption) ?_
    rotate_left
    · (intro w hSw;(try dsimp only at hSw);go_simp;try with_reducible rfl)
    try simp only [Act.put,List.setIfInBounds_toArray,List.set_cons_zero,List.set_cons_succ]
    refine takeH 6 (v:=?_) rfl (by kernel_rfl) (by kernel_rfl) (by kernel_rfl) (fun _ _ _ h=>h) (Or.inl ⟨by first | kernel_rfl | rfl,?_⟩) (by assumption) ?_
    rotate_left
    · (intro w hSw;(try dsimp only at hSw);go_simp;try with_reducible rfl)
    try simp only [Act.put,List.setIfInBounds_toArray,List.set_cons_zero,List.set_cons_succ]
    refine takeH 7 (v:=?_) rfl (by kernel_rfl) (by kernel_rfl) (by kernel_rfl) (fun _ _ _ h=>h) (Or.inl ⟨by first | kernel_rfl | rfl,?_⟩) (by assumption) ?_
    rotate_left
    · (intro w hSw;(try dsimp only at hSw);go_simp;try with_reducible rfl)
    try simp only [Act.put,List.setIfInBounds_toArray,List.set_cons_zero,List.set_cons_succ]
    refine takeH 8 (v:=?_) rfl (by kernel_rfl) (by kernel_rfl) (by kernel_rfl) (fun _ _ _ h=>h) (Or.inl ⟨by first | kernel_rfl | rfl,?_⟩) (by assumption) ?_
    rotate_left
    · (intro w hSw;(try dsimp only at hSw);go_simp;try with_reducible rfl)
    try simp only [Act.put,List.setIfInBounds_toArray,List.set_cons_zero,List.set_cons_succ]
    refine takeH 9 (v:=?_) rfl (by kernel_rfl) (by kernel_rfl) (by kernel_rfl) (fun _ _ _ h=>h) (Or.inl ⟨by first | kernel_rfl | rfl,?_⟩) (by assumption) ?_
    rotate_left
    · (intro w hSw;(try dsimp only at hSw);go_simp;try with_reducible rfl)
    try simp only [Act.put,List.setIfInBounds_toArray,List.set_cons_zero,List.set_cons_succ]
    refine takeH 10 (v:=?_) rfl (by kernel_rfl) (by kernel_rfl) (by kernel_rfl) (fun _ _ _ h=>h) (Or.inl ⟨by first | kernel_rfl | rfl,?_⟩) (by assumption) ?_
    rotate_left
    · (intro w hSw;(try dsimp only at hSw);go_simp;try with_reducible rfl)
    try simp only [Act.put,List.setIfInBounds_toArray,List.set_cons_zero,List.set_cons_succ]
    refine nextH 5 (by kernel_rfl) rfl (fun K hK=>?_)
    go_simp
    (try go_at_call 13)
    refine (HN1.out).mono ?_
    rintro e w5 ⟨rfl,S5,hd,hfar,hss⟩
    have hlt:=HLT4.out
    have hb:=(hfar wr.heap.size hlt.1 hlt.2 hgX).trans HB4.out
    have hx:¬S5 wr.heap.size:=fun h=>(hss _ h).elim hlt.2 fun h=>by have:=hlt.1;omega
    obtain ⟨z0,z1,z2,z3,z4,z5,z6,z7,z8,z9,z10,z11⟩:=cells12 hb
    have HD5:=Hi hd
    have HB5:=Hi hb
    have HX5:=Hi hx
    clear hd hfar hss hb hx hlt
    refine hK.out _ _ ?_ (fun hHeld=>?_)
    · (try dsimp only);(refine ⟨?_,?_,?_,?_,?_,?_,?_,?_,?_,?_,?_,?_⟩ <;> first | assumption | go_keep)
    clear hK K
    try simp only [Act.put,List.setIfInBounds_toArray,List.set_cons_zero,List.set_cons_succ]
    refine nextH 11 (by kernel_rfl) rfl (fun K hK=>?_)
    go_simp
    (try go_at_call 14)
    refine (HN2.out w5 S5 HD5.out).mono ?_
    rintro e w6 ⟨rfl,S6,hd,hfar,hss⟩
    have hlt:=(⟨obj_lt HB5.out,HX5.out⟩:wr.heap.size<w5.heap.size∧¬S5 wr.heap.size)
    have hb:=(hfar wr.heap.size hlt.1 hlt.2 hgX).trans HB5.out
    have hx:¬S6 wr.heap.size:=fun h=>(hss _ h).elim hlt.2 fun h=>by have:=hlt.1;omega
    obtain ⟨y0,y1,y2,y3,y4,y5,y6,y7,y8,y9,y10,y11⟩:=cells12 hb
    have HD6:=Hi hd
    have HB6:=Hi hb
    have HX6:=Hi hx
    clear hd hfar hss hb hx hlt
    refine hK.out _ _ ?_ (fun hHeld=>?_)
    · (try dsimp only);(refine ⟨?_,?_,?_,?_,?_,?_,?_,?_,?_,?_,?_,?_⟩ <;> first | assumption | go_keep)
    clear hK K
    try simp only [Act.put,List.setIfInBounds_toArray,List.set_cons_zero,List.set_cons_succ]
    refine takeH 12 (v:=?_) rfl (by kernel_rfl) (by kernel_rfl) (by kernel_rfl) (fun _ _ _ h=>h) (Or.inl ⟨by first | kernel_rfl | rfl,?_⟩) (by assumption) ?_
    rotate_left
    · (intro w hSw;(try dsimp only at hSw);go_simp;try with_reducible rfl)
    try simp only [Act.put,List.setIfInBounds_toArray,List.set_cons_zero,List.set_cons_succ]
    refine takeH 13 (v:=?_) rfl (by kernel_rfl) (by kernel_rfl) (by kernel_rfl) (fun _ _ _ h=>h) (Or.inl ⟨by first | kernel_rfl | rfl,?_⟩) (by assumption) ?_
    rotate_left
    · (intro w hSw;(try dsimp only at hSw);go_simp;try with_reducible rfl)
    try simp only [Act.put,List.setIfInBounds_toArray,List.set_cons_zero,List.set_cons_succ]
    refine takeH 14 (v:=?_) rfl (by kernel_rfl) (by kernel_rfl) (by kernel_rfl) (fun _ _ _ h=>h) (Or.inl ⟨by first | kernel_rfl | rfl,?_⟩) (by assumption) ?_
    rotate_left
    · (intro w hSw;(try dsimp only at hSw);go_simp;try with_reducible rfl)
    try simp only [Act.put,List.setIfInBounds_toArray,List.set_cons_zero,List.set_cons_succ]
    refine takeH 15 (v:=?_) rfl (by kernel_rfl) (by kernel_rfl) (by kernel_rfl) (fun _ _ _ h=>h) (Or.inl ⟨by first | kernel_rfl | rfl,?_⟩) (by assumption) ?_
    rotate_left
    · (intro w hSw;(try dsimp only at hSw);go_simp;try with_reducible rfl)
    try simp only [Act.put,List.setIfInBounds_toArray,List.set_cons_zero,List.set_cons_succ]
    refine takeH 16 (v:=?_) rfl (by kernel_rfl) (by kernel_rfl) (by kernel_rfl) (fun _ _ _ h=>h) (Or.inl ⟨by first | kernel_rfl | rfl,?_⟩) (by assumption) ?_
    rotate_left
    · (intro w hSw;(try dsimp only at hSw);go_simp;try with_reducible rfl)
    try simp only [Act.put,List.setIfInBounds_toArray,List.set_cons_zero,List.set_cons_succ]
    refine takeH 17 (v:=?_) rfl (by kernel_rfl) (by kernel_rfl) (by kernel_rfl) (fun _ _ _ h=>h) (Or.inl ⟨by first | kernel_rfl | rfl,?_⟩) (by assumption) ?_
    rotate_left
    · (intro w hSw;(try dsimp only at hSw);go_simp;try with_reducible rfl)
    try simp only [Act.put,List.setIfInBounds_toArray,List.set_cons_zero,List.set_cons_succ]
    refine takeH 18 (v:=?_) rfl (by kernel_rfl) (by kernel_rfl) (by kernel_rfl) (fun _ _ _ h=>h) (Or.inl ⟨by first | kernel_rfl | rfl,?_⟩) (by assumption) ?_
    rotate_left
    · (intro w hSw;(try dsimp only at hSw);go_simp;try with_reducible rfl)
    try simp only [Act.put,List.setIfInBounds_toArray,List.set_cons_zero,List.set_cons_succ]
    refine nextH 19 (by kernel_rfl) rfl (fun K hK=>?_)
    go_simp
    refine hK.out _ _ ?_ (fun hHeld=>?_)
    · (try dsimp only);(refine ⟨?_,?_,?_,?_,?_,?_,?_,?_,?_,?_,?_,?_⟩ <;> first | assumption | go_keep)
    clear hK K
    try simp only [Act.put,List.setIfInBounds_toArray,List.set_cons_zero,List.set_cons_succ]
    refine nextH 20 (by kernel_rfl) rfl (fun K hK=>?_)
    go_simp
    (try go_at_call 15)
    refine (HN3.out w6 S6 HD6.out).mono ?_
    rintro e w7 ⟨rfl,hk7⟩
    have hb:=(hk7.below.block _ (obj_lt HB6.out)).trans HB6.out
    obtain ⟨x0,x1,x2,x3,x4,x5,x6,x7,x8,x9,x10,x11⟩:=cells12 hb
    have HD7:=Hi (HD6.out.below hk7)
    clear hb hk7
    refine hK.out _ _ ?_ (fun hHeld=>?_)
    · (try dsimp only);(refine ⟨?_,?_,?_,?_,?_,?_,?_,?_,?_,?_,?_,?_⟩ <;> first | assumption | go_keep)
    clear hK K
    try simp only [Act.put,List.setIfInBounds_toArray,List.set_cons_zero,List.set_cons_succ]
    refine takeH 21 (v:=?_) rfl (by kernel_rfl) (by kernel_rfl) (by kernel_rfl) (fun _ _ _ h=>h) (Or.inl ⟨by first | kernel_rfl | rfl,?_⟩) (by assumption) ?_
    rotate_left
    · (intro w hSw;(try dsimp only at hSw);go_simp;try with_reducible rfl)
    try simp only [Act.put,List.setIfInBounds_toArray,List.set_cons_zero,List.set_cons_succ]
    refine takeH 22 (v:=?_) rfl (by kernel_rfl) (by kernel_rfl) (by kernel_rfl) (fun _ _ _ h=>h) (Or.inl ⟨by first | kernel_rfl | rfl,?_⟩) (by assumption) ?_
    rotate_left
    · (intro w hSw;(try dsimp only at hSw);go_simp;try with_reducible rfl)
    try simp only [Act.put,List.setIfInBounds_toArray,List.set_cons_zero,List.set_cons_succ]
    refine wpAnyH_done (by kernel_rfl) ?_ _
    go_wp2
    exact ⟨⟨j+1,k',r',S6,by omega,by go_num,HD7.out,HTW2.out,hrl2⟩,by simp [intOf];omega⟩
  · have hjl:¬(j:Int)<(N:Int):=by omega
    have HKZ:=Hi hduo.keeps
    clear hduo htw HD3
    go_wp2
    go_ret
    exact ⟨rfl,HKZ.out⟩
end Go.Proofs.YtihodcnnappkbaaGreatDoor
