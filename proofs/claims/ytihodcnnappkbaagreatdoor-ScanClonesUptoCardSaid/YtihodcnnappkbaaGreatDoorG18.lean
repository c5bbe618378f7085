/-
  What a frame's reading tells and how a file stands behind it: plain. No condition. The walk of laid: two files with the same bytes. Condition: the bytes read, at most 2097152. The walk of scan.At. Condition: the file stands for its plain machine; the tables are as laid, whatever is done in the file's blocks.
-/
import Derived.Test.YtihodcnnappkbaaGreatDoorG14
import Derived.Test.YtihodcnnappkbaaGreatDoorG11
import Derived.Test.YtihodcnnappkbaaGreatDoorG13
import Derived.Test.YtihodcnnappkbaaGreatDoorG15
import Derived.Test.YtihodcnnappkbaaGreatDoorG12
namespace Go.Proofs.YtihodcnnappkbaaGreatDoor
open Go.RowKit Go.BigFrame
set_option linter.unusedVariables false
set_option linter.unusedSimpArgs false
theorem fetchD_facts (d:Dv) (a:Int):(fetchD d a).b=d.b∧(fetchD d a).down=d.down∧d.counted≤(fetchD d a).counted∧(fetchD d a).counted≤d.counted+2202∧(d.Ok→(fetchD d a).Ok):=by
 unfold fetchD
 split
 · exact ⟨rfl,rfl,Nat.le_refl _,by omega,fun h=>h⟩
 · unfold Dv.read
   split
   · exact ⟨rfl,rfl,Nat.le_refl _,by omega,fun h=>h⟩
   · refine ⟨rfl,rfl,by simp only;omega, ?_,fun h=>⟨h.synced,h.size,h.quota,h.fits⟩⟩
     simp only [List.length_take]
     omega
theorem fresh_dv (w:World) (q:Nat):DV (w.alloc (freshDev (q:Int))) (At w.heap.size) w.heap.size (Dv.fresh q):=
 ⟨.slice none 0 0,.pointer none,.nilFunc,⟨obj_new _ _,OwnL.empty _ _ _ _,rfl⟩,rfl,fun k hk=>by simp [blk] at hk,fun k hk=>by simp [bpBlock] at hk,rfl⟩
end Go.Proofs.YtihodcnnappkbaaGreatDoor
namespace Go.Proofs.YtihodcnnappkbaaGreatDoor
open Go.RowKit Go.BigFrame
set_option linter.unusedVariables false
set_option linter.unusedSimpArgs false
attribute [local go_sem] run_storeF
set_option maxRecDepth 40000 in
set_option maxHeartbeats 4000000 in
theorem scanAt_calls (g:Nat) (S:Nat→Prop) (d:Dv) (a:Int) (w:World) (aP:DV w S g d) (aI:d.Ok) (b9:d.counted≤9223372036852678655) (aj:∀ w',Touch S w w'→Tabs w'∧Table w') :
 Calls Tryz.prog 18 #[.pointer (some ⟨g,0,none⟩),.int .i64 a] w fun e w'=>FetchPost w (fetch d a) e w'∧DV w' S g (fetchD d a)∧Touch S w w':=by
 suffices hs:Calls Tryz.prog 18 #[.pointer (some ⟨g,0,none⟩),.int .i64 a] w fun e w'=>FetchPost w (fetch d a) e w'∧DV w' (fun k=>S k∧k<w.heap.size) g (fetchD d a)∧Touch (fun k=>S k∧k<w.heap.size) w w' from
  hs.mono fun e w' ⟨h1,h2,h3⟩=>⟨h1,h2.mono fun _ _ h=>h.1,h3.mono fun _ _ h=>h.1⟩
 have hd:=aP.here
 have aj:∀ w',Touch (fun k=>S k∧k<w.heap.size) w w'→Tabs w'∧Table w':=fun w' h=>aj w' (h.mono fun _ _ h=>h.1)
 clear aP
 obtain ⟨T,bp⟩:∃ T:Nat→Prop,T=fun k=>S k∧k<w.heap.size:=⟨_,rfl⟩
 obtain ⟨W,hW⟩:∃ W,W=w.alloc (.cells zero11 36):=⟨_,rfl⟩
 have ah:Keeps w W:=by rw [hW];exact (Keeps.refl w).alloc _
 have aw:W.heap[w.heap.size]? = some (.cells zero11 36):=by rw [hW];exact obj_new w _
 have aD:=hd.below ah.below
 have aV:Touch (fun k=>S k∧k<w.heap.size) w W:=(Touch.refl _ w).below ah.below
 have bk:=aI.size
 have aA:=devLen_calls g _ d W aD
 have aW:=devUp_calls g _ d W aD
 have ar:=Hi aD
 have av:=Hi aV
 have a2:=Hi aw
 have a9:=Hi aA
 have ac:=Hi aW
 obtain ⟨R,hR⟩:∃ R,R=fetch d a:=⟨_,rfl⟩
 obtain ⟨D,hD⟩:∃ D,D=fetchD d a:=⟨_,rfl⟩
 rw [← hR,← hD]
 unfold fetch at hR
 clear aD aV aw aA aW hd
 cases a0:d.down with
 | true=>
   rw [a0] at hR
   have HE:Hid (R=.error 50):=Hi (by rw [hR];rfl)
   have HD:Hid (D=d):=Hi (by rw [hD,fetchD_same (.inl a0)])
   rw [a0] at ac
   clear hR hD aj ah a0
   generalize d.b.length=L at *
   go_enter Tryz.func18,Tryz.ntmps18
   go_wp2_with fail
   rw [← hW]
   clear hW
   refine a9.out.mono ?_
   rintro e w1 ⟨rfl,rfl⟩
   go_wp2_with fail
   refine ac.out.mono ?_
   rintro e w1 ⟨rfl,rfl⟩
   obtain ⟨⟨d0,d1,d2,d3,d4,d5,d6,d7,d8,d9,d10⟩,y0,y1,y2,y3,y4,y5,y6,y7,y8,y9,y10⟩:=cells11 (x0:=.int .i64 0) (x1:=.int .i64 0) (x2:=.slice none 0 0) (x3:=.int .i64 0) (x4:=.int .i64 0) (x5:=.int .i64 0) (x6:=.slice none 0 0) (x7:=.int .i64 0) (x8:=.int .i64 0) (x9:=.int .i64 0) (x10:=.slice none 0 0) a2.out
   have u1:=obj_lt a2.out
   go_wp2
   refine bodyPost_ret (v:=.tuple #[.agg zero11,.int .i64 0,.int .i64 50]) (by simp [results,Tryz.results18,go_sem,u1,d0,d1,d2,d3,d4,d5,d6,d7,d8,d9,d10]) rfl ?_
   rw [HE.out,HD.out]
   have hT:=fun v0 v1 v2 v3 v4 v5 v6 v7 v8 v9 v10=>touch11 (w1:=W) (g:=w.heap.size) v0 v1 v2 v3 v4 v5 v6 v7 v8 v9 v10
   exact ⟨rfl,ar.out.keep (hT _ _ _ _ _ _ _ _ _ _ _) fun k _ hk e=>by rw [At] at e;have:=hk.2;omega,touch_new av.out (hT _ _ _ _ _ _ _ _ _ _ _) (Nat.le_refl _)⟩
 | false=>
   rw [a0] at hR
   simp only [Bool.false_eq_true,if_false] at hR
   by_cases aa:a<0∨(d.b.length:Int)<a
   case pos=>
    rw [if_pos aa] at hR
    have HE:Hid (R=.error 7):=Hi hR
    have HD:Hid (D=d):=Hi (by rw [hD,fetchD_same (by omega)])
    rw [a0] at ac
    clear hR hD aj ah a0
    generalize d.b.length=L at *
    by_cases h0:a<0
    all_goals
     go_enter Tryz.func18,Tryz.ntmps18
     go_wp2_with fail
     rw [← hW]
     clear hW
     refine a9.out.mono ?_
     rintro e w1 ⟨rfl,rfl⟩
     go_wp2_with fail
     refine ac.out.mono ?_
     rintro e w1 ⟨rfl,rfl⟩
     have hL:a<0∨(L:Int)<a:=aa
     try have bn:(L:Int)<a:=by omega
     obtain ⟨⟨d0,d1,d2,d3,d4,d5,d6,d7,d8,d9,d10⟩,y0,y1,y2,y3,y4,y5,y6,y7,y8,y9,y10⟩:=cells11 (x0:=.int .i64 0) (x1:=.int .i64 0) (x2:=.slice none 0 0) (x3:=.int .i64 0) (x4:=.int .i64 0) (x5:=.int .i64 0) (x6:=.slice none 0 0) (x7:=.int .i64 0) (x8:=.int .i64 0) (x9:=.int .i64 0) (x10:=.slice none 0 0) a2.out
     have u1:=obj_lt a2.out
     go_wp2
     refine bodyPost_ret (v:=.tuple #[.agg zero11,.int .i64 0,.int .i64 7]) (by simp [results,Tryz.results18,go_sem,u1,d0,d1,d2,d3,d4,d5,d6,d7,d8,d9,d10]) rfl ?_
     rw [HE.out,HD.out]
     have hT:=fun v0 v1 v2 v3 v4 v5 v6 v7 v8 v9 v10=>touch11 (w1:=W) (g:=w.heap.size) v0 v1 v2 v3 v4 v5 v6 v7 v8 v9 v10
     exact ⟨rfl,ar.out.keep (hT _ _ _ _ _ _ _ _ _ _ _) fun k _ hk e=>by rw [At] at e;have:=hk.2;omega,touch_new av.out (hT _ _ _ _ _ _ _ _ _ _ _) (Nat.le_refl _)⟩
   case neg=>
   rw [if_neg aa] at hR
   by_cases ae:a=(d.b.length:Int)
   case pos=>
    rw [if_pos ae] at hR
    have HE:Hid (R=.error 140):=Hi hR
    have HD:Hid (D=d):=Hi (by rw [hD,fetchD_same (by omega)])
    rw [a0] at ac
    clear hR hD aj ah a0
    generalize d.b.length=L at *
    subst ae
    go_enter Tryz.func18,Tryz.ntmps18
    go_wp2_with fail
    rw [← hW]
    clear hW
    refine a9.out.mono ?_
    rintro e w1 ⟨rfl,rfl⟩
    go_wp2_with fail
    refine ac.out.mono ?_
    rintro e w1 ⟨rfl,rfl⟩
    obtain ⟨⟨d0,d1,d2,d3,d4,d5,d6,d7,d8,d9,d10⟩,y0,y1,y2,y3,y4,y5,y6,y7,y8,y9,y10⟩:=cells11 (x0:=.int .i64 0) (x1:=.int .i64 0) (x2:=.slice none 0 0) (x3:=.int .i64 0) (x4:=.int .i64 0) (x5:=.int .i64 0) (x6:=.slice none 0 0) (x7:=.int .i64 0) (x8:=.int .i64 0) (x9:=.int .i64 0) (x10:=.slice none 0 0) a2.out
    have u1:=obj_lt a2.out
    go_wp2
    refine bodyPost_ret (v:=.tuple #[.agg zero11,.int .i64 0,.int .i64 140]) (by simp [results,Tryz.results18,go_sem,u1,d0,d1,d2,d3,d4,d5,d6,d7,d8,d9,d10]) rfl ?_
    rw [HE.out,HD.out]
    have hT:=fun v0 v1 v2 v3 v4 v5 v6 v7 v8 v9 v10=>touch11 (w1:=W) (g:=w.heap.size) v0 v1 v2 v3 v4 v5 v6 v7 v8 v9 v10
    exact ⟨rfl,ar.out.keep (hT _ _ _ _ _ _ _ _ _ _ _) fun k _ hk e=>by rw [At] at e;have:=hk.2;omega,touch_new av.out (hT _ _ _ _ _ _ _ _ _ _ _) (Nat.le_refl _)⟩
   case neg=>
   rw [if_neg ae] at hR
   obtain ⟨n,rfl⟩:=Int.eq_ofNat_of_zero_le (show 0≤a by omega)
   have bb:n<d.b.length:=by omega
   have aU:d.read (n:Int) 2202=({ d with counted:=d.counted+((d.b.drop n).take 2202).length },(d.b.drop n).take 2202,0):=by
    unfold Dv.read
    rw [if_neg (by omega)]
    rfl
   have aZ:D=(d.read (n:Int) 2202).1:=by rw [hD,fetchD_read a0 (by omega) (by omega)]
   have a3:=devRead_calls g _ d (n:Int) 2202 W ar.out aI b9 (by omega)
   rw [← aZ,aU] at a3
   simp only [Int.toNat_natCast] at hR
   obtain ⟨b,hb⟩:∃ b,b=(d.b.drop n).take 2202:=⟨_,rfl⟩
   have aF:b.length=min 2202 (d.b.length-n):=by rw [hb,List.length_take,List.length_drop]
   rw [← hb] at hR a3
   simp only at a3
   obtain ⟨x,t,rfl⟩:∃ x t,b=x :: t:=by
    cases hq:b with
    | nil=>rw [hq] at aF;simp at aF;omega
    | cons x t=>exact ⟨x,t,rfl⟩
   have b7:t.length≤2201:=by rw [List.length_cons] at aF;omega
   rw [fetchB] at hR
   have ai:=Hi a3
   have HR:=Hi hR
   have b8:=Hi aj
   rw [a0] at ac
   have q1:¬(n:Int)<0:=by omega
   have q2:¬(d.b.length:Int)<(n:Int):=by omega
   clear a3 hR hD aZ aU hb aF a0 aj ah aa aI
   generalize d.b.length=L at *
   have q3:¬(n:Int)=(L:Int):=ae
   go_enter Tryz.func18,Tryz.ntmps18
   go_wp2_with fail
   rw [← hW]
   clear hW
   refine a9.out.mono ?_
   rintro e w1 ⟨rfl,rfl⟩
   go_wp2_with fail
   refine ac.out.mono ?_
   rintro e w1 ⟨rfl,rfl⟩
   go_wp2_with fail
   refine ai.out.mono ?_
   rintro e w2 ⟨v2,rfl,b2,aS,aJ⟩
   obtain ⟨B,cb,rfl,aY,aG,ba,_⟩:=b2.form
   have aN:w2.heap[w.heap.size]? = some (.cells zero11 36):=aJ.obj a2.out (fun h=>by have:=h.2;omega)
   have aB:Touch (fun k=>S k∧k<w.heap.size) w w2:=av.out.then aJ
   obtain ⟨ad,rfl,a7⟩:=aG.out 0 (by simp)
   rw [List.getElem_cons_zero,addr_add_zero] at a7
   have ap:=Hi aN
   have am:=Hi aB
   have a8:=Hi aS
   have b6:=Hi aG
   clear aN aB aS aJ b2 aG ai a9 ac a2 av ar
   rw [List.length_cons] at aY ⊢
   obtain ⟨M,hM⟩:∃ M,M=t.length+1:=⟨_,rfl⟩
   rw [← hM] at aY ⊢
   have aR:t.length=M-1:=by omega
   have bj:0<M:=by omega
   have bg:M≤2202:=by omega
   have az:=Hi aR
   clear hM aR b7
   obtain ⟨⟨d0,d1,d2,d3,d4,d5,d6,d7,d8,d9,d10⟩,y0,y1,y2,y3,y4,y5,y6,y7,y8,y9,y10⟩:=cells11 (x0:=.int .i64 0) (x1:=.int .i64 0) (x2:=.slice none 0 0) (x3:=.int .i64 0) (x4:=.int .i64 0) (x5:=.int .i64 0) (x6:=.slice none 0 0) (x7:=.int .i64 0) (x8:=.int .i64 0) (x9:=.int .i64 0) (x10:=.slice none 0 0) ap.out
   have u1:=obj_lt ap.out
   have aM:x.toNat<256:=x.toNat_lt
   by_cases hx:x=0
   case neg=>
    have HE:Hid (R=.error 141):=Hi (by rw [HR.out,if_pos hx])
    have qx:(((x.toNat:Nat):Int) != 0)=true:=by rw [bne_iff_ne];intro e;exact hx (UInt8.toNat_inj.1 (by show x.toNat=0;omega))
    clear hx HR
    go_wp2
    refine bodyPost_ret (v:=.tuple #[.agg zero11,.int .i64 0,.int .i64 141]) (by simp [results,Tryz.results18,go_sem,u1,d0,d1,d2,d3,d4,d5,d6,d7,d8,d9,d10]) rfl ?_
    rw [HE.out]
    have hT:=fun v0 v1 v2 v3 v4 v5 v6 v7 v8 v9 v10=>touch11 (w1:=w2) (g:=w.heap.size) v0 v1 v2 v3 v4 v5 v6 v7 v8 v9 v10
    exact ⟨rfl,a8.out.keep (hT _ _ _ _ _ _ _ _ _ _ _) fun k _ hk e=>by rw [At] at e;have:=hk.2;omega,touch_new am.out (hT _ _ _ _ _ _ _ _ _ _ _) (Nat.le_refl _)⟩
   case pos=>
   subst hx
   have a1:Hid (R=fetchT t n):=Hi (by rw [HR.out,if_neg (by simp)])
   clear HR
   have a7:w2.cell? ad=some (.int .u8 0):=a7
   obtain ⟨Z,al⟩:∃ Z,(if cb=1 then some ad else some ⟨ad.block,ad.off+1,none⟩)=Z:=⟨_,rfl⟩
   have hz:Reads w2 Z t:=by
    have h:=b6.out.drop_any 1 Z fun b5 ad' e=>by
     rw [← al,if_neg (by rw [List.length_cons] at b5;have:=az.out;omega)]
     cases e
     rw [addr_add_pos ad 1 (by omega)]
    simpa using h
   have aK:=idx_calls Z (cb-1) t w2 hz
   rw [az.out] at aK
   have ag:=Hi aK
   have HZ:=Hi hz
   clear aK hz
   have ab:=nz_le t
   by_cases hk:(nz t).length<t.length
   case neg=>
    have a4:idx t = -1:=by unfold idx;rw [if_neg hk]
    rw [a4] at ag
    by_cases a6:t.length=2201
    case pos=>
     have HE:Hid (R=.error 2):=Hi (by rw [a1.out,fetchT,if_neg hk,if_pos a6])
     have b0:M=2202:=by have:=az.out;omega
     have ak:¬cb=1:=by omega
     obtain rfl:Z=some ⟨ad.block,ad.off+1,none⟩:=by rw [← al,if_neg ak]
     clear hk ab a6 a1 a4 al
     subst b0
     have ag:Hid (Calls Tryz.prog 61 #[.slice (some ⟨ad.block,ad.off+1,none⟩) 2201 (cb-1),.int .u8 0] w2 fun e w'=>e=.returned (.int .i64 (-1))∧w2=w'):=ag
     go_wp2_with fail
     refine ag.out.mono ?_
     rintro e w3 ⟨rfl,rfl⟩
     go_wp2
     refine bodyPost_ret (v:=.tuple #[.agg zero11,.int .i64 0,.int .i64 2]) (by simp [results,Tryz.results18,go_sem,u1,d0,d1,d2,d3,d4,d5,d6,d7,d8,d9,d10]) rfl ?_
     rw [HE.out]
     have hT:=fun v0 v1 v2 v3 v4 v5 v6 v7 v8 v9 v10=>touch11 (w1:=w2) (g:=w.heap.size) v0 v1 v2 v3 v4 v5 v6 v7 v8 v9 v10
     exact ⟨rfl,a8.out.keep (hT _ _ _ _ _ _ _ _ _ _ _) fun k _ hk e=>by rw [At] at e;have:=hk.2;omega,touch_new am.out (hT _ _ _ _ _ _ _ _ _ _ _) (Nat.le_refl _)⟩
    case neg=>
     have HE:Hid (R=.error 142):=Hi (by rw [a1.out,fetchT,if_neg hk,if_neg a6])
     have b0:¬M=2202:=by have:=az.out;omega
     have be:¬(M:Int)=2202:=by omega
     clear hk ab a6 a1 a4
     go_wp2_with fail
     clear al
     refine ag.out.mono ?_
     rintro e w3 ⟨rfl,rfl⟩
     go_wp2
     refine bodyPost_ret (v:=.tuple #[.agg zero11,.int .i64 0,.int .i64 142]) (by simp [results,Tryz.results18,go_sem,u1,d0,d1,d2,d3,d4,d5,d6,d7,d8,d9,d10]) rfl ?_
     rw [HE.out]
     have hT:=fun v0 v1 v2 v3 v4 v5 v6 v7 v8 v9 v10=>touch11 (w1:=w2) (g:=w.heap.size) v0 v1 v2 v3 v4 v5 v6 v7 v8 v9 v10
     exact ⟨rfl,a8.out.keep (hT _ _ _ _ _ _ _ _ _ _ _) fun k _ hk e=>by rw [At] at e;have:=hk.2;omega,touch_new am.out (hT _ _ _ _ _ _ _ _ _ _ _) (Nat.le_refl _)⟩
   case pos=>
   obtain ⟨k,aC⟩:∃ k,k=(nz t).length:=⟨_,rfl⟩
   have a4:idx t=(k:Int):=by unfold idx;rw [if_pos hk,aC]
   rw [a4] at ag
   have bf:k+1<M:=by have:=az.out;omega
   by_cases ah:k=0
   case pos=>
    have HE:Hid (R=.error 4):=Hi (by rw [a1.out,fetchT,if_pos hk,if_pos (by omega)])
    clear hk ab a1 a4 aC
    subst ah
    go_wp2_with fail
    clear al
    refine ag.out.mono ?_
    rintro e w3 ⟨rfl,rfl⟩
    go_wp2
    refine bodyPost_ret (v:=.tuple #[.agg zero11,.int .i64 0,.int .i64 4]) (by simp [results,Tryz.results18,go_sem,u1,d0,d1,d2,d3,d4,d5,d6,d7,d8,d9,d10]) rfl ?_
    rw [HE.out]
    have hT:=fun v0 v1 v2 v3 v4 v5 v6 v7 v8 v9 v10=>touch11 (w1:=w2) (g:=w.heap.size) v0 v1 v2 v3 v4 v5 v6 v7 v8 v9 v10
    exact ⟨rfl,a8.out.keep (hT _ _ _ _ _ _ _ _ _ _ _) fun k _ hk e=>by rw [At] at e;have:=hk.2;omega,touch_new am.out (hT _ _ _ _ _ _ _ _ _ _ _) (Nat.le_refl _)⟩
   case neg=>
   have aE:Hid (R=fetchF (decF (nz t)) ((n:Int)+(k:Int)+2)):=Hi (by rw [a1.out,fetchT,if_pos hk,if_neg (by omega),← aC])
   obtain ⟨m,hm⟩:∃ m,m=k+1:=⟨_,rfl⟩
   have b4:(nz t).length=m-1:=by omega
   obtain ⟨aT,b1⟩:=b8.out w2 am.out
   have an:=decode_calls Z (cb-1) (nz t) w2 (by rw [← nz_take t];exact HZ.out.take _) (by omega) (by omega) aT b1
   rw [← aC] at an
   have bd:IntKind.i64.wrap ((k:Int)+1)=(m:Int):=by rw [IntWalk.i64_in _ (by omega)];omega
   have bh:IntKind.i64.wrap ((n:Int)+(k:Int))=(n:Int)+(k:Int):=IntWalk.i64_in _ (by omega)
   have bo:IntKind.i64.wrap ((n:Int)+(k:Int)+2)=(n:Int)+(k:Int)+2:=IntWalk.i64_in _ (by omega)
   have bc:1≤m:=by omega
   have bi:m≤M:=by omega
   have bm:m≤cb:=by omega
   have au:=Hi an
   have bq:¬(k:Int)<0:=by omega
   have bl:¬(k:Int)=0:=by omega
   have ak:¬cb=1:=by omega
   obtain rfl:Z=some ⟨ad.block,ad.off+1,none⟩:=by rw [← al,if_neg ak]
   clear hk ab a1 a4 aC b4 an aT b1 al
   go_wp2_with fail
   refine ag.out.mono ?_
   rintro e w3 ⟨rfl,rfl⟩
   go_wp2_with fail
   refine au.out.mono ?_
   intro e w3 a5
   clear au ag a7 d0 d1 d2 d3 d4 d5 d6 d7 d8 d9 d10 y0 y1 y2 y3 y4 y5 y6 y7 y8 y9 y10 u1
   cases ao:decF (nz t) with
   | error er=>
     rw [ao] at a5
     obtain ⟨rfl,af⟩:e=.returned (.tuple #[.agg zero11,.int .i64 er])∧Keeps w2 w3:=a5
     have HE:Hid (R=.error er):=Hi (by rw [aE.out,ao];rfl)
     have qe:(er != 0)=true:=by simpa using decF_nz ao
     have ax:=Hi ((af.below.block _ (obj_lt ap.out)).trans ap.out)
     have aH:=Hi (am.out.below af.below)
     have aq:=Hi (a8.out.below af.below)
     clear af ao aE
     obtain ⟨⟨d0,d1,d2,d3,d4,d5,d6,d7,d8,d9,d10⟩,y0,y1,y2,y3,y4,y5,y6,y7,y8,y9,y10⟩:=cells11 (x0:=.int .i64 0) (x1:=.int .i64 0) (x2:=.slice none 0 0) (x3:=.int .i64 0) (x4:=.int .i64 0) (x5:=.int .i64 0) (x6:=.slice none 0 0) (x7:=.int .i64 0) (x8:=.int .i64 0) (x9:=.int .i64 0) (x10:=.slice none 0 0) ax.out
     have u1:=obj_lt ax.out
     go_wp2
     refine bodyPost_ret (v:=.tuple #[.agg zero11,.int .i64 0,.int .i64 er]) (by simp [results,Tryz.results18,go_sem,u1,d0,d1,d2,d3,d4,d5,d6,d7,d8,d9,d10]) rfl ?_
     rw [HE.out]
     have hT:=fun v0 v1 v2 v3 v4 v5 v6 v7 v8 v9 v10 c=>(touch11 (w1:=w3) (g:=w.heap.size) v0 v1 v2 v3 v4 v5 v6 v7 v8 v9 v10).alloc c
     exact ⟨rfl,aq.out.keep (hT _ _ _ _ _ _ _ _ _ _ _ _) fun k _ hk e=>by rw [At] at e;have:=hk.2;omega,touch_new aH.out (hT _ _ _ _ _ _ _ _ _ _ _ _) (Nat.le_refl _)⟩
   | ok f=>
     rw [ao] at a5
     obtain ⟨A3,c3,B3,d3',E3,k3,rfl,aX,af⟩:∃ A3 c3 B3 d3' E3 k3,_∧_∧_:=a5
     have HE:Hid (R=.ok (f,(n:Int)+(k:Int)+2)):=Hi (by rw [aE.out,ao];rfl)
     have ax:=Hi ((af.below.block _ (obj_lt ap.out)).trans ap.out)
     have aH:=Hi (am.out.below af.below)
     have aq:=Hi (a8.out.below af.below)
     have HF:=Hi aX
     have HU:=Hi (obj_lt ap.out)
     obtain ⟨n1,ay⟩:∃ n1,n1=f.cols.length:=⟨_,rfl⟩
     obtain ⟨n2,aQ⟩:∃ n2,n2=f.block.length:=⟨_,rfl⟩
     obtain ⟨n3,aO⟩:∃ n3,n3=f.ents.length:=⟨_,rfl⟩
     have aL:frCells A3 c3 B3 d3' E3 k3 f=#[.int .i64 f.kind,.int .i64 f.number,.slice A3 n1 c3,.int .i64 f.seq,.int .i64 f.first,.int .i64 f.rows,.slice B3 n2 d3',.int .i64 f.spot,.int .i64 f.frames,.int .i64 f.irows,.slice E3 n3 k3]:=by rw [ay,aQ,aO];rfl
     rw [aL]
     have b3:=Hi aL
     clear aL ay aQ aO af aX ao aE
     obtain ⟨⟨d0,d1,d2,d3,d4,d5,d6,d7,d8,d9,d10⟩,y0,y1,y2,y3,y4,y5,y6,y7,y8,y9,y10⟩:=cells11 (x0:=.int .i64 0) (x1:=.int .i64 0) (x2:=.slice none 0 0) (x3:=.int .i64 0) (x4:=.int .i64 0) (x5:=.int .i64 0) (x6:=.slice none 0 0) (x7:=.int .i64 0) (x8:=.int .i64 0) (x9:=.int .i64 0) (x10:=.slice none 0 0) ax.out
     have u1:=obj_lt ax.out
     go_wp2
     refine bodyPost_ret (v:=.tuple #[.agg #[.int .i64 f.kind,.int .i64 f.number,.slice A3 n1 c3,.int .i64 f.seq,.int .i64 f.first,.int .i64 f.rows,.slice B3 n2 d3',.int .i64 f.spot,.int .i64 f.frames,.int .i64 f.irows,.slice E3 n3 k3],.int .i64 ((n:Int)+(k:Int)+2),.int .i64 0]) (by simp [results,Tryz.results18,go_sem,u1,d0,d1,d2,d3,d4,d5,d6,d7,d8,d9,d10]) rfl ?_
     rw [HE.out]
     have hT:=fun v0 v1 v2 v3 v4 v5 v6 v7 v8 v9 v10 c=>(touch11 (w1:=w3) (g:=w.heap.size) v0 v1 v2 v3 v4 v5 v6 v7 v8 v9 v10).alloc c
     refine ⟨⟨A3,c3,B3,d3',E3,k3,by rw [b3.out],(HF.out.touch (hT _ _ _ _ _ _ _ _ _ _ _ _) HU.out).lower (Nat.le_of_lt HU.out)⟩,aq.out.keep (hT _ _ _ _ _ _ _ _ _ _ _ _) fun k _ hk e=>by rw [At] at e;have:=hk.2;omega,touch_new aH.out (hT _ _ _ _ _ _ _ _ _ _ _ _) (Nat.le_refl _)⟩
end Go.Proofs.YtihodcnnappkbaaGreatDoor
