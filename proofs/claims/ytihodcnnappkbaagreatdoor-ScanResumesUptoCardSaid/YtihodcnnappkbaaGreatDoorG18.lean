/-
  What a frame's reading tells and how a file stands behind it: plain. No condition. The walk of laid: two files with the same bytes. Condition: the bytes read, at most 2097152. The walk of scan.At. Condition: the file stands for its plain machine; the tables are as laid, whatever is done in the file's blocks.
-/
import Derived.Test.YtihodcnnappkbaaGreatDoorG14
import Derived.Test.YtihodcnnappkbaaGreatDoorG11
import Derived.Test.YtihodcnnappkbaaGreatDoorG13
import Derived.Test.YtihodcnnappkbaaGreatDoorG15
import Derived.Test.YtihodcnnappkbaaGreatDoorG12
set_option linter.unusedVariables false
set_option linter.unusedSimpArgs false
set_option maxHeartbeats 4000000
set_option maxRecDepth 40000
namespace Go.Proofs.YtihodcnnappkbaaGreatDoor
section
open Go.RowKit Go.BigFrame
theorem fetchD_facts (d:Dv) (a:Int):(fetchD d a).b=d.b∧(fetchD d a).down=d.down∧d.counted≤(fetchD d a).counted∧(fetchD d a).counted≤d.counted+2202∧(d.Ok→(fetchD d a).Ok):=by
 unfold fetchD
 split
 · exact ⟨rfl,rfl,Nat.le_refl _,by omega,fun h=>h⟩
 · unfold Dv.read
   split
   · exact ⟨rfl,rfl,Nat.le_refl _,by omega,fun h=>h⟩
   · refine ⟨rfl,rfl,by simp only;omega, ?_,fun h=>⟨h.synced,h.size,h.quota,h.fits⟩⟩
     simp only [List.length_take]
     omega
theorem fresh_dv (w:World) (q:Nat):DV (w.alloc (freshDev (q:Int))) (At w.heap.size) w.heap.size (Dv.fresh q):=
 ⟨.slice none 0 0,.pointer none,.nilFunc,⟨obj_new _ _,OwnL.empty _ _ _ _,rfl⟩,rfl,fun k hk=>by simp [blk] at hk,fun k hk=>by simp [bpBlock] at hk,rfl⟩
end
section
open Go.RowKit Go.BigFrame
attribute [local go_sem] run_storeF
theorem scanAt_calls (g:Nat) (S:Nat→Prop) (d:Dv) (a:Int) (w:World) (b1:DV w S g d) (aG:d.Ok) (b6:d.counted≤9223372036852678655) (ao:∀ w',Touch S w w'→Tabs w'∧Table w') :
 Calls Tryz.prog 18 #[.pointer (some ⟨g,0,none⟩),.int .i64 a] w fun e w'=>FetchPost w (fetch d a) e w'∧DV w' S g (fetchD d a)∧Touch S w w':=by
 suffices hs:Calls Tryz.prog 18 #[.pointer (some ⟨g,0,none⟩),.int .i64 a] w fun e w'=>FetchPost w (fetch d a) e w'∧DV w' (fun k=>S k∧k<w.heap.size) g (fetchD d a)∧Touch (fun k=>S k∧k<w.heap.size) w w' from
  hs.mono fun e w' ⟨h1,h2,h3⟩=>⟨h1,h2.mono fun _ _ h=>h.1,h3.mono fun _ _ h=>h.1⟩
 have hd:=b1.here
 have ao:∀ w',Touch (fun k=>S k∧k<w.heap.size) w w'→Tabs w'∧Table w':=fun w' h=>ao w' (h.mono fun _ _ h=>h.1)
 clear b1
 obtain ⟨T,bg⟩:∃ T:Nat→Prop,T=fun k=>S k∧k<w.heap.size:=⟨_,rfl⟩
 obtain ⟨W,hW⟩:∃ W,W=w.alloc (.cells zero11 36):=⟨_,rfl⟩
 have ah:Keeps w W:=by rw [hW];exact (Keeps.refl w).alloc _
 have aC:W.heap[w.heap.size]? = some (.cells zero11 36):=by rw [hW];exact obj_new w _
 have aE:=hd.below ah.below
 have aW:Touch (fun k=>S k∧k<w.heap.size) w W:=(Touch.refl _ w).below ah.below
 have bp:=aG.size
 have au:=devLen_calls g _ d W aE
 have aR:=devUp_calls g _ d W aE
 have av:=Hi aE
 have aw:=Hi aW
 have a3:=Hi aC
 have a9:=Hi au
 have ab:=Hi aR
 obtain ⟨R,hR⟩:∃ R,R=fetch d a:=⟨_,rfl⟩
 obtain ⟨D,hD⟩:∃ D,D=fetchD d a:=⟨_,rfl⟩
 rw [← hR,← hD]
 unfold fetch at hR
 clear aE aW aC au aR hd
 cases a0:d.down with
 | true=>
   rw [a0] at hR
   have HE:Hid (R=.error 50):=Hi (by rw [hR];rfl)
   have HD:Hid (D=d):=Hi (by rw [hD,fetchD_same (.inl a0)])
   rw [a0] at ab
   clear hR hD ao ah a0
   generalize d.b.length=L at *
   go_enter Tryz.func18,Tryz.ntmps18
   go_wp2_with fail
   rw [← hW]
   clear hW
   refine a9.out.mono ?_
   rintro e w1 ⟨rfl,rfl⟩
   go_wp2_with fail
   refine ab.out.mono ?_
   rintro e w1 ⟨rfl,rfl⟩
   obtain ⟨⟨d0,d1,d2,d3,d4,d5,d6,d7,d8,d9,d10⟩,y0,y1,y2,y3,y4,y5,y6,y7,y8,y9,y10⟩:=cells11 (x0:=.int .i64 0) (x1:=.int .i64 0) (x2:=.slice none 0 0) (x3:=.int .i64 0) (x4:=.int .i64 0) (x5:=.int .i64 0) (x6:=.slice none 0 0) (x7:=.int .i64 0) (x8:=.int .i64 0) (x9:=.int .i64 0) (x10:=.slice none 0 0) a3.out
   have u1:=obj_lt a3.out
   go_wp2
   refine bodyPost_ret (v:=.tuple #[.agg zero11,.int .i64 0,.int .i64 50]) (by simp [results,Tryz.results18,go_sem,u1,d0,d1,d2,d3,d4,d5,d6,d7,d8,d9,d10]) rfl ?_
   rw [HE.out,HD.out]
   have hT:=fun v0 v1 v2 v3 v4 v5 v6 v7 v8 v9 v10=>touch11 (w1:=W) (g:=w.heap.size) v0 v1 v2 v3 v4 v5 v6 v7 v8 v9 v10
   exact ⟨rfl,av.out.keep (hT _ _ _ _ _ _ _ _ _ _ _) fun k _ hk e=>by rw [At] at e;have:=hk.2;omega,touch_new aw.out (hT _ _ _ _ _ _ _ _ _ _ _) (Nat.le_refl _)⟩
 | false=>
   rw [a0] at hR
   simp only [Bool.false_eq_true,if_false] at hR
   by_cases ac:a<0∨(d.b.length:Int)<a
   case pos=>
    rw [if_pos ac] at hR
    have HE:Hid (R=.error 7):=Hi hR
    have HD:Hid (D=d):=Hi (by rw [hD,fetchD_same (by omega)])
    rw [a0] at ab
    clear hR hD ao ah a0
    generalize d.b.length=L at *
    by_cases h0:a<0
    all_goals
     go_enter Tryz.func18,Tryz.ntmps18
     go_wp2_with fail
     rw [← hW]
     clear hW
     refine a9.out.mono ?_
     rintro e w1 ⟨rfl,rfl⟩
     go_wp2_with fail
     refine ab.out.mono ?_
     rintro e w1 ⟨rfl,rfl⟩
     have hL:a<0∨(L:Int)<a:=ac
     try have bm:(L:Int)<a:=by omega
     obtain ⟨⟨d0,d1,d2,d3,d4,d5,d6,d7,d8,d9,d10⟩,y0,y1,y2,y3,y4,y5,y6,y7,y8,y9,y10⟩:=cells11 (x0:=.int .i64 0) (x1:=.int .i64 0) (x2:=.slice none 0 0) (x3:=.int .i64 0) (x4:=.int .i64 0) (x5:=.int .i64 0) (x6:=.slice none 0 0) (x7:=.int .i64 0) (x8:=.int .i64 0) (x9:=.int .i64 0) (x10:=.slice none 0 0) a3.out
     have u1:=obj_lt a3.out
     go_wp2
     refine bodyPost_ret (v:=.tuple #[.agg zero11,.int .i64 0,.int .i64 7]) (by simp [results,Tryz.results18,go_sem,u1,d0,d1,d2,d3,d4,d5,d6,d7,d8,d9,d10]) rfl ?_
     rw [HE.out,HD.out]
     have hT:=fun v0 v1 v2 v3 v4 v5 v6 v7 v8 v9 v10=>touch11 (w1:=W) (g:=w.heap.size) v0 v1 v2 v3 v4 v5 v6 v7 v8 v9 v10
     exact ⟨rfl,av.out.keep (hT _ _ _ _ _ _ _ _ _ _ _) fun k _ hk e=>by rw [At] at e;have:=hk.2;omega,touch_new aw.out (hT _ _ _ _ _ _ _ _ _ _ _) (Nat.le_refl _)⟩
   case neg=>
   rw [if_neg ac] at hR
   by_cases ag:a=(d.b.length:Int)
   case pos=>
    rw [if_pos ag] at hR
    have HE:Hid (R=.error 140):=Hi hR
    have HD:Hid (D=d):=Hi (by rw [hD,fetchD_same (by omega)])
    rw [a0] at ab
    clear hR hD ao ah a0
    generalize d.b.length=L at *
    subst ag
    go_enter Tryz.func18,Tryz.ntmps18
    go_wp2_with fail
    rw [← hW]
    clear hW
    refine a9.out.mono ?_
    rintro e w1 ⟨rfl,rfl⟩
    go_wp2_with fail
    refine ab.out.mono ?_
    rintro e w1 ⟨rfl,rfl⟩
    obtain ⟨⟨d0,d1,d2,d3,d4,d5,d6,d7,d8,d9,d10⟩,y0,y1,y2,y3,y4,y5,y6,y7,y8,y9,y10⟩:=cells11 (x0:=.int .i64 0) (x1:=.int .i64 0) (x2:=.slice none 0 0) (x3:=.int .i64 0) (x4:=.int .i64 0) (x5:=.int .i64 0) (x6:=.slice none 0 0) (x7:=.int .i64 0) (x8:=.int .i64 0) (x9:=.int .i64 0) (x10:=.slice none 0 0) a3.out
    have u1:=obj_lt a3.out
    go_wp2
    refine bodyPost_ret (v:=.tuple #[.agg zero11,.int .i64 0,.int .i64 140]) (by simp [results,Tryz.results18,go_sem,u1,d0,d1,d2,d3,d4,d5,d6,d7,d8,d9,d10]) rfl ?_
    rw [HE.out,HD.out]
    have hT:=fun v0 v1 v2 v3 v4 v5 v6 v7 v8 v9 v10=>touch11 (w1:=W) (g:=w.heap.size) v0 v1 v2 v3 v4 v5 v6 v7 v8 v9 v10
    exact ⟨rfl,av.out.keep (hT _ _ _ _ _ _ _ _ _ _ _) fun k _ hk e=>by rw [At] at e;have:=hk.2;omega,touch_new aw.out (hT _ _ _ _ _ _ _ _ _ _ _) (Nat.le_refl _)⟩
   case neg=>
   rw [if_neg ag] at hR
   obtain ⟨n,rfl⟩:=Int.eq_ofNat_of_zero_le (show 0≤a by omega)
   have bo:n<d.b.length:=by omega
   have aQ:d.read (n:Int) 2202=({ d with counted:=d.counted+((d.b.drop n).take 2202).length },(d.b.drop n).take 2202,0):=by
    unfold Dv.read
    rw [if_neg (by omega)]
    rfl
   have b2:D=(d.read (n:Int) 2202).1:=by rw [hD,fetchD_read a0 (by omega) (by omega)]
   have a2:=devRead_calls g _ d (n:Int) 2202 W av.out aG b6 (by omega)
   rw [← b2,aQ] at a2
   simp only [Int.toNat_natCast] at hR
   obtain ⟨b,hb⟩:∃ b,b=(d.b.drop n).take 2202:=⟨_,rfl⟩
   have aD:b.length=min 2202 (d.b.length-n):=by rw [hb,List.length_take,List.length_drop]
   rw [← hb] at hR a2
   simp only at a2
   obtain ⟨x,t,rfl⟩:∃ x t,b=x :: t:=by
    cases hq:b with
    | nil=>rw [hq] at aD;simp at aD;omega
    | cons x t=>exact ⟨x,t,rfl⟩
   have b9:t.length≤2201:=by rw [List.length_cons] at aD;omega
   rw [fetchB] at hR
   have ai:=Hi a2
   have HR:=Hi hR
   have b5:=Hi ao
   rw [a0] at ab
   have q1:¬(n:Int)<0:=by omega
   have q2:¬(d.b.length:Int)<(n:Int):=by omega
   clear a2 hR hD b2 aQ hb aD a0 ao ah ac aG
   generalize d.b.length=L at *
   have q3:¬(n:Int)=(L:Int):=ag
   go_enter Tryz.func18,Tryz.ntmps18
   go_wp2_with fail
   rw [← hW]
   clear hW
   refine a9.out.mono ?_
   rintro e w1 ⟨rfl,rfl⟩
   go_wp2_with fail
   refine ab.out.mono ?_
   rintro e w1 ⟨rfl,rfl⟩
   go_wp2_with fail
   refine ai.out.mono ?_
   rintro e w2 ⟨v2,rfl,b0,aO,aH⟩
   obtain ⟨B,cb,rfl,aM,aK,bk,_⟩:=b0.form
   have aS:w2.heap[w.heap.size]? = some (.cells zero11 36):=aH.obj a3.out (fun h=>by have:=h.2;omega)
   have ar:Touch (fun k=>S k∧k<w.heap.size) w w2:=aw.out.then aH
   obtain ⟨ad,rfl,a7⟩:=aK.out 0 (by simp)
   rw [List.getElem_cons_zero,addr_add_zero] at a7
   have al:=Hi aS
   have aj:=Hi ar
   have a8:=Hi aO
   have b4:=Hi aK
   clear aS ar aO aH b0 aK ai a9 ab a3 aw av
   rw [List.length_cons] at aM ⊢
   obtain ⟨M,hM⟩:∃ M,M=t.length+1:=⟨_,rfl⟩
   rw [← hM] at aM ⊢
   have aU:t.length=M-1:=by omega
   have be:0<M:=by omega
   have bn:M≤2202:=by omega
   have az:=Hi aU
   clear hM aU b9
   obtain ⟨⟨d0,d1,d2,d3,d4,d5,d6,d7,d8,d9,d10⟩,y0,y1,y2,y3,y4,y5,y6,y7,y8,y9,y10⟩:=cells11 (x0:=.int .i64 0) (x1:=.int .i64 0) (x2:=.slice none 0 0) (x3:=.int .i64 0) (x4:=.int .i64 0) (x5:=.int .i64 0) (x6:=.slice none 0 0) (x7:=.int .i64 0) (x8:=.int .i64 0) (x9:=.int .i64 0) (x10:=.slice none 0 0) al.out
   have u1:=obj_lt al.out
   have aY:x.toNat<256:=x.toNat_lt
   by_cases hx:x=0
   case neg=>
    have HE:Hid (R=.error 141):=Hi (by rw [HR.out,if_pos hx])
    have qx:(((x.toNat:Nat):Int) != 0)=true:=by rw [bne_iff_ne];intro e;exact hx (UInt8.toNat_inj.1 (by show x.toNat=0;omega))
    clear hx HR
    go_wp2
    refine bodyPost_ret (v:=.tuple #[.agg zero11,.int .i64 0,.int .i64 141]) (by simp [results,Tryz.results18,go_sem,u1,d0,d1,d2,d3,d4,d5,d6,d7,d8,d9,d10]) rfl ?_
    rw [HE.out]
    have hT:=fun v0 v1 v2 v3 v4 v5 v6 v7 v8 v9 v10=>touch11 (w1:=w2) (g:=w.heap.size) v0 v1 v2 v3 v4 v5 v6 v7 v8 v9 v10
    exact ⟨rfl,a8.out.keep (hT _ _ _ _ _ _ _ _ _ _ _) fun k _ hk e=>by rw [At] at e;have:=hk.2;omega,touch_new aj.out (hT _ _ _ _ _ _ _ _ _ _ _) (Nat.le_refl _)⟩
   case pos=>
   subst hx
   have a1:Hid (R=fetchT t n):=Hi (by rw [HR.out,if_neg (by simp)])
   clear HR
   have a7:w2.cell? ad=some (.int .u8 0):=a7
   obtain ⟨Z,an⟩:∃ Z,(if cb=1 then some ad else some ⟨ad.block,ad.off+1,none⟩)=Z:=⟨_,rfl⟩
   have hz:Reads w2 Z t:=by
    have h:=b4.out.drop_any 1 Z fun b7 ad' e=>by
     rw [← an,if_neg (by rw [List.length_cons] at b7;have:=az.out;omega)]
     cases e
     rw [addr_add_pos ad 1 (by omega)]
    simpa using h
   have aL:=idx_calls Z (cb-1) t w2 hz
   rw [az.out] at aL
   have ae:=Hi aL
   have HZ:=Hi hz
   clear aL hz
   have af:=nz_le t
   by_cases hk:(nz t).length<t.length
   case neg=>
    have a4:idx t = -1:=by unfold idx;rw [if_neg hk]
    rw [a4] at ae
    by_cases a6:t.length=2201
    case pos=>
     have HE:Hid (R=.error 2):=Hi (by rw [a1.out,fetchT,if_neg hk,if_pos a6])
     have aP:M=2202:=by have:=az.out;omega
     have ak:¬cb=1:=by omega
     obtain rfl:Z=some ⟨ad.block,ad.off+1,none⟩:=by rw [← an,if_neg ak]
     clear hk af a6 a1 a4 an
     subst aP
     have ae:Hid (Calls Tryz.prog 61 #[.slice (some ⟨ad.block,ad.off+1,none⟩) 2201 (cb-1),.int .u8 0] w2 fun e w'=>e=.returned (.int .i64 (-1))∧w2=w'):=ae
     go_wp2_with fail
     refine ae.out.mono ?_
     rintro e w3 ⟨rfl,rfl⟩
     go_wp2
     refine bodyPost_ret (v:=.tuple #[.agg zero11,.int .i64 0,.int .i64 2]) (by simp [results,Tryz.results18,go_sem,u1,d0,d1,d2,d3,d4,d5,d6,d7,d8,d9,d10]) rfl ?_
     rw [HE.out]
     have hT:=fun v0 v1 v2 v3 v4 v5 v6 v7 v8 v9 v10=>touch11 (w1:=w2) (g:=w.heap.size) v0 v1 v2 v3 v4 v5 v6 v7 v8 v9 v10
     exact ⟨rfl,a8.out.keep (hT _ _ _ _ _ _ _ _ _ _ _) fun k _ hk e=>by rw [At] at e;have:=hk.2;omega,touch_new aj.out (hT _ _ _ _ _ _ _ _ _ _ _) (Nat.le_refl _)⟩
    case neg=>
     have HE:Hid (R=.error 142):=Hi (by rw [a1.out,fetchT,if_neg hk,if_neg a6])
     have aP:¬M=2202:=by have:=az.out;omega
     have bl:¬(M:Int)=2202:=by omega
     clear hk af a6 a1 a4
     go_wp2_with fail
     clear an
     refine ae.out.mono ?_
     rintro e w3 ⟨rfl,rfl⟩
     go_wp2
     refine bodyPost_ret (v:=.tuple #[.agg zero11,.int .i64 0,.int .i64 142]) (by simp [results,Tryz.results18,go_sem,u1,d0,d1,d2,d3,d4,d5,d6,d7,d8,d9,d10]) rfl ?_
     rw [HE.out]
     have hT:=fun v0 v1 v2 v3 v4 v5 v6 v7 v8 v9 v10=>touch11 (w1:=w2) (g:=w.heap.size) v0 v1 v2 v3 v4 v5 v6 v7 v8 v9 v10
     exact ⟨rfl,a8.out.keep (hT _ _ _ _ _ _ _ _ _ _ _) fun k _ hk e=>by rw [At] at e;have:=hk.2;omega,touch_new aj.out (hT _ _ _ _ _ _ _ _ _ _ _) (Nat.le_refl _)⟩
   case pos=>
   obtain ⟨k,ax⟩:∃ k,k=(nz t).length:=⟨_,rfl⟩
   have a4:idx t=(k:Int):=by unfold idx;rw [if_pos hk,ax]
   rw [a4] at ae
   have bc:k+1<M:=by have:=az.out;omega
   by_cases ah:k=0
   case pos=>
    have HE:Hid (R=.error 4):=Hi (by rw [a1.out,fetchT,if_pos hk,if_pos (by omega)])
    clear hk af a1 a4 ax
    subst ah
    go_wp2_with fail
    clear an
    refine ae.out.mono ?_
    rintro e w3 ⟨rfl,rfl⟩
    go_wp2
    refine bodyPost_ret (v:=.tuple #[.agg zero11,.int .i64 0,.int .i64 4]) (by simp [results,Tryz.results18,go_sem,u1,d0,d1,d2,d3,d4,d5,d6,d7,d8,d9,d10]) rfl ?_
    rw [HE.out]
    have hT:=fun v0 v1 v2 v3 v4 v5 v6 v7 v8 v9 v10=>touch11 (w1:=w2) (g:=w.heap.size) v0 v1 v2 v3 v4 v5 v6 v7 v8 v9 v10
    exact ⟨rfl,a8.out.keep (hT _ _ _ _ _ _ _ _ _ _ _) fun k _ hk e=>by rw [At] at e;have:=hk.2;omega,touch_new aj.out (hT _ _ _ _ _ _ _ _ _ _ _) (Nat.le_refl _)⟩
   case neg=>
   have aF:Hid (R=fetchF (decF (nz t)) ((n:Int)+(k:Int)+2)):=Hi (by rw [a1.out,fetchT,if_pos hk,if_neg (by omega),← ax])
   obtain ⟨m,hm⟩:∃ m,m=k+1:=⟨_,rfl⟩
   have b3:(nz t).length=m-1:=by omega
   obtain ⟨aV,aT⟩:=b5.out w2 aj.out
   have aq:=decode_calls Z (cb-1) (nz t) w2 (by rw [← nz_take t];exact HZ.out.take _) (by omega) (by omega) aV aT
   rw [← ax] at aq
   have bf:IntKind.i64.wrap ((k:Int)+1)=(m:Int):=by rw [IntWalk.i64_in _ (by omega)];omega
   have bq:IntKind.i64.wrap ((n:Int)+(k:Int))=(n:Int)+(k:Int):=IntWalk.i64_in _ (by omega)
   have bi:IntKind.i64.wrap ((n:Int)+(k:Int)+2)=(n:Int)+(k:Int)+2:=IntWalk.i64_in _ (by omega)
   have ba:1≤m:=by omega
   have bh:m≤M:=by omega
   have bd:m≤cb:=by omega
   have aB:=Hi aq
   have bb:¬(k:Int)<0:=by omega
   have bj:¬(k:Int)=0:=by omega
   have ak:¬cb=1:=by omega
   obtain rfl:Z=some ⟨ad.block,ad.off+1,none⟩:=by rw [← an,if_neg ak]
   clear hk af a1 a4 ax b3 aq aV aT an
   go_wp2_with fail
   refine ae.out.mono ?_
   rintro e w3 ⟨rfl,rfl⟩
   go_wp2_with fail
   refine aB.out.mono ?_
   intro e w3 a5
   clear aB ae a7 d0 d1 d2 d3 d4 d5 d6 d7 d8 d9 d10 y0 y1 y2 y3 y4 y5 y6 y7 y8 y9 y10 u1
   cases am:decF (nz t) with
   | error er=>
     rw [am] at a5
     obtain ⟨rfl,aa⟩:e=.returned (.tuple #[.agg zero11,.int .i64 er])∧Keeps w2 w3:=a5
     have HE:Hid (R=.error er):=Hi (by rw [aF.out,am];rfl)
     have qe:(er != 0)=true:=by simpa using decF_nz am
     have ay:=Hi ((aa.below.block _ (obj_lt al.out)).trans al.out)
     have aI:=Hi (aj.out.below aa.below)
     have ap:=Hi (a8.out.below aa.below)
     clear aa am aF
     obtain ⟨⟨d0,d1,d2,d3,d4,d5,d6,d7,d8,d9,d10⟩,y0,y1,y2,y3,y4,y5,y6,y7,y8,y9,y10⟩:=cells11 (x0:=.int .i64 0) (x1:=.int .i64 0) (x2:=.slice none 0 0) (x3:=.int .i64 0) (x4:=.int .i64 0) (x5:=.int .i64 0) (x6:=.slice none 0 0) (x7:=.int .i64 0) (x8:=.int .i64 0) (x9:=.int .i64 0) (x10:=.slice none 0 0) ay.out
     have u1:=obj_lt ay.out
     go_wp2
     refine bodyPost_ret (v:=.tuple #[.agg zero11,.int .i64 0,.int .i64 er]) (by simp [results,Tryz.results18,go_sem,u1,d0,d1,d2,d3,d4,d5,d6,d7,d8,d9,d10]) rfl ?_
     rw [HE.out]
     have hT:=fun v0 v1 v2 v3 v4 v5 v6 v7 v8 v9 v10 c=>(touch11 (w1:=w3) (g:=w.heap.size) v0 v1 v2 v3 v4 v5 v6 v7 v8 v9 v10).alloc c
     exact ⟨rfl,ap.out.keep (hT _ _ _ _ _ _ _ _ _ _ _ _) fun k _ hk e=>by rw [At] at e;have:=hk.2;omega,touch_new aI.out (hT _ _ _ _ _ _ _ _ _ _ _ _) (Nat.le_refl _)⟩
   | ok f=>
     rw [am] at a5
     obtain ⟨A3,c3,B3,d3',E3,k3,rfl,aX,aa⟩:∃ A3 c3 B3 d3' E3 k3,_∧_∧_:=a5
     have HE:Hid (R=.ok (f,(n:Int)+(k:Int)+2)):=Hi (by rw [aF.out,am];rfl)
     have ay:=Hi ((aa.below.block _ (obj_lt al.out)).trans al.out)
     have aI:=Hi (aj.out.below aa.below)
     have ap:=Hi (a8.out.below aa.below)
     have HF:=Hi aX
     have HU:=Hi (obj_lt al.out)
     obtain ⟨n1,aA⟩:∃ n1,n1=f.cols.length:=⟨_,rfl⟩
     obtain ⟨n2,aN⟩:∃ n2,n2=f.block.length:=⟨_,rfl⟩
     obtain ⟨n3,aZ⟩:∃ n3,n3=f.ents.length:=⟨_,rfl⟩
     have aJ:frCells A3 c3 B3 d3' E3 k3 f=#[.int .i64 f.kind,.int .i64 f.number,.slice A3 n1 c3,.int .i64 f.seq,.int .i64 f.first,.int .i64 f.rows,.slice B3 n2 d3',.int .i64 f.spot,.int .i64 f.frames,.int .i64 f.irows,.slice E3 n3 k3]:=by rw [aA,aN,aZ];rfl
     rw [aJ]
     have b8:=Hi aJ
     clear aJ aA aN aZ aa aX am aF
     obtain ⟨⟨d0,d1,d2,d3,d4,d5,d6,d7,d8,d9,d10⟩,y0,y1,y2,y3,y4,y5,y6,y7,y8,y9,y10⟩:=cells11 (x0:=.int .i64 0) (x1:=.int .i64 0) (x2:=.slice none 0 0) (x3:=.int .i64 0) (x4:=.int .i64 0) (x5:=.int .i64 0) (x6:=.slice none 0 0) (x7:=.int .i64 0) (x8:=.int .i64 0) (x9:=.int .i64 0) (x10:=.slice none 0 0) ay.out
     have u1:=obj_lt ay.out
     go_wp2
     refine bodyPost_ret (v:=.tuple #[.agg #[.int .i64 f.kind,.int .i64 f.number,.slice A3 n1 c3,.int .i64 f.seq,.int .i64 f.first,.int .i64 f.rows,.slice B3 n2 d3',.int .i64 f.spot,.int .i64 f.frames,.int .i64 f.irows,.slice E3 n3 k3],.int .i64 ((n:Int)+(k:Int)+2),.int .i64 0]) (by simp [results,Tryz.results18,go_sem,u1,d0,d1,d2,d3,d4,d5,d6,d7,d8,d9,d10]) rfl ?_
     rw [HE.out]
     have hT:=fun v0 v1 v2 v3 v4 v5 v6 v7 v8 v9 v10 c=>(touch11 (w1:=w3) (g:=w.heap.size) v0 v1 v2 v3 v4 v5 v6 v7 v8 v9 v10).alloc c
     refine ⟨⟨A3,c3,B3,d3',E3,k3,by rw [b8.out],(HF.out.touch (hT _ _ _ _ _ _ _ _ _ _ _ _) HU.out).lower (Nat.le_of_lt HU.out)⟩,ap.out.keep (hT _ _ _ _ _ _ _ _ _ _ _ _) fun k _ hk e=>by rw [At] at e;have:=hk.2;omega,touch_new aI.out (hT _ _ _ _ _ _ _ _ _ _ _ _) (Nat.le_refl _)⟩
end
end Go.Proofs.YtihodcnnappkbaaGreatDoor
