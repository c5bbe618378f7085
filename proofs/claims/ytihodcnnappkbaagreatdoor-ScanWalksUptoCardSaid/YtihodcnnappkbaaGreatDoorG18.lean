/-
  What a frame's reading tells and how a file stands behind it: plain. No condition. A walk over a whole file: plain. No condition. The walk of laid: two files with the same bytes. Condition: the bytes read, at most 2097152. The walk of scan.At. Condition: the file stands for its plain machine; the tables are as laid, whatever is done in the file's blocks.
-/
import Derived.Test.YtihodcnnappkbaaGreatDoorG14
import Derived.Test.YtihodcnnappkbaaGreatDoorG11
import Derived.Test.YtihodcnnappkbaaGreatDoorG13
import Derived.Test.YtihodcnnappkbaaGreatDoorG15
import Derived.Test.YtihodcnnappkbaaGreatDoorG12
namespace Go.Proofs.YtihodcnnappkbaaGreatDoor
open Go.RowKit Go.BigFrame
set_option linter.unusedVariables false
set_option linter.unusedSimpArgs false
theorem fetch_dec {d:Dv} {a:Int} {f:Fr} {n:Int} (h:fetch d a=.ok (f,n)):∃ run,decF run=.ok f:=by
 have hF:∀ {r:Except Int Fr} {p:Int},fetchF r p=.ok (f,n)→r=.ok f:=fun {r p} h=>by
  cases r with
  | error x=>cases h
  | ok g=>
    simp only [fetchF,Except.ok.injEq,Prod.mk.injEq] at h
    rw [h.1]
 have hT:∀ {t:List UInt8},fetchT t a=.ok (f,n)→∃ run,decF run=.ok f:=fun {t} h=>by
  unfold fetchT at h
  split at h
  · split at h
    · cases h
    · exact ⟨_,hF h⟩
  · split at h
    · cases h
    · cases h
 unfold fetch at h
 split at h
 · cases h
 · split at h
   · cases h
   · split at h
     · cases h
     · unfold fetchB at h
       split at h
       · cases h
       · split at h
         · cases h
         · exact hT h
def outF (r:Except Int (Fr×Int)):Fr×Int×Int:=match r with | .error x=>(frZero,0,x) | .ok (f,n)=>(f,n,0)
theorem FetchPost.form {w w':World} {d:Dv} {a:Int} {e:Ending} (h:FetchPost w (fetch d a) e w') :
 ∃ A c B m E k,e=.returned (.tuple #[.agg (frCells A c B m E k (outF (fetch d a)).1),.int .i64 (outF (fetch d a)).2.1,.int .i64 (outF (fetch d a)).2.2])∧FrS w' (fun b=>w.heap.size≤b) A B E (outF (fetch d a)).1:=by
 cases hr:fetch d a with
 | error x=>
   rw [hr] at h
   exact ⟨none,0,none,0,none,0,h,FrS.none _ _ rfl rfl rfl _ _ _⟩
 | ok p=>
   obtain ⟨f,n⟩:=p
   obtain ⟨run,hd⟩:=fetch_dec hr
   rw [hr] at h
   obtain ⟨A,c,B,m,E,k,rfl,ho⟩:=h
   exact ⟨A,c,B,m,E,k,rfl,ho.toS (dec_len hd).1 (dec_len hd).2⟩
theorem fetchD_facts (d:Dv) (a:Int):(fetchD d a).b=d.b∧(fetchD d a).down=d.down∧d.counted≤(fetchD d a).counted∧(fetchD d a).counted≤d.counted+2202∧(d.Ok→(fetchD d a).Ok):=by
 unfold fetchD
 split
 · exact ⟨rfl,rfl,Nat.le_refl _,by omega,fun h=>h⟩
 · unfold Dv.read
   split
   · exact ⟨rfl,rfl,Nat.le_refl _,by omega,fun h=>h⟩
   · refine ⟨rfl,rfl,by simp only;omega,?_,fun h=>⟨h.synced,h.size,h.quota,h.fits⟩⟩
     simp only [List.length_take]
     omega
theorem fetch_ok {d:Dv} {a:Int} {f:Fr} {n:Int} (h:fetch d a=.ok (f,n)) :
 ∃ run:List UInt8,decF run=.ok f∧0≤a∧n=a+(run.length:Int)+2∧n≤(d.b.length:Int)∧(d.b.drop a.toNat).take (run.length+2)=0 :: (run++[0])∧d.down=false:=by
 unfold fetch at h
 cases hdn:d.down with
 | true=>rw [hdn] at h;simp at h
 | false=>
   rw [hdn] at h
   simp only [Bool.false_eq_true,if_false] at h
   split at h
   · cases h
   rename_i h1
   split at h
   · cases h
   rename_i h2
   generalize hq:(d.b.drop a.toNat).take 2202=q at h
   unfold fetchB at h
   cases q with
   | nil=>cases h
   | cons x t=>
     simp only at h
     split at h
     · cases h
     rename_i hx
     have hx0:x=0:=Classical.byContradiction hx
     subst hx0
     unfold fetchT at h
     split at h
     · rename_i hlt
       split at h
       · cases h
       · cases hde:decF (nz t) with
         | error e=>rw [hde] at h;cases h
         | ok g=>
           rw [hde] at h
           simp only [fetchF,Except.ok.injEq,Prod.mk.injEq] at h
           obtain ⟨rfl,rfl⟩:=h
           have hql:=congrArg List.length hq
           rw [List.length_take,List.length_drop,List.length_cons] at hql
           have ht:t.take ((nz t).length+1)=nz t++[0]:=by
            have h3:=nz_stop t hlt
            rw [List.getD_eq_getElem?_getD,List.getElem?_eq_getElem hlt] at h3
            simp only [Option.getD_some] at h3
            rw [List.take_succ_eq_append_getElem hlt,nz_take,h3]
           refine ⟨nz t,hde,by omega,rfl,by omega,?_,rfl⟩
           have h4:(d.b.drop a.toNat).take ((nz t).length+2)=((d.b.drop a.toNat).take 2202).take ((nz t).length+2):=by
            rw [List.take_take,Nat.min_eq_left (by omega)]
           rw [h4,hq,List.take_succ_cons,ht]
     · split at h
       · cases h
       · cases h
theorem next_or (k:Wk) (f:Fr) (a:Int):(k.next f a).2=0∨k.next f a=(k,143):=by
 unfold Wk.next
 split
 · exact .inr rfl
 · split
   · exact .inr rfl
   · split
     · exact .inl rfl
     · exact .inr rfl
def Takes (d:Dv):List (Fr×Int)→Wk→Int→Wk→Int→Prop
 | [],k,a,k',a'=>k=k'∧a=a'
 | (f,n) :: l,k,a,k',a'=>fetch d a=.ok (f,n)∧(k.next f a).2=0∧Takes d l (k.next f a).1 n k' a'
theorem Takes.snoc {d:Dv} {f:Fr} {n:Int}:∀ {l:List (Fr×Int)} {k k':Wk} {a a':Int},Takes d l k a k' a'→fetch d a'=.ok (f,n)→(k'.next f a').2=0→Takes d (l++[(f,n)]) k a (k'.next f a').1 n
 | [],k,k',a,a',⟨h1,h2⟩,hf,hn=>by subst h1 h2;exact ⟨hf,hn,rfl,rfl⟩
 | (g,m) :: l,k,k',a,a',⟨h1,h2,h3⟩,hf,hn=>⟨h1,h2,h3.snoc hf hn⟩
theorem Takes.grow {d:Dv}:∀ {l:List (Fr×Int)} {k k':Wk} {a a':Int},Takes d l k a k' a'→0≤a→a≤(d.b.length:Int)→a+2*(l.length:Int)≤a'∧a'≤(d.b.length:Int)
 | [],k,k',a,a',⟨h1,h2⟩,h0,hl=>by subst h2;simp;exact hl
 | (g,m) :: l,k,k',a,a',⟨h1,h2,h3⟩,h0,hl=>by
   obtain ⟨run,_,h4,h5,h6,_⟩:=fetch_ok h1
   have:=h3.grow (by omega) h6
   simp only [List.length_cons]
   omega
theorem Takes.ok {d:Dv}:∀ {l:List (Fr×Int)} {k k':Wk} {a a':Int},Takes d l k a k' a'→k.ok→k'.ok
 | [],k,k',a,a',⟨h1,_⟩,h=>by subst h1;exact h
 | (g,m) :: l,k,k',a,a',⟨h1,h2,h3⟩,h=>h3.ok (h.next g a)
theorem fresh_dv (w:World) (q:Nat):DV (w.alloc (freshDev (q:Int))) (At w.heap.size) w.heap.size (Dv.fresh q):=
 ⟨.slice none 0 0,.pointer none,.nilFunc,⟨obj_new _ _,OwnL.empty _ _ _ _,rfl⟩,rfl,fun k hk=>by simp [blk] at hk,fun k hk=>by simp [bpBlock] at hk,rfl⟩
end Go.Proofs.YtihodcnnappkbaaGreatDoor
namespace Go.Proofs.YtihodcnnappkbaaGreatDoor
open Go.RowKit Go.BigFrame
set_option linter.unusedVariables false
set_option linter.unusedSimpArgs false
attribute [local go_sem] run_storeF
set_option maxRecDepth 40000 in
set_option maxHeartbeats 4000000 in
theorem scanAt_calls (g:Nat) (S:Nat→Prop) (d:Dv) (a:Int) (w:World) (hd0:DV w S g d) (hok:d.Ok) (hct:d.counted≤9223372036852678655) (hTT:∀ w',Touch S w w'→Tabs w'∧Table w') :
 Calls Tryz.prog 18 #[.pointer (some ⟨g,0,none⟩),.int .i64 a] w fun e w'=>FetchPost w (fetch d a) e w'∧DV w' S g (fetchD d a)∧Touch S w w':=by
 suffices hs:Calls Tryz.prog 18 #[.pointer (some ⟨g,0,none⟩),.int .i64 a] w fun e w'=>FetchPost w (fetch d a) e w'∧DV w' (fun k=>S k∧k<w.heap.size) g (fetchD d a)∧Touch (fun k=>S k∧k<w.heap.size) w w' from
  hs.mono fun e w' ⟨h1,h2,h3⟩=>⟨h1,h2.mono fun _ _ h=>h.1,h3.mono fun _ _ h=>h.1⟩
 have hd:=hd0.here
 have hTT:∀ w',Touch (fun k=>S k∧k<w.heap.size) w w'→Tabs w'∧Table w':=fun w' h=>hTT w' (h.mono fun _ _ h=>h.1)
 clear hd0
 obtain ⟨T,hT0⟩:∃ T:Nat→Prop,T=fun k=>S k∧k<w.heap.size:=⟨_,rfl⟩
 obtain ⟨W,hW⟩:∃ W,W=w.alloc (.cells zero11 36):=⟨_,rfl⟩
 have hk0:Keeps w W:=by rw [hW];exact (Keeps.refl w).alloc _
 have hres:W.heap[w.heap.size]? = some (.cells zero11 36):=by rw [hW];exact obj_new w _
 have hdW:=hd.below hk0.below
 have htW:Touch (fun k=>S k∧k<w.heap.size) w W:=(Touch.refl _ w).below hk0.below
 have hsz:=hok.size
 have hlen:=devLen_calls g _ d W hdW
 have hup:=devUp_calls g _ d W hdW
 have HDW:=Hi hdW
 have HTW:=Hi htW
 have HRES:=Hi hres
 have HLEN:=Hi hlen
 have HUP:=Hi hup
 obtain ⟨R,hR⟩:∃ R,R=fetch d a:=⟨_,rfl⟩
 obtain ⟨D,hD⟩:∃ D,D=fetchD d a:=⟨_,rfl⟩
 rw [← hR,← hD]
 unfold fetch at hR
 clear hdW htW hres hlen hup hd
 cases hdown:d.down with
 | true=>
   rw [hdown] at hR
   have HE:Hid (R=.error 50):=Hi (by rw [hR];rfl)
   have HD:Hid (D=d):=Hi (by rw [hD,fetchD_same (.inl hdown)])
   rw [hdown] at HUP
   clear hR hD hTT hk0 hdown
   generalize d.b.length=L at *
   go_enter Tryz.func18,Tryz.ntmps18
   go_wp2_with fail
   rw [← hW]
   clear hW
   refine HLEN.out.mono ?_
   rintro e w1 ⟨rfl,rfl⟩
   go_wp2_with fail
   refine HUP.out.mono ?_
   rintro e w1 ⟨rfl,rfl⟩
   obtain ⟨⟨d0,d1,d2,d3,d4,d5,d6,d7,d8,d9,d10⟩,y0,y1,y2,y3,y4,y5,y6,y7,y8,y9,y10⟩:=cells11 (x0:=.int .i64 0) (x1:=.int .i64 0) (x2:=.slice none 0 0) (x3:=.int .i64 0) (x4:=.int .i64 0) (x5:=.int .i64 0) (x6:=.slice none 0 0) (x7:=.int .i64 0) (x8:=.int .i64 0) (x9:=.int .i64 0) (x10:=.slice none 0 0) HRES.out
   have u1:=obj_lt HRES.out
   go_wp2
   refine bodyPost_ret (v:=.tuple #[.agg zero11,.int .i64 0,.int .i64 50]) (by simp [results,Tryz.results18,go_sem,u1,d0,d1,d2,d3,d4,d5,d6,d7,d8,d9,d10]) rfl ?_
   rw [HE.out,HD.out]
   have hT:=fun v0 v1 v2 v3 v4 v5 v6 v7 v8 v9 v10=>touch11 (w1:=W) (g:=w.heap.size) v0 v1 v2 v3 v4 v5 v6 v7 v8 v9 v10
   exact ⟨rfl,HDW.out.keep (hT _ _ _ _ _ _ _ _ _ _ _) fun k _ hk e=>by rw [At] at e;have:=hk.2;omega,touch_new HTW.out (hT _ _ _ _ _ _ _ _ _ _ _) (Nat.le_refl _)⟩
 | false=>
   rw [hdown] at hR
   simp only [Bool.false_eq_true,if_false] at hR
   by_cases hout:a<0∨(d.b.length:Int)<a
   case pos=>
    rw [if_pos hout] at hR
    have HE:Hid (R=.error 7):=Hi hR
    have HD:Hid (D=d):=Hi (by rw [hD,fetchD_same (by omega)])
    rw [hdown] at HUP
    clear hR hD hTT hk0 hdown
    generalize d.b.length=L at *
    by_cases h0:a<0
    all_goals
     go_enter Tryz.func18,Tryz.ntmps18
     go_wp2_with fail
     rw [← hW]
     clear hW
     refine HLEN.out.mono ?_
     rintro e w1 ⟨rfl,rfl⟩
     go_wp2_with fail
     refine HUP.out.mono ?_
     rintro e w1 ⟨rfl,rfl⟩
     have hL:a<0∨(L:Int)<a:=hout
     try have hL2:(L:Int)<a:=by omega
     obtain ⟨⟨d0,d1,d2,d3,d4,d5,d6,d7,d8,d9,d10⟩,y0,y1,y2,y3,y4,y5,y6,y7,y8,y9,y10⟩:=cells11 (x0:=.int .i64 0) (x1:=.int .i64 0) (x2:=.slice none 0 0) (x3:=.int .i64 0) (x4:=.int .i64 0) (x5:=.int .i64 0) (x6:=.slice none 0 0) (x7:=.int .i64 0) (x8:=.int .i64 0) (x9:=.int .i64 0) (x10:=.slice none 0 0) HRES.out
     have u1:=obj_lt HRES.out
     go_wp2
     refine bodyPost_ret (v:=.tuple #[.agg zero11,.int .i64 0,.int .i64 7]) (by simp [results,Tryz.results18,go_sem,u1,d0,d1,d2,d3,d4,d5,d6,d7,d8,d9,d10]) rfl ?_
     rw [HE.out,HD.out]
     have hT:=fun v0 v1 v2 v3 v4 v5 v6 v7 v8 v9 v10=>touch11 (w1:=W) (g:=w.heap.size) v0 v1 v2 v3 v4 v5 v6 v7 v8 v9 v10
     exact ⟨rfl,HDW.out.keep (hT _ _ _ _ _ _ _ _ _ _ _) fun k _ hk e=>by rw [At] at e;have:=hk.2;omega,touch_new HTW.out (hT _ _ _ _ _ _ _ _ _ _ _) (Nat.le_refl _)⟩
   case neg=>
   rw [if_neg hout] at hR
   by_cases hend:a=(d.b.length:Int)
   case pos=>
    rw [if_pos hend] at hR
    have HE:Hid (R=.error 140):=Hi hR
    have HD:Hid (D=d):=Hi (by rw [hD,fetchD_same (by omega)])
    rw [hdown] at HUP
    clear hR hD hTT hk0 hdown
    generalize d.b.length=L at *
    subst hend
    go_enter Tryz.func18,Tryz.ntmps18
    go_wp2_with fail
    rw [← hW]
    clear hW
    refine HLEN.out.mono ?_
    rintro e w1 ⟨rfl,rfl⟩
    go_wp2_with fail
    refine HUP.out.mono ?_
    rintro e w1 ⟨rfl,rfl⟩
    obtain ⟨⟨d0,d1,d2,d3,d4,d5,d6,d7,d8,d9,d10⟩,y0,y1,y2,y3,y4,y5,y6,y7,y8,y9,y10⟩:=cells11 (x0:=.int .i64 0) (x1:=.int .i64 0) (x2:=.slice none 0 0) (x3:=.int .i64 0) (x4:=.int .i64 0) (x5:=.int .i64 0) (x6:=.slice none 0 0) (x7:=.int .i64 0) (x8:=.int .i64 0) (x9:=.int .i64 0) (x10:=.slice none 0 0) HRES.out
    have u1:=obj_lt HRES.out
    go_wp2
    refine bodyPost_ret (v:=.tuple #[.agg zero11,.int .i64 0,.int .i64 140]) (by simp [results,Tryz.results18,go_sem,u1,d0,d1,d2,d3,d4,d5,d6,d7,d8,d9,d10]) rfl ?_
    rw [HE.out,HD.out]
    have hT:=fun v0 v1 v2 v3 v4 v5 v6 v7 v8 v9 v10=>touch11 (w1:=W) (g:=w.heap.size) v0 v1 v2 v3 v4 v5 v6 v7 v8 v9 v10
    exact ⟨rfl,HDW.out.keep (hT _ _ _ _ _ _ _ _ _ _ _) fun k _ hk e=>by rw [At] at e;have:=hk.2;omega,touch_new HTW.out (hT _ _ _ _ _ _ _ _ _ _ _) (Nat.le_refl _)⟩
   case neg=>
   rw [if_neg hend] at hR
   obtain ⟨n,rfl⟩:=Int.eq_ofNat_of_zero_le (show 0≤a by omega)
   have hnl:n<d.b.length:=by omega
   have hrd:d.read (n:Int) 2202=({ d with counted:=d.counted+((d.b.drop n).take 2202).length },(d.b.drop n).take 2202,0):=by
    unfold Dv.read
    rw [if_neg (by omega)]
    rfl
   have hD2:D=(d.read (n:Int) 2202).1:=by rw [hD,fetchD_read hdown (by omega) (by omega)]
   have hread:=devRead_calls g _ d (n:Int) 2202 W HDW.out hok hct (by omega)
   rw [← hD2,hrd] at hread
   simp only [Int.toNat_natCast] at hR
   obtain ⟨b,hb⟩:∃ b,b=(d.b.drop n).take 2202:=⟨_,rfl⟩
   have hbl:b.length=min 2202 (d.b.length-n):=by rw [hb,List.length_take,List.length_drop]
   rw [← hb] at hR hread
   simp only at hread
   obtain ⟨x,t,rfl⟩:∃ x t,b=x :: t:=by
    cases hq:b with
    | nil=>rw [hq] at hbl;simp at hbl;omega
    | cons x t=>exact ⟨x,t,rfl⟩
   have htl:t.length≤2201:=by rw [List.length_cons] at hbl;omega
   rw [fetchB] at hR
   have HREAD:=Hi hread
   have HR:=Hi hR
   have HTT:=Hi hTT
   rw [hdown] at HUP
   have q1:¬(n:Int)<0:=by omega
   have q2:¬(d.b.length:Int)<(n:Int):=by omega
   clear hread hR hD hD2 hrd hb hbl hdown hTT hk0 hout hok
   generalize d.b.length=L at *
   have q3:¬(n:Int)=(L:Int):=hend
   go_enter Tryz.func18,Tryz.ntmps18
   go_wp2_with fail
   rw [← hW]
   clear hW
   refine HLEN.out.mono ?_
   rintro e w1 ⟨rfl,rfl⟩
   go_wp2_with fail
   refine HUP.out.mono ?_
   rintro e w1 ⟨rfl,rfl⟩
   go_wp2_with fail
   refine HREAD.out.mono ?_
   rintro e w2 ⟨v2,rfl,ho2,hd2,ht2⟩
   obtain ⟨B,cb,rfl,hlc,hrb,hcm,_⟩:=ho2.form
   have hr2:w2.heap[w.heap.size]? = some (.cells zero11 36):=ht2.obj HRES.out (fun h=>by have:=h.2;omega)
   have ht02:Touch (fun k=>S k∧k<w.heap.size) w w2:=HTW.out.then ht2
   obtain ⟨ad,rfl,hcell⟩:=hrb.out 0 (by simp)
   rw [List.getElem_cons_zero,addr_add_zero] at hcell
   have HR2:=Hi hr2
   have HT2:=Hi ht02
   have HDV2:=Hi hd2
   have HRB:=Hi hrb
   clear hr2 ht02 hd2 ht2 ho2 hrb HREAD HLEN HUP HRES HTW HDW
   rw [List.length_cons] at hlc ⊢
   obtain ⟨M,hM⟩:∃ M,M=t.length+1:=⟨_,rfl⟩
   rw [← hM] at hlc ⊢
   have hM1:t.length=M-1:=by omega
   have hMp:0<M:=by omega
   have hML:M≤2202:=by omega
   have HM1:=Hi hM1
   clear hM hM1 htl
   obtain ⟨⟨d0,d1,d2,d3,d4,d5,d6,d7,d8,d9,d10⟩,y0,y1,y2,y3,y4,y5,y6,y7,y8,y9,y10⟩:=cells11 (x0:=.int .i64 0) (x1:=.int .i64 0) (x2:=.slice none 0 0) (x3:=.int .i64 0) (x4:=.int .i64 0) (x5:=.int .i64 0) (x6:=.slice none 0 0) (x7:=.int .i64 0) (x8:=.int .i64 0) (x9:=.int .i64 0) (x10:=.slice none 0 0) HR2.out
   have u1:=obj_lt HR2.out
   have hx256:x.toNat<256:=x.toNat_lt
   by_cases hx:x=0
   case neg=>
    have HE:Hid (R=.error 141):=Hi (by rw [HR.out,if_pos hx])
    have qx:(((x.toNat:Nat):Int) != 0)=true:=by rw [bne_iff_ne];intro e;exact hx (UInt8.toNat_inj.1 (by show x.toNat=0;omega))
    clear hx HR
    go_wp2
    refine bodyPost_ret (v:=.tuple #[.agg zero11,.int .i64 0,.int .i64 141]) (by simp [results,Tryz.results18,go_sem,u1,d0,d1,d2,d3,d4,d5,d6,d7,d8,d9,d10]) rfl ?_
    rw [HE.out]
    have hT:=fun v0 v1 v2 v3 v4 v5 v6 v7 v8 v9 v10=>touch11 (w1:=w2) (g:=w.heap.size) v0 v1 v2 v3 v4 v5 v6 v7 v8 v9 v10
    exact ⟨rfl,HDV2.out.keep (hT _ _ _ _ _ _ _ _ _ _ _) fun k _ hk e=>by rw [At] at e;have:=hk.2;omega,touch_new HT2.out (hT _ _ _ _ _ _ _ _ _ _ _) (Nat.le_refl _)⟩
   case pos=>
   subst hx
   have HR2':Hid (R=fetchT t n):=Hi (by rw [HR.out,if_neg (by simp)])
   clear HR
   have hcell:w2.cell? ad=some (.int .u8 0):=hcell
   obtain ⟨Z,hif⟩:∃ Z,(if cb=1 then some ad else some ⟨ad.block,ad.off+1,none⟩)=Z:=⟨_,rfl⟩
   have hz:Reads w2 Z t:=by
    have h:=HRB.out.drop_any 1 Z fun hlt ad' e=>by
     rw [← hif,if_neg (by rw [List.length_cons] at hlt;have:=HM1.out;omega)]
     cases e
     rw [addr_add_pos ad 1 (by omega)]
    simpa using h
   have hix:=idx_calls Z (cb-1) t w2 hz
   rw [HM1.out] at hix
   have HIX:=Hi hix
   have HZ:=Hi hz
   clear hix hz
   have hnle:=nz_le t
   by_cases hk:(nz t).length<t.length
   case neg=>
    have hix2:idx t = -1:=by unfold idx;rw [if_neg hk]
    rw [hix2] at HIX
    by_cases hlong:t.length=2201
    case pos=>
     have HE:Hid (R=.error 2):=Hi (by rw [HR2'.out,fetchT,if_neg hk,if_pos hlong])
     have hM2:M=2202:=by have:=HM1.out;omega
     have hcb1:¬cb=1:=by omega
     obtain rfl:Z=some ⟨ad.block,ad.off+1,none⟩:=by rw [← hif,if_neg hcb1]
     clear hk hnle hlong HR2' hix2 hif
     subst hM2
     have HIX:Hid (Calls Tryz.prog 61 #[.slice (some ⟨ad.block,ad.off+1,none⟩) 2201 (cb-1),.int .u8 0] w2 fun e w'=>e=.returned (.int .i64 (-1))∧w2=w'):=HIX
     go_wp2_with fail
     refine HIX.out.mono ?_
     rintro e w3 ⟨rfl,rfl⟩
     go_wp2
     refine bodyPost_ret (v:=.tuple #[.agg zero11,.int .i64 0,.int .i64 2]) (by simp [results,Tryz.results18,go_sem,u1,d0,d1,d2,d3,d4,d5,d6,d7,d8,d9,d10]) rfl ?_
     rw [HE.out]
     have hT:=fun v0 v1 v2 v3 v4 v5 v6 v7 v8 v9 v10=>touch11 (w1:=w2) (g:=w.heap.size) v0 v1 v2 v3 v4 v5 v6 v7 v8 v9 v10
     exact ⟨rfl,HDV2.out.keep (hT _ _ _ _ _ _ _ _ _ _ _) fun k _ hk e=>by rw [At] at e;have:=hk.2;omega,touch_new HT2.out (hT _ _ _ _ _ _ _ _ _ _ _) (Nat.le_refl _)⟩
    case neg=>
     have HE:Hid (R=.error 142):=Hi (by rw [HR2'.out,fetchT,if_neg hk,if_neg hlong])
     have hM2:¬M=2202:=by have:=HM1.out;omega
     have hM3:¬(M:Int)=2202:=by omega
     clear hk hnle hlong HR2' hix2
     go_wp2_with fail
     clear hif
     refine HIX.out.mono ?_
     rintro e w3 ⟨rfl,rfl⟩
     go_wp2
     refine bodyPost_ret (v:=.tuple #[.agg zero11,.int .i64 0,.int .i64 142]) (by simp [results,Tryz.results18,go_sem,u1,d0,d1,d2,d3,d4,d5,d6,d7,d8,d9,d10]) rfl ?_
     rw [HE.out]
     have hT:=fun v0 v1 v2 v3 v4 v5 v6 v7 v8 v9 v10=>touch11 (w1:=w2) (g:=w.heap.size) v0 v1 v2 v3 v4 v5 v6 v7 v8 v9 v10
     exact ⟨rfl,HDV2.out.keep (hT _ _ _ _ _ _ _ _ _ _ _) fun k _ hk e=>by rw [At] at e;have:=hk.2;omega,touch_new HT2.out (hT _ _ _ _ _ _ _ _ _ _ _) (Nat.le_refl _)⟩
   case pos=>
   obtain ⟨k,hkk⟩:∃ k,k=(nz t).length:=⟨_,rfl⟩
   have hix2:idx t=(k:Int):=by unfold idx;rw [if_pos hk,hkk]
   rw [hix2] at HIX
   have hkM:k+1<M:=by have:=HM1.out;omega
   by_cases hk0:k=0
   case pos=>
    have HE:Hid (R=.error 4):=Hi (by rw [HR2'.out,fetchT,if_pos hk,if_pos (by omega)])
    clear hk hnle HR2' hix2 hkk
    subst hk0
    go_wp2_with fail
    clear hif
    refine HIX.out.mono ?_
    rintro e w3 ⟨rfl,rfl⟩
    go_wp2
    refine bodyPost_ret (v:=.tuple #[.agg zero11,.int .i64 0,.int .i64 4]) (by simp [results,Tryz.results18,go_sem,u1,d0,d1,d2,d3,d4,d5,d6,d7,d8,d9,d10]) rfl ?_
    rw [HE.out]
    have hT:=fun v0 v1 v2 v3 v4 v5 v6 v7 v8 v9 v10=>touch11 (w1:=w2) (g:=w.heap.size) v0 v1 v2 v3 v4 v5 v6 v7 v8 v9 v10
    exact ⟨rfl,HDV2.out.keep (hT _ _ _ _ _ _ _ _ _ _ _) fun k _ hk e=>by rw [At] at e;have:=hk.2;omega,touch_new HT2.out (hT _ _ _ _ _ _ _ _ _ _ _) (Nat.le_refl _)⟩
   case neg=>
   have HR3:Hid (R=fetchF (decF (nz t)) ((n:Int)+(k:Int)+2)):=Hi (by rw [HR2'.out,fetchT,if_pos hk,if_neg (by omega),← hkk])
   obtain ⟨m,hm⟩:∃ m,m=k+1:=⟨_,rfl⟩
   have hnk:(nz t).length=m-1:=by omega
   obtain ⟨hTb,hTa⟩:=HTT.out w2 HT2.out
   have hdec:=decode_calls Z (cb-1) (nz t) w2 (by rw [← nz_take t];exact HZ.out.take _) (by omega) (by omega) hTb hTa
   rw [← hkk] at hdec
   have hw1:IntKind.i64.wrap ((k:Int)+1)=(m:Int):=by rw [IntWalk.i64_in _ (by omega)];omega
   have hw2:IntKind.i64.wrap ((n:Int)+(k:Int))=(n:Int)+(k:Int):=IntWalk.i64_in _ (by omega)
   have hw3:IntKind.i64.wrap ((n:Int)+(k:Int)+2)=(n:Int)+(k:Int)+2:=IntWalk.i64_in _ (by omega)
   have hm1:1≤m:=by omega
   have hmM:m≤M:=by omega
   have hmc:m≤cb:=by omega
   have HDEC:=Hi hdec
   have hkn:¬(k:Int)<0:=by omega
   have hkz:¬(k:Int)=0:=by omega
   have hcb1:¬cb=1:=by omega
   obtain rfl:Z=some ⟨ad.block,ad.off+1,none⟩:=by rw [← hif,if_neg hcb1]
   clear hk hnle HR2' hix2 hkk hnk hdec hTb hTa hif
   go_wp2_with fail
   refine HIX.out.mono ?_
   rintro e w3 ⟨rfl,rfl⟩
   go_wp2_with fail
   refine HDEC.out.mono ?_
   intro e w3 hpost
   clear HDEC HIX hcell d0 d1 d2 d3 d4 d5 d6 d7 d8 d9 d10 y0 y1 y2 y3 y4 y5 y6 y7 y8 y9 y10 u1
   cases hde:decF (nz t) with
   | error er=>
     rw [hde] at hpost
     obtain ⟨rfl,hk3⟩:e=.returned (.tuple #[.agg zero11,.int .i64 er])∧Keeps w2 w3:=hpost
     have HE:Hid (R=.error er):=Hi (by rw [HR3.out,hde];rfl)
     have qe:(er != 0)=true:=by simpa using decF_nz hde
     have HR4:=Hi ((hk3.below.block _ (obj_lt HR2.out)).trans HR2.out)
     have HT4:=Hi (HT2.out.below hk3.below)
     have HDV4:=Hi (HDV2.out.below hk3.below)
     clear hk3 hde HR3
     obtain ⟨⟨d0,d1,d2,d3,d4,d5,d6,d7,d8,d9,d10⟩,y0,y1,y2,y3,y4,y5,y6,y7,y8,y9,y10⟩:=cells11 (x0:=.int .i64 0) (x1:=.int .i64 0) (x2:=.slice none 0 0) (x3:=.int .i64 0) (x4:=.int .i64 0) (x5:=.int .i64 0) (x6:=.slice none 0 0) (x7:=.int .i64 0) (x8:=.int .i64 0) (x9:=.int .i64 0) (x10:=.slice none 0 0) HR4.out
     have u1:=obj_lt HR4.out
     go_wp2
     refine bodyPost_ret (v:=.tuple #[.agg zero11,.int .i64 0,.int .i64 er]) (by simp [results,Tryz.results18,go_sem,u1,d0,d1,d2,d3,d4,d5,d6,d7,d8,d9,d10]) rfl ?_
     rw [HE.out]
     have hT:=fun v0 v1 v2 v3 v4 v5 v6 v7 v8 v9 v10 c=>(touch11 (w1:=w3) (g:=w.heap.size) v0 v1 v2 v3 v4 v5 v6 v7 v8 v9 v10).alloc c
     exact ⟨rfl,HDV4.out.keep (hT _ _ _ _ _ _ _ _ _ _ _ _) fun k _ hk e=>by rw [At] at e;have:=hk.2;omega,touch_new HT4.out (hT _ _ _ _ _ _ _ _ _ _ _ _) (Nat.le_refl _)⟩
   | ok f=>
     rw [hde] at hpost
     obtain ⟨A3,c3,B3,d3',E3,k3,rfl,hf3,hk3⟩:∃ A3 c3 B3 d3' E3 k3,_∧_∧_:=hpost
     have HE:Hid (R=.ok (f,(n:Int)+(k:Int)+2)):=Hi (by rw [HR3.out,hde];rfl)
     have HR4:=Hi ((hk3.below.block _ (obj_lt HR2.out)).trans HR2.out)
     have HT4:=Hi (HT2.out.below hk3.below)
     have HDV4:=Hi (HDV2.out.below hk3.below)
     have HF:=Hi hf3
     have HU:=Hi (obj_lt HR2.out)
     obtain ⟨n1,hn1'⟩:∃ n1,n1=f.cols.length:=⟨_,rfl⟩
     obtain ⟨n2,hn2⟩:∃ n2,n2=f.block.length:=⟨_,rfl⟩
     obtain ⟨n3,hn3⟩:∃ n3,n3=f.ents.length:=⟨_,rfl⟩
     have hfc:frCells A3 c3 B3 d3' E3 k3 f=#[.int .i64 f.kind,.int .i64 f.number,.slice A3 n1 c3,.int .i64 f.seq,.int .i64 f.first,.int .i64 f.rows,.slice B3 n2 d3',.int .i64 f.spot,.int .i64 f.frames,.int .i64 f.irows,.slice E3 n3 k3]:=by rw [hn1',hn2,hn3];rfl
     rw [hfc]
     have HFC:=Hi hfc
     clear hfc hn1' hn2 hn3 hk3 hf3 hde HR3
     obtain ⟨⟨d0,d1,d2,d3,d4,d5,d6,d7,d8,d9,d10⟩,y0,y1,y2,y3,y4,y5,y6,y7,y8,y9,y10⟩:=cells11 (x0:=.int .i64 0) (x1:=.int .i64 0) (x2:=.slice none 0 0) (x3:=.int .i64 0) (x4:=.int .i64 0) (x5:=.int .i64 0) (x6:=.slice none 0 0) (x7:=.int .i64 0) (x8:=.int .i64 0) (x9:=.int .i64 0) (x10:=.slice none 0 0) HR4.out
     have u1:=obj_lt HR4.out
     go_wp2
     refine bodyPost_ret (v:=.tuple #[.agg #[.int .i64 f.kind,.int .i64 f.number,.slice A3 n1 c3,.int .i64 f.seq,.int .i64 f.first,.int .i64 f.rows,.slice B3 n2 d3',.int .i64 f.spot,.int .i64 f.frames,.int .i64 f.irows,.slice E3 n3 k3],.int .i64 ((n:Int)+(k:Int)+2),.int .i64 0]) (by simp [results,Tryz.results18,go_sem,u1,d0,d1,d2,d3,d4,d5,d6,d7,d8,d9,d10]) rfl ?_
     rw [HE.out]
     have hT:=fun v0 v1 v2 v3 v4 v5 v6 v7 v8 v9 v10 c=>(touch11 (w1:=w3) (g:=w.heap.size) v0 v1 v2 v3 v4 v5 v6 v7 v8 v9 v10).alloc c
     refine ⟨⟨A3,c3,B3,d3',E3,k3,by rw [HFC.out],(HF.out.touch (hT _ _ _ _ _ _ _ _ _ _ _ _) HU.out).lower (Nat.le_of_lt HU.out)⟩,HDV4.out.keep (hT _ _ _ _ _ _ _ _ _ _ _ _) fun k _ hk e=>by rw [At] at e;have:=hk.2;omega,touch_new HT4.out (hT _ _ _ _ _ _ _ _ _ _ _ _) (Nat.le_refl _)⟩
end Go.Proofs.YtihodcnnappkbaaGreatDoor
