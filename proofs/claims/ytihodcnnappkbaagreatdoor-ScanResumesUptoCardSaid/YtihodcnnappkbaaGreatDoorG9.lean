/-
  The walk of frame.take: data frames. Condition: the bytes read, and are not none; the tables of unicode/utf8 are as laid. The walk of frame.take: index frames. Condition: the bytes read, and are not none; the tables of unicode/utf8 are as laid. The walk of frame.Decode. Condition: the bytes read; the tables are as laid. What is read is what was put: numbers, bytes, texts, floats, types: plain. No condition. What is read is what was put: values: plain. No condition. What is read is what was put: schemas: plain. No condition.
-/
import Derived.Test.YtihodcnnappkbaaGreatDoorG8
import Derived.Test.YtihodcnnappkbaaGreatDoorG6
import Derived.Test.YtihodcnnappkbaaGreatDoorG3
import Derived.Test.YtihodcnnappkbaaGreatDoorG5
import Derived.Test.YtihodcnnappkbaaGreatDoorG4
set_option linter.unusedVariables false
set_option linter.unusedSimpArgs false
set_option maxHeartbeats 4000000
set_option maxRecDepth 20000
namespace Go.Proofs.YtihodcnnappkbaaGreatDoor
section
open Go.RowKit Go.BigFrame
attribute [local go_sem] ta_ss ta_dd ta_xx ta_ds ta_xs ta_xd ta_ns ta_nd ta_nx
theorem take_d1 (A:Option Addr) (c:Nat) (l:List UInt8) (w:World) (hr:Reads w A l) (a3:0<l.length) (hl:l.length≤140737488355328) (a7:l.length≤c) (hc:c≤9223372036854775807) (aa:Tabs w) (hk:((l[0]'a3).toNat:Int)=2) (a6:(d4 l).2.2=true) :
 Calls Tryz.prog 93 #[.slice A l.length c] w (fun e w'=>e=.returned (.tuple #[.agg zero11,.int .i64 5])∧Keeps w w'):=by
 obtain ⟨ad,rfl,a2⟩:=hr.out 0 a3
 have az:=World.block_lt_of_cell? w _ a2
 rw [addr_add_block] at az
 rw [addr_add_zero,hk] at a2
 have h0:=TkAt.start w (some ad) c l hr #[.int .i64 2,.int .i64 0,.slice none 0 0,.int .i64 0,.int .i64 0,.int .i64 0,.slice none 0 0,.int .i64 0,.int .i64 0,.int .i64 0,.slice none 0 0] hl a7 hc a3
 obtain ⟨W,hW⟩:∃ W,W=(((w.alloc (.cells zero11 36)).alloc (.cells #[.int .i64 2,.int .i64 0,.slice none 0 0,.int .i64 0,.int .i64 0,.int .i64 0,.slice none 0 0,.int .i64 0,.int .i64 0,.int .i64 0,.slice none 0 0] 36)).alloc (.cells #[.slice (some ad) l.length c,.int .i64 1,.bool false] 172)):=⟨_,rfl⟩
 rw [← hW] at h0
 have ai:=frOf_calls (.int .i64 0) (.int .i64 0) (.slice none 0 0) (.int .i64 0) (.int .i64 0) (.int .i64 0) (.slice none 0 0) (2) (.int .i64 0) (.int .i64 0) (.int .i64 0) (.slice none 0 0) W
 have H0:=Hi h0
 have an:=Hi ai
 have ac:=Hi hr
 have hv:ofV #[.int .i64 2,.int .i64 0,.slice none 0 0,.int .i64 0,.int .i64 0,.int .i64 0,.slice none 0 0,.int .i64 0,.int .i64 0,.int .i64 0,.slice none 0 0] 2 #[.int .i64 0,.int .i64 0,.int .i64 0,.slice none 0 0]=.iface 151 (.agg #[.int .i64 2,.int .i64 0,.slice none 0 0,.int .i64 0,.int .i64 0,.int .i64 0,.slice none 0 0,.int .i64 0,.int .i64 0,.int .i64 0,.slice none 0 0]):=rfl
 obtain ⟨⟨n1,s1⟩,al⟩:∃ r,r=d1 l:=⟨_,rfl⟩
 obtain ⟨⟨n2,s2⟩,ae⟩:∃ r,r=d2 l:=⟨_,rfl⟩
 obtain ⟨⟨n3,s3⟩,a8⟩:∃ r,r=d3 l:=⟨_,rfl⟩
 obtain ⟨⟨n4,⟨a4,b4⟩⟩,a5⟩:∃ r,r=d4 l:=⟨_,rfl⟩
 rw [← a5] at a6
 simp only at a6
 subst a6
 unfold d1 at al
 unfold d2 at ae
 unfold d3 at a8
 unfold d4 at a5
 try simp only
 unfold d3 at a5
 unfold d2 at a8 a5
 unfold d1 at ae a8 a5
 rw [← al] at ae a8 a5
 simp only at ae a8 a5
 rw [← ae] at a8 a5
 simp only at a8 a5
 rw [← a8] at a5
 simp only at a5
 have bk:=Hi al
 have bd:=Hi ae
 have bj:=Hi a8
 have bg:=Hi a5
 clear al ae a8 a5 hk
 have b8:=Hi aa
 have ax:=Hi a7
 have HC:=Hi hc
 clear ai h0 hr a7 hc aa
 have aC:0<l.length:=a3
 clear a3
 generalize am:l.length=L at hl hW aC ⊢
 have aq:=Hi am
 clear am
 go_enter Tryz.func93,Tryz.ntmps93
 go_wp2_with fail
 rw [← hW]
 clear hW
 refine an.out.mono ?_
 rintro e w1 ⟨rfl,ah⟩
 have h1:=H0.out.later ah
 rw [hv]
 clear hv an H0
 obtain ⟨⟨c0,c1,c2,c3,c4,c5,c6,c7,c8,c9,c10⟩,z0,z1,z2,z3,z4,z5,z6,z7,z8,z9,z10⟩:=cells11 h1.fr
 have ab:=rnum_calls (w.heap.size+1+1) (some ad) c l (1,false) 2147483648 (by decide) w1 h1.rd
 rw [← bk.out] at ab
 have ao:=Hi ab
 have H1:=Hi h1
 clear h1 ab
 go_wp2_with fail
 refine ao.out.mono ?_
 rintro e w2 ⟨rfl,ap,au⟩
 have h2:=H1.out.call ap au
 clear ap au ao H1
 have aw:=rnum_calls (w.heap.size+1+1) (some ad) c l s1 seqMax (by decide) w2 h2.rd
 rw [← bd.out] at aw
 have aS:=Hi aw
 have H2:=Hi h2
 clear h2 aw
 go_wp2_with fail
 refine aS.out.mono ?_
 rintro e w3 ⟨rfl,aU,aX⟩
 have h3:=H2.out.call aU aX
 clear aU aX aS H2
 have aE:=rnum_calls (w.heap.size+1+1) (some ad) c l s2 seqMax (by decide) w3 h3.rd
 rw [← bj.out] at aE
 have aT:=Hi aE
 have H3:=Hi h3
 clear h3 aE
 go_wp2_with fail
 refine aT.out.mono ?_
 rintro e w4 ⟨rfl,aY,aJ⟩
 have h4:=H3.out.call aY aJ
 clear aY aJ aT H3
 obtain ⟨⟨c0,c1,c2,c3,c4,c5,c6,c7,c8,c9,c10⟩,z0,z1,z2,z3,z4,z5,z6,z7,z8,z9,z10⟩:=cells11 h4.fr
 have u4:=obj_lt h4.rd.obj
 replace h4:=((h4.set ac.out 1 (.int .i64 n1)).set ac.out 3 (.int .i64 n2)).set ac.out 4 (.int .i64 n3)
 have aD:=rnum_calls (w.heap.size+1+1) (some ad) c l s3 65 (by decide) _ h4.rd
 rw [← bg.out] at aD
 have aO:=Hi aD
 have H4:=Hi h4
 clear h4 aD
 go_wp2_with fail
 refine aO.out.mono ?_
 rintro e w5 ⟨rfl,aW,aN⟩
 have h5:=H4.out.call aW aN
 clear aW aN aO H4
 obtain ⟨⟨c0,c1,c2,c3,c4,c5,c6,c7,c8,c9,c10⟩,z0,z1,z2,z3,z4,z5,z6,z7,z8,z9,z10⟩:=cells11 h5.fr
 obtain ⟨r0,r1,r2,x0,x1,x2⟩:=cells3 h5.rd.obj
 have u5:=obj_lt h5.rd.obj
 have h6:=(h5.set ac.out 5 (.int .i64 n4)).bad true
 have bN:a4≤L:=by have:=h5.rd.within;rw [aq.out] at this;exact this
 have bQ:L≤c:=by have:=ax.out;rw [aq.out] at this;exact this
 obtain ⟨Z,aV⟩:∃ Z,(if c=a4 then some ad else some (ad.add a4))=Z:=⟨_,rfl⟩
 obtain ⟨bl,ar⟩:∃ bl,bl=l.drop a4:=⟨_,rfl⟩
 have aj:bl.length=L-a4:=by rw [ar,List.length_drop,aq.out]
 obtain ⟨W6,aA⟩:∃ W6,W6=(w5.setCell ⟨w.heap.size+1,5,none⟩ (.int .i64 n4)).setCell ⟨w.heap.size+1+1,2,none⟩ (.bool true):=⟨_,rfl⟩
 rw [← aA] at h6
 have aR:Reads W6 Z bl:=by
  rw [ar]
  refine h6.rd.reads.drop_any a4 Z fun bt ad' e=>?_
  cases e
  have:=ax.out
  rw [← aV,if_neg (by omega)]
 have aB:=clone_bytes Z (c-a4) bl W6 (by omega) aR
 rw [aj] at aB
 have aP:=Hi aB
 have H6:=Hi h6
 have bA:=Hi ar
 have bf:=Hi aj
 have br:=Hi (obj_lt h6.rd.obj)
 clear h5 h6 aB ar aR x0 r0 aj
 go_wp2_with fail
 clear aV
 rw [← aA]
 clear aA
 refine aP.out.mono ?_
 rintro e w7 ⟨v7,rfl,a9,aM⟩
 obtain ⟨As,cs,rfl,_⟩:=a9.form
 have h7:=H6.out.later aM
 obtain ⟨⟨c0,c1,c2,c3,c4,c5,c6,c7,c8,c9,c10⟩,z0,z1,z2,z3,z4,z5,z6,z7,z8,z9,z10⟩:=cells11 h7.fr
 obtain ⟨⟨d0,d1,d2,d3,d4,d5,d6,d7,d8,d9,d10⟩,y0,y1,y2,y3,y4,y5,y6,y7,y8,y9,y10⟩:=cells11 h7.res
 obtain ⟨r0,r1,r2,x0,x1,x2⟩:=cells3 h7.rd.obj
 have u7:=obj_lt h7.rd.obj
 have H7:=Hi h7
 have bq:=Hi a9
 clear h7 aM a9 H6 aP
 go_wp2
 refine bodyPost_ret (v:=.tuple #[.agg zero11,.int .i64 5]) (by simp [results,Tryz.results93,go_sem, *]) rfl ⟨rfl,(H7.out.set ac.out 6 _).done (.int .i64 0) (.int .i64 0) (.slice none 0 0) (.int .i64 0) (.int .i64 0) (.int .i64 0) (.slice none 0 0) (.int .i64 0) (.int .i64 0) (.int .i64 0) (.slice none 0 0)⟩
theorem take_d2 (A:Option Addr) (c:Nat) (l:List UInt8) (w:World) (hr:Reads w A l) (a3:0<l.length) (hl:l.length≤140737488355328) (a7:l.length≤c) (hc:c≤9223372036854775807) (aa:Tabs w) (hk:((l[0]'a3).toNat:Int)=2) (a6:(d4 l).2.2=false) (ak:(d4 l).1<1) :
 Calls Tryz.prog 93 #[.slice A l.length c] w (fun e w'=>e=.returned (.tuple #[.agg zero11,.int .i64 5])∧Keeps w w'):=by
 obtain ⟨ad,rfl,a2⟩:=hr.out 0 a3
 have az:=World.block_lt_of_cell? w _ a2
 rw [addr_add_block] at az
 rw [addr_add_zero,hk] at a2
 have h0:=TkAt.start w (some ad) c l hr #[.int .i64 2,.int .i64 0,.slice none 0 0,.int .i64 0,.int .i64 0,.int .i64 0,.slice none 0 0,.int .i64 0,.int .i64 0,.int .i64 0,.slice none 0 0] hl a7 hc a3
 obtain ⟨W,hW⟩:∃ W,W=(((w.alloc (.cells zero11 36)).alloc (.cells #[.int .i64 2,.int .i64 0,.slice none 0 0,.int .i64 0,.int .i64 0,.int .i64 0,.slice none 0 0,.int .i64 0,.int .i64 0,.int .i64 0,.slice none 0 0] 36)).alloc (.cells #[.slice (some ad) l.length c,.int .i64 1,.bool false] 172)):=⟨_,rfl⟩
 rw [← hW] at h0
 have ai:=frOf_calls (.int .i64 0) (.int .i64 0) (.slice none 0 0) (.int .i64 0) (.int .i64 0) (.int .i64 0) (.slice none 0 0) (2) (.int .i64 0) (.int .i64 0) (.int .i64 0) (.slice none 0 0) W
 have H0:=Hi h0
 have an:=Hi ai
 have ac:=Hi hr
 have hv:ofV #[.int .i64 2,.int .i64 0,.slice none 0 0,.int .i64 0,.int .i64 0,.int .i64 0,.slice none 0 0,.int .i64 0,.int .i64 0,.int .i64 0,.slice none 0 0] 2 #[.int .i64 0,.int .i64 0,.int .i64 0,.slice none 0 0]=.iface 151 (.agg #[.int .i64 2,.int .i64 0,.slice none 0 0,.int .i64 0,.int .i64 0,.int .i64 0,.slice none 0 0,.int .i64 0,.int .i64 0,.int .i64 0,.slice none 0 0]):=rfl
 obtain ⟨⟨n1,s1⟩,al⟩:∃ r,r=d1 l:=⟨_,rfl⟩
 obtain ⟨⟨n2,s2⟩,ae⟩:∃ r,r=d2 l:=⟨_,rfl⟩
 obtain ⟨⟨n3,s3⟩,a8⟩:∃ r,r=d3 l:=⟨_,rfl⟩
 obtain ⟨⟨n4,⟨a4,b4⟩⟩,a5⟩:∃ r,r=d4 l:=⟨_,rfl⟩
 rw [← a5] at a6 ak
 simp only at a6 ak
 subst a6
 unfold d1 at al
 unfold d2 at ae
 unfold d3 at a8
 unfold d4 at a5
 try simp only
 unfold d3 at a5
 unfold d2 at a8 a5
 unfold d1 at ae a8 a5
 rw [← al] at ae a8 a5
 simp only at ae a8 a5
 rw [← ae] at a8 a5
 simp only at a8 a5
 rw [← a8] at a5
 simp only at a5
 have bk:=Hi al
 have bd:=Hi ae
 have bj:=Hi a8
 have bg:=Hi a5
 clear al ae a8 a5 hk
 have b8:=Hi aa
 have ax:=Hi a7
 have HC:=Hi hc
 clear ai h0 hr a7 hc aa
 have aC:0<l.length:=a3
 clear a3
 generalize am:l.length=L at hl hW aC ⊢
 have aq:=Hi am
 clear am
 go_enter Tryz.func93,Tryz.ntmps93
 go_wp2_with fail
 rw [← hW]
 clear hW
 refine an.out.mono ?_
 rintro e w1 ⟨rfl,ah⟩
 have h1:=H0.out.later ah
 rw [hv]
 clear hv an H0
 obtain ⟨⟨c0,c1,c2,c3,c4,c5,c6,c7,c8,c9,c10⟩,z0,z1,z2,z3,z4,z5,z6,z7,z8,z9,z10⟩:=cells11 h1.fr
 have ab:=rnum_calls (w.heap.size+1+1) (some ad) c l (1,false) 2147483648 (by decide) w1 h1.rd
 rw [← bk.out] at ab
 have ao:=Hi ab
 have H1:=Hi h1
 clear h1 ab
 go_wp2_with fail
 refine ao.out.mono ?_
 rintro e w2 ⟨rfl,ap,au⟩
 have h2:=H1.out.call ap au
 clear ap au ao H1
 have aw:=rnum_calls (w.heap.size+1+1) (some ad) c l s1 seqMax (by decide) w2 h2.rd
 rw [← bd.out] at aw
 have aS:=Hi aw
 have H2:=Hi h2
 clear h2 aw
 go_wp2_with fail
 refine aS.out.mono ?_
 rintro e w3 ⟨rfl,aU,aX⟩
 have h3:=H2.out.call aU aX
 clear aU aX aS H2
 have aE:=rnum_calls (w.heap.size+1+1) (some ad) c l s2 seqMax (by decide) w3 h3.rd
 rw [← bj.out] at aE
 have aT:=Hi aE
 have H3:=Hi h3
 clear h3 aE
 go_wp2_with fail
 refine aT.out.mono ?_
 rintro e w4 ⟨rfl,aY,aJ⟩
 have h4:=H3.out.call aY aJ
 clear aY aJ aT H3
 obtain ⟨⟨c0,c1,c2,c3,c4,c5,c6,c7,c8,c9,c10⟩,z0,z1,z2,z3,z4,z5,z6,z7,z8,z9,z10⟩:=cells11 h4.fr
 have u4:=obj_lt h4.rd.obj
 replace h4:=((h4.set ac.out 1 (.int .i64 n1)).set ac.out 3 (.int .i64 n2)).set ac.out 4 (.int .i64 n3)
 have aD:=rnum_calls (w.heap.size+1+1) (some ad) c l s3 65 (by decide) _ h4.rd
 rw [← bg.out] at aD
 have aO:=Hi aD
 have H4:=Hi h4
 clear h4 aD
 go_wp2_with fail
 refine aO.out.mono ?_
 rintro e w5 ⟨rfl,aW,aN⟩
 have h5:=H4.out.call aW aN
 clear aW aN aO H4
 obtain ⟨⟨c0,c1,c2,c3,c4,c5,c6,c7,c8,c9,c10⟩,z0,z1,z2,z3,z4,z5,z6,z7,z8,z9,z10⟩:=cells11 h5.fr
 obtain ⟨r0,r1,r2,x0,x1,x2⟩:=cells3 h5.rd.obj
 have u5:=obj_lt h5.rd.obj
 have h6:=(h5.set ac.out 5 (.int .i64 n4)).bad true
 have bN:a4≤L:=by have:=h5.rd.within;rw [aq.out] at this;exact this
 have bQ:L≤c:=by have:=ax.out;rw [aq.out] at this;exact this
 obtain ⟨Z,aV⟩:∃ Z,(if c=a4 then some ad else some (ad.add a4))=Z:=⟨_,rfl⟩
 obtain ⟨bl,ar⟩:∃ bl,bl=l.drop a4:=⟨_,rfl⟩
 have aj:bl.length=L-a4:=by rw [ar,List.length_drop,aq.out]
 obtain ⟨W6,aA⟩:∃ W6,W6=(w5.setCell ⟨w.heap.size+1,5,none⟩ (.int .i64 n4)).setCell ⟨w.heap.size+1+1,2,none⟩ (.bool true):=⟨_,rfl⟩
 rw [← aA] at h6
 have aR:Reads W6 Z bl:=by
  rw [ar]
  refine h6.rd.reads.drop_any a4 Z fun bt ad' e=>?_
  cases e
  have:=ax.out
  rw [← aV,if_neg (by omega)]
 have aB:=clone_bytes Z (c-a4) bl W6 (by omega) aR
 rw [aj] at aB
 have aP:=Hi aB
 have H6:=Hi h6
 have bA:=Hi ar
 have bf:=Hi aj
 have br:=Hi (obj_lt h6.rd.obj)
 clear h5 h6 aB ar aR x0 r0 aj
 go_wp2_with fail
 clear aV
 rw [← aA]
 clear aA
 refine aP.out.mono ?_
 rintro e w7 ⟨v7,rfl,a9,aM⟩
 obtain ⟨As,cs,rfl,_⟩:=a9.form
 have h7:=H6.out.later aM
 obtain ⟨⟨c0,c1,c2,c3,c4,c5,c6,c7,c8,c9,c10⟩,z0,z1,z2,z3,z4,z5,z6,z7,z8,z9,z10⟩:=cells11 h7.fr
 obtain ⟨⟨d0,d1,d2,d3,d4,d5,d6,d7,d8,d9,d10⟩,y0,y1,y2,y3,y4,y5,y6,y7,y8,y9,y10⟩:=cells11 h7.res
 obtain ⟨r0,r1,r2,x0,x1,x2⟩:=cells3 h7.rd.obj
 have u7:=obj_lt h7.rd.obj
 have H7:=Hi h7
 have bq:=Hi a9
 clear h7 aM a9 H6 aP
 go_wp2
 refine bodyPost_ret (v:=.tuple #[.agg zero11,.int .i64 5]) (by simp [results,Tryz.results93,go_sem, *]) rfl ⟨rfl,(H7.out.set ac.out 6 _).done (.int .i64 0) (.int .i64 0) (.slice none 0 0) (.int .i64 0) (.int .i64 0) (.int .i64 0) (.slice none 0 0) (.int .i64 0) (.int .i64 0) (.int .i64 0) (.slice none 0 0)⟩
theorem take_d3 (A:Option Addr) (c:Nat) (l:List UInt8) (w:World) (hr:Reads w A l) (a3:0<l.length) (hl:l.length≤140737488355328) (a7:l.length≤c) (hc:c≤9223372036854775807) (aa:Tabs w) (hk:((l[0]'a3).toNat:Int)=2) (a6:(d4 l).2.2=false) (ak:¬(d4 l).1<1) :
 Calls Tryz.prog 93 #[.slice A l.length c] w (TakePost w (.ok { frZero with kind:=2,number:=(d1 l).1,seq:=(d2 l).1,first:=(d3 l).1,rows:=(d4 l).1,block:=l.drop (d4 l).2.1 })):=by
 obtain ⟨ad,rfl,a2⟩:=hr.out 0 a3
 have az:=World.block_lt_of_cell? w _ a2
 rw [addr_add_block] at az
 rw [addr_add_zero,hk] at a2
 have h0:=TkAt.start w (some ad) c l hr #[.int .i64 2,.int .i64 0,.slice none 0 0,.int .i64 0,.int .i64 0,.int .i64 0,.slice none 0 0,.int .i64 0,.int .i64 0,.int .i64 0,.slice none 0 0] hl a7 hc a3
 obtain ⟨W,hW⟩:∃ W,W=(((w.alloc (.cells zero11 36)).alloc (.cells #[.int .i64 2,.int .i64 0,.slice none 0 0,.int .i64 0,.int .i64 0,.int .i64 0,.slice none 0 0,.int .i64 0,.int .i64 0,.int .i64 0,.slice none 0 0] 36)).alloc (.cells #[.slice (some ad) l.length c,.int .i64 1,.bool false] 172)):=⟨_,rfl⟩
 rw [← hW] at h0
 have ai:=frOf_calls (.int .i64 0) (.int .i64 0) (.slice none 0 0) (.int .i64 0) (.int .i64 0) (.int .i64 0) (.slice none 0 0) (2) (.int .i64 0) (.int .i64 0) (.int .i64 0) (.slice none 0 0) W
 have H0:=Hi h0
 have an:=Hi ai
 have ac:=Hi hr
 have hv:ofV #[.int .i64 2,.int .i64 0,.slice none 0 0,.int .i64 0,.int .i64 0,.int .i64 0,.slice none 0 0,.int .i64 0,.int .i64 0,.int .i64 0,.slice none 0 0] 2 #[.int .i64 0,.int .i64 0,.int .i64 0,.slice none 0 0]=.iface 151 (.agg #[.int .i64 2,.int .i64 0,.slice none 0 0,.int .i64 0,.int .i64 0,.int .i64 0,.slice none 0 0,.int .i64 0,.int .i64 0,.int .i64 0,.slice none 0 0]):=rfl
 obtain ⟨⟨n1,s1⟩,al⟩:∃ r,r=d1 l:=⟨_,rfl⟩
 obtain ⟨⟨n2,s2⟩,ae⟩:∃ r,r=d2 l:=⟨_,rfl⟩
 obtain ⟨⟨n3,s3⟩,a8⟩:∃ r,r=d3 l:=⟨_,rfl⟩
 obtain ⟨⟨n4,⟨a4,b4⟩⟩,a5⟩:∃ r,r=d4 l:=⟨_,rfl⟩
 rw [← al,← ae,← a8]
 try rw [← a5]
 rw [← a5] at a6 ak
 simp only at a6 ak
 subst a6
 unfold d1 at al
 unfold d2 at ae
 unfold d3 at a8
 unfold d4 at a5
 try simp only
 unfold d3 at a5
 unfold d2 at a8 a5
 unfold d1 at ae a8 a5
 rw [← al] at ae a8 a5
 simp only at ae a8 a5
 rw [← ae] at a8 a5
 simp only at a8 a5
 rw [← a8] at a5
 simp only at a5
 have bk:=Hi al
 have bd:=Hi ae
 have bj:=Hi a8
 have bg:=Hi a5
 clear al ae a8 a5 hk
 have hq:decide (n4<1)=false:=by simpa using ak
 have b8:=Hi aa
 have ax:=Hi a7
 have HC:=Hi hc
 clear ai h0 hr a7 hc aa
 have aC:0<l.length:=a3
 clear a3
 generalize am:l.length=L at hl hW aC ⊢
 have aq:=Hi am
 clear am
 go_enter Tryz.func93,Tryz.ntmps93
 go_wp2_with fail
 rw [← hW]
 clear hW
 refine an.out.mono ?_
 rintro e w1 ⟨rfl,ah⟩
 have h1:=H0.out.later ah
 rw [hv]
 clear hv an H0
 obtain ⟨⟨c0,c1,c2,c3,c4,c5,c6,c7,c8,c9,c10⟩,z0,z1,z2,z3,z4,z5,z6,z7,z8,z9,z10⟩:=cells11 h1.fr
 have ab:=rnum_calls (w.heap.size+1+1) (some ad) c l (1,false) 2147483648 (by decide) w1 h1.rd
 rw [← bk.out] at ab
 have ao:=Hi ab
 have H1:=Hi h1
 clear h1 ab
 go_wp2_with fail
 refine ao.out.mono ?_
 rintro e w2 ⟨rfl,ap,au⟩
 have h2:=H1.out.call ap au
 clear ap au ao H1
 have aw:=rnum_calls (w.heap.size+1+1) (some ad) c l s1 seqMax (by decide) w2 h2.rd
 rw [← bd.out] at aw
 have aS:=Hi aw
 have H2:=Hi h2
 clear h2 aw
 go_wp2_with fail
 refine aS.out.mono ?_
 rintro e w3 ⟨rfl,aU,aX⟩
 have h3:=H2.out.call aU aX
 clear aU aX aS H2
 have aE:=rnum_calls (w.heap.size+1+1) (some ad) c l s2 seqMax (by decide) w3 h3.rd
 rw [← bj.out] at aE
 have aT:=Hi aE
 have H3:=Hi h3
 clear h3 aE
 go_wp2_with fail
 refine aT.out.mono ?_
 rintro e w4 ⟨rfl,aY,aJ⟩
 have h4:=H3.out.call aY aJ
 clear aY aJ aT H3
 obtain ⟨⟨c0,c1,c2,c3,c4,c5,c6,c7,c8,c9,c10⟩,z0,z1,z2,z3,z4,z5,z6,z7,z8,z9,z10⟩:=cells11 h4.fr
 have u4:=obj_lt h4.rd.obj
 replace h4:=((h4.set ac.out 1 (.int .i64 n1)).set ac.out 3 (.int .i64 n2)).set ac.out 4 (.int .i64 n3)
 have aD:=rnum_calls (w.heap.size+1+1) (some ad) c l s3 65 (by decide) _ h4.rd
 rw [← bg.out] at aD
 have aO:=Hi aD
 have H4:=Hi h4
 clear h4 aD
 go_wp2_with fail
 refine aO.out.mono ?_
 rintro e w5 ⟨rfl,aW,aN⟩
 have h5:=H4.out.call aW aN
 clear aW aN aO H4
 obtain ⟨⟨c0,c1,c2,c3,c4,c5,c6,c7,c8,c9,c10⟩,z0,z1,z2,z3,z4,z5,z6,z7,z8,z9,z10⟩:=cells11 h5.fr
 obtain ⟨r0,r1,r2,x0,x1,x2⟩:=cells3 h5.rd.obj
 have u5:=obj_lt h5.rd.obj
 have h6:=(h5.set ac.out 5 (.int .i64 n4)).bad false
 have bN:a4≤L:=by have:=h5.rd.within;rw [aq.out] at this;exact this
 have bQ:L≤c:=by have:=ax.out;rw [aq.out] at this;exact this
 obtain ⟨Z,aV⟩:∃ Z,(if c=a4 then some ad else some (ad.add a4))=Z:=⟨_,rfl⟩
 obtain ⟨bl,ar⟩:∃ bl,bl=l.drop a4:=⟨_,rfl⟩
 have aj:bl.length=L-a4:=by rw [ar,List.length_drop,aq.out]
 obtain ⟨W6,aA⟩:∃ W6,W6=(w5.setCell ⟨w.heap.size+1,5,none⟩ (.int .i64 n4)).setCell ⟨w.heap.size+1+1,2,none⟩ (.bool false):=⟨_,rfl⟩
 rw [← aA] at h6
 have aR:Reads W6 Z bl:=by
  rw [ar]
  refine h6.rd.reads.drop_any a4 Z fun bt ad' e=>?_
  cases e
  have:=ax.out
  rw [← aV,if_neg (by omega)]
 have aB:=clone_bytes Z (c-a4) bl W6 (by omega) aR
 rw [aj] at aB
 have aP:=Hi aB
 have H6:=Hi h6
 have bA:=Hi ar
 have bf:=Hi aj
 have br:=Hi (obj_lt h6.rd.obj)
 clear h5 h6 aB ar aR x0 r0 aj
 go_wp2_with fail
 clear aV
 rw [← aA]
 clear aA
 refine aP.out.mono ?_
 rintro e w7 ⟨v7,rfl,a9,aM⟩
 obtain ⟨As,cs,rfl,_⟩:=a9.form
 have h7:=H6.out.later aM
 obtain ⟨⟨c0,c1,c2,c3,c4,c5,c6,c7,c8,c9,c10⟩,z0,z1,z2,z3,z4,z5,z6,z7,z8,z9,z10⟩:=cells11 h7.fr
 obtain ⟨⟨d0,d1,d2,d3,d4,d5,d6,d7,d8,d9,d10⟩,y0,y1,y2,y3,y4,y5,y6,y7,y8,y9,y10⟩:=cells11 h7.res
 obtain ⟨r0,r1,r2,x0,x1,x2⟩:=cells3 h7.rd.obj
 have u7:=obj_lt h7.rd.obj
 have H7:=Hi h7
 have bq:=Hi a9
 clear h7 aM a9 H6 aP
 go_wp2
 have h8:=H7.out.set ac.out 6 (.slice As bl.length cs)
 have ci:OwnL 5 (w7.setCell ⟨w.heap.size+1,6,none⟩ (.slice As bl.length cs)) (w.heap.size+1+1) (.slice As bl.length cs) bl:=
  (bq.out.lower _ (by have:=br.out;omega)).keep ((Touch.refl (At (w.heap.size+1)) w7).set 6 _) fun k hk e=>by
    have:=(bq.out.lt k hk).1
    have:=br.out
    rw [At] at e
    omega
 refine bodyPost_ret (v:=.tuple #[.agg #[.int .i64 2,.int .i64 n1,.slice none 0 0,.int .i64 n2,.int .i64 n3,.int .i64 n4,.slice As bl.length cs,.int .i64 0,.int .i64 0,.int .i64 0,.slice none 0 0],.int .i64 0]) (by simp [results,Tryz.results93,go_sem, *]) rfl ?_
 have hb:=bA.out
 refine ⟨none,0,As,cs,none,0, ?_,⟨SchS.nil _ _ _, ?_,Loose.empty _ _ _ _ _⟩,h8.done _ _ _ _ _ _ _ _ _ _ _⟩
 · rw [← hb];rfl
 · rw [← hb]
   exact (ci.lower w.heap.size (by omega)).keep (store11_touch _ _ _ _ _ _ _ _ _ _ _ _ _) fun k hk e=>by have:=(ci.lt k hk).1;rw [At] at e;omega
theorem take_i1 (A:Option Addr) (c:Nat) (l:List UInt8) (w:World) (hr:Reads w A l) (a3:0<l.length) (hl:l.length≤140737488355328) (a7:l.length≤c) (hc:c≤9223372036854775807) (aa:Tabs w) (hk:((l[0]'a3).toNat:Int)=3) (a6:(rindex l (1,false)).2.2=true) :
 Calls Tryz.prog 93 #[.slice A l.length c] w (fun e w'=>e=.returned (.tuple #[.agg zero11,.int .i64 5])∧Keeps w w'):=by
 obtain ⟨ad,rfl,a2⟩:=hr.out 0 a3
 have az:=World.block_lt_of_cell? w _ a2
 rw [addr_add_block] at az
 rw [addr_add_zero,hk] at a2
 have h0:=TkAt.start w (some ad) c l hr #[.int .i64 3,.int .i64 0,.slice none 0 0,.int .i64 0,.int .i64 0,.int .i64 0,.slice none 0 0,.int .i64 0,.int .i64 0,.int .i64 0,.slice none 0 0] hl a7 hc a3
 obtain ⟨W,hW⟩:∃ W,W=(((w.alloc (.cells zero11 36)).alloc (.cells #[.int .i64 3,.int .i64 0,.slice none 0 0,.int .i64 0,.int .i64 0,.int .i64 0,.slice none 0 0,.int .i64 0,.int .i64 0,.int .i64 0,.slice none 0 0] 36)).alloc (.cells #[.slice (some ad) l.length c,.int .i64 1,.bool false] 172)):=⟨_,rfl⟩
 rw [← hW] at h0
 have ai:=frOf_calls (.int .i64 0) (.int .i64 0) (.slice none 0 0) (.int .i64 0) (.int .i64 0) (.int .i64 0) (.slice none 0 0) (3) (.int .i64 0) (.int .i64 0) (.int .i64 0) (.slice none 0 0) W
 have H0:=Hi h0
 have an:=Hi ai
 have ac:=Hi hr
 have hv:ofV #[.int .i64 3,.int .i64 0,.slice none 0 0,.int .i64 0,.int .i64 0,.int .i64 0,.slice none 0 0,.int .i64 0,.int .i64 0,.int .i64 0,.slice none 0 0] 3 #[.int .i64 0,.int .i64 0,.int .i64 0,.slice none 0 0]=.iface 153 (.agg #[.int .i64 0,.int .i64 0,.int .i64 0,.slice none 0 0]):=rfl
 obtain ⟨⟨⟨n1,n2,n3,es⟩,⟨a1,b1⟩⟩,b5⟩:∃ r,r=rindex l (1,false):=⟨_,rfl⟩
 rw [← b5] at a6
 simp only at a6
 subst a6
 have bK:=Hi b5
 clear b5 hk
 have b8:=Hi aa
 have ax:=Hi a7
 have HC:=Hi hc
 clear ai h0 hr a7 hc aa
 have aC:0<l.length:=a3
 clear a3
 generalize am:l.length=L at hl hW aC ⊢
 have aq:=Hi am
 clear am
 go_enter Tryz.func93,Tryz.ntmps93
 go_wp2_with fail
 rw [← hW]
 clear hW
 refine an.out.mono ?_
 rintro e w1 ⟨rfl,ah⟩
 have h1:=H0.out.later ah
 rw [hv]
 clear hv an H0
 obtain ⟨⟨c0,c1,c2,c3,c4,c5,c6,c7,c8,c9,c10⟩,z0,z1,z2,z3,z4,z5,z6,z7,z8,z9,z10⟩:=cells11 h1.fr
 have ab:=rindex_calls (w.heap.size+1+1) (some ad) c l (1,false) w1 h1.rd
 rw [← bK.out] at ab
 unfold IxPost at ab
 simp only at ab
 have ao:=Hi ab
 have bx:=Hi (obj_lt h1.rd.obj)
 have H1:=Hi h1
 clear h1 ab ah
 go_wp2_with fail
 refine ao.out.mono ?_
 rintro e w2 ⟨v2,rfl,aH,ap,au⟩
 obtain ⟨E2,k2,rfl,_⟩:=aH.form
 have h2:=H1.out.call ap au
 obtain ⟨N,hN⟩:∃ N,N=es.length:=⟨_,rfl⟩
 rw [← hN] at aH
 try rw [← hN]
 obtain ⟨⟨c0,c1,c2,c3,c4,c5,c6,c7,c8,c9,c10⟩,z0,z1,z2,z3,z4,z5,z6,z7,z8,z9,z10⟩:=cells11 h2.fr
 obtain ⟨⟨d0,d1,d2,d3,d4,d5,d6,d7,d8,d9,d10⟩,y0,y1,y2,y3,y4,y5,y6,y7,y8,y9,y10⟩:=cells11 h2.res
 obtain ⟨r0,r1,r2,x0,x1,x2⟩:=cells3 h2.rd.obj
 have u2:=obj_lt h2.rd.obj
 have H2:=Hi h2
 have bE:=Hi aH
 have HN:=Hi hN
 clear h2 ap au aH hN H1 ao
 go_wp2
 refine bodyPost_ret (v:=.tuple #[.agg zero11,.int .i64 5]) (by simp [results,Tryz.results93,go_sem, *]) rfl ⟨rfl,((((H2.out.set ac.out 7 _).set ac.out 8 _).set ac.out 9 _).set ac.out 10 _).done (.int .i64 0) (.int .i64 0) (.slice none 0 0) (.int .i64 0) (.int .i64 0) (.int .i64 0) (.slice none 0 0) (.int .i64 0) (.int .i64 0) (.int .i64 0) (.slice none 0 0)⟩
theorem take_i2 (A:Option Addr) (c:Nat) (l:List UInt8) (w:World) (hr:Reads w A l) (a3:0<l.length) (hl:l.length≤140737488355328) (a7:l.length≤c) (hc:c≤9223372036854775807) (aa:Tabs w) (hk:((l[0]'a3).toNat:Int)=3) (a6:(rindex l (1,false)).2.2=false) :
 Calls Tryz.prog 93 #[.slice A l.length c] w (TakePost w (.ok { frZero with kind:=3,spot:=(rindex l (1,false)).1.spot,frames:=(rindex l (1,false)).1.frames,irows:=(rindex l (1,false)).1.irows,ents:=(rindex l (1,false)).1.ents })):=by
 obtain ⟨ad,rfl,a2⟩:=hr.out 0 a3
 have az:=World.block_lt_of_cell? w _ a2
 rw [addr_add_block] at az
 rw [addr_add_zero,hk] at a2
 have h0:=TkAt.start w (some ad) c l hr #[.int .i64 3,.int .i64 0,.slice none 0 0,.int .i64 0,.int .i64 0,.int .i64 0,.slice none 0 0,.int .i64 0,.int .i64 0,.int .i64 0,.slice none 0 0] hl a7 hc a3
 obtain ⟨W,hW⟩:∃ W,W=(((w.alloc (.cells zero11 36)).alloc (.cells #[.int .i64 3,.int .i64 0,.slice none 0 0,.int .i64 0,.int .i64 0,.int .i64 0,.slice none 0 0,.int .i64 0,.int .i64 0,.int .i64 0,.slice none 0 0] 36)).alloc (.cells #[.slice (some ad) l.length c,.int .i64 1,.bool false] 172)):=⟨_,rfl⟩
 rw [← hW] at h0
 have ai:=frOf_calls (.int .i64 0) (.int .i64 0) (.slice none 0 0) (.int .i64 0) (.int .i64 0) (.int .i64 0) (.slice none 0 0) (3) (.int .i64 0) (.int .i64 0) (.int .i64 0) (.slice none 0 0) W
 have H0:=Hi h0
 have an:=Hi ai
 have ac:=Hi hr
 have hv:ofV #[.int .i64 3,.int .i64 0,.slice none 0 0,.int .i64 0,.int .i64 0,.int .i64 0,.slice none 0 0,.int .i64 0,.int .i64 0,.int .i64 0,.slice none 0 0] 3 #[.int .i64 0,.int .i64 0,.int .i64 0,.slice none 0 0]=.iface 153 (.agg #[.int .i64 0,.int .i64 0,.int .i64 0,.slice none 0 0]):=rfl
 obtain ⟨⟨⟨n1,n2,n3,es⟩,⟨a1,b1⟩⟩,b5⟩:∃ r,r=rindex l (1,false):=⟨_,rfl⟩
 rw [← b5] at a6 ⊢
 simp only at a6 ⊢
 subst a6
 have bK:=Hi b5
 clear b5 hk
 have b8:=Hi aa
 have ax:=Hi a7
 have HC:=Hi hc
 clear ai h0 hr a7 hc aa
 have aC:0<l.length:=a3
 clear a3
 generalize am:l.length=L at hl hW aC ⊢
 have aq:=Hi am
 clear am
 go_enter Tryz.func93,Tryz.ntmps93
 go_wp2_with fail
 rw [← hW]
 clear hW
 refine an.out.mono ?_
 rintro e w1 ⟨rfl,ah⟩
 have h1:=H0.out.later ah
 rw [hv]
 clear hv an H0
 obtain ⟨⟨c0,c1,c2,c3,c4,c5,c6,c7,c8,c9,c10⟩,z0,z1,z2,z3,z4,z5,z6,z7,z8,z9,z10⟩:=cells11 h1.fr
 have ab:=rindex_calls (w.heap.size+1+1) (some ad) c l (1,false) w1 h1.rd
 rw [← bK.out] at ab
 unfold IxPost at ab
 simp only at ab
 have ao:=Hi ab
 have bx:=Hi (obj_lt h1.rd.obj)
 have H1:=Hi h1
 clear h1 ab ah
 go_wp2_with fail
 refine ao.out.mono ?_
 rintro e w2 ⟨v2,rfl,aH,ap,au⟩
 obtain ⟨E2,k2,rfl,_⟩:=aH.form
 have h2:=H1.out.call ap au
 obtain ⟨N,hN⟩:∃ N,N=es.length:=⟨_,rfl⟩
 rw [← hN] at aH
 try rw [← hN]
 obtain ⟨⟨c0,c1,c2,c3,c4,c5,c6,c7,c8,c9,c10⟩,z0,z1,z2,z3,z4,z5,z6,z7,z8,z9,z10⟩:=cells11 h2.fr
 obtain ⟨⟨d0,d1,d2,d3,d4,d5,d6,d7,d8,d9,d10⟩,y0,y1,y2,y3,y4,y5,y6,y7,y8,y9,y10⟩:=cells11 h2.res
 obtain ⟨r0,r1,r2,x0,x1,x2⟩:=cells3 h2.rd.obj
 have u2:=obj_lt h2.rd.obj
 have H2:=Hi h2
 have bE:=Hi aH
 have HN:=Hi hN
 clear h2 ap au aH hN H1 ao
 go_wp2
 have h3:=(((H2.out.set ac.out 7 (.int .i64 n1)).set ac.out 8 (.int .i64 n2)).set ac.out 9 (.int .i64 n3)).set ac.out 10 (.slice E2 N k2)
 have bR:Loose ((((w2.setCell ⟨w.heap.size+1,7,none⟩ (.int .i64 n1)).setCell ⟨w.heap.size+1,8,none⟩ (.int .i64 n2)).setCell ⟨w.heap.size+1,9,none⟩ (.int .i64 n3)).setCell ⟨w.heap.size+1,10,none⟩ (.slice E2 N k2)) (w.heap.size+1+1) 78 3 (.slice E2 N k2) N (entCells es):=
  (bE.out.lower _ (by have:=bx.out;omega)).keep (((((Touch.refl (At (w.heap.size+1)) w2).set 7 _).set 8 _).set 9 _).set 10 _) fun k hk e=>by
    have:=(bE.out.lt k hk).1
    have:=bx.out
    rw [At] at e
    omega
 refine bodyPost_ret (v:=.tuple #[.agg #[.int .i64 3,.int .i64 0,.slice none 0 0,.int .i64 0,.int .i64 0,.int .i64 0,.slice none 0 0,.int .i64 n1,.int .i64 n2,.int .i64 n3,.slice E2 N k2],.int .i64 0]) (by simp [results,Tryz.results93,go_sem, *]) rfl ?_
 have hN:=HN.out
 subst hN
 refine ⟨none,0,none,0,E2,k2,rfl,⟨SchS.nil _ _ _,OwnL.empty _ _ _ _, ?_⟩,h3.done _ _ _ _ _ _ _ _ _ _ _⟩
 exact (bR.lower w.heap.size (by omega)).keep (store11_touch _ _ _ _ _ _ _ _ _ _ _ _ _) fun k hk e=>by have:=(bR.lt k hk).1;rw [At] at e;omega
theorem take_n (A:Option Addr) (c:Nat) (l:List UInt8) (w:World) (hr:Reads w A l) (a3:0<l.length) (hl:l.length≤140737488355328) (a7:l.length≤c) (hc:c≤9223372036854775807) (aa:Tabs w) (n:Nat) (hn:((l[0]'a3).toNat:Int)=(n:Int)) (ah:¬(n:Int)=1) (bX:¬(n:Int)=2) (aQ:¬(n:Int)=3)  :
 Calls Tryz.prog 93 #[.slice A l.length c] w (fun e w'=>e=.returned (.tuple #[.agg zero11,.int .i64 60])∧Keeps w w'):=by
 obtain ⟨ad,rfl,a2⟩:=hr.out 0 a3
 have az:=World.block_lt_of_cell? w _ a2
 rw [addr_add_block] at az
 rw [addr_add_zero,hn] at a2
 have h0:=TkAt.start w (some ad) c l hr #[.int .i64 (n:Int),.int .i64 0,.slice none 0 0,.int .i64 0,.int .i64 0,.int .i64 0,.slice none 0 0,.int .i64 0,.int .i64 0,.int .i64 0,.slice none 0 0] hl a7 hc a3
 obtain ⟨W,hW⟩:∃ W,W=(((w.alloc (.cells zero11 36)).alloc (.cells #[.int .i64 (n:Int),.int .i64 0,.slice none 0 0,.int .i64 0,.int .i64 0,.int .i64 0,.slice none 0 0,.int .i64 0,.int .i64 0,.int .i64 0,.slice none 0 0] 36)).alloc (.cells #[.slice (some ad) l.length c,.int .i64 1,.bool false] 172)):=⟨_,rfl⟩
 rw [← hW] at h0
 have ai:=frOf_calls (.int .i64 0) (.int .i64 0) (.slice none 0 0) (.int .i64 0) (.int .i64 0) (.int .i64 0) (.slice none 0 0) ((n:Int)) (.int .i64 0) (.int .i64 0) (.int .i64 0) (.slice none 0 0) W
 have H0:=Hi h0
 have an:=Hi ai
 have ac:=Hi hr
 have hv:ofV #[.int .i64 (n:Int),.int .i64 0,.slice none 0 0,.int .i64 0,.int .i64 0,.int .i64 0,.slice none 0 0,.int .i64 0,.int .i64 0,.int .i64 0,.slice none 0 0] (n:Int) #[.int .i64 0,.int .i64 0,.int .i64 0,.slice none 0 0]=.nilIface:=by simp only [ofV,ah,bX,aQ,if_false]
 have hb:n<256:=by have:=(l[0]'a3).toNat_lt;omega
 clear ah bX aQ hn
 have b8:=Hi aa
 have ax:=Hi a7
 have HC:=Hi hc
 clear ai h0 hr a7 hc aa
 have aC:0<l.length:=a3
 clear a3
 generalize am:l.length=L at hl hW aC ⊢
 have aq:=Hi am
 clear am
 go_enter Tryz.func93,Tryz.ntmps93
 go_wp2_with fail
 rw [← hW]
 clear hW
 refine an.out.mono ?_
 rintro e w1 ⟨rfl,ah⟩
 have h1:=H0.out.later ah
 rw [hv]
 clear hv an H0
 obtain ⟨⟨d0,d1,d2,d3,d4,d5,d6,d7,d8,d9,d10⟩,y0,y1,y2,y3,y4,y5,y6,y7,y8,y9,y10⟩:=cells11 h1.res
 have u1:=obj_lt h1.rd.obj
 have H1:=Hi h1
 clear h1 ah
 go_wp2
 refine bodyPost_ret (v:=.tuple #[.agg zero11,.int .i64 60]) (by simp [results,Tryz.results93,go_sem, *]) rfl ⟨rfl,H1.out.done (.int .i64 0) (.int .i64 0) (.slice none 0 0) (.int .i64 0) (.int .i64 0) (.int .i64 0) (.slice none 0 0) (.int .i64 0) (.int .i64 0) (.int .i64 0) (.slice none 0 0)⟩
end
section
open Go.RowKit Go.BigFrame
theorem take_calls (A:Option Addr) (c:Nat) (l:List UInt8) (w:World) (hr:Reads w A l) (a3:0<l.length) (hl:l.length≤140737488355328) (a7:l.length≤c) (hc:c≤9223372036854775807) (aa:Tabs w) :
 Calls Tryz.prog 93 #[.slice A l.length c] w (TakePost w (takeF l)):=by
 obtain ⟨b,t,rfl⟩:∃ b t,l=b :: t:=by
  cases l with
  | nil=>simp at a3
  | cons b t=>exact ⟨b,t,rfl⟩
 rw [takeF]
 by_cases h1:b=1
 · rw [if_pos h1]
   have hk:(((b :: t)[0]'a3).toNat:Int)=1:=by subst h1;rfl
   unfold takeS
   cases hb:(rnum (b :: t) 2147483648 (1,false)).2.2 with
   | true=>
     simp only [hb,if_true]
     exact take_s1 A c _ w hr a3 hl a7 hc aa hk hb
   | false=>
     simp only [hb,Bool.false_eq_true,if_false]
     cases hd:decodeS ((b :: t).drop (rnum (b :: t) 2147483648 (1,false)).2.1) with
     | error er=>exact take_s2 A c _ w hr a3 hl a7 hc aa hk hb er hd
     | ok cols=>exact take_s3 A c _ w hr a3 hl a7 hc aa hk hb cols hd
 rw [if_neg h1]
 by_cases h2:b=2
 · rw [if_pos h2]
   have hk:(((b :: t)[0]'a3).toNat:Int)=2:=by subst h2;rfl
   have he:takeD (b :: t)=if (d4 (b :: t)).2.2||decide ((d4 (b :: t)).1<1) then .error 5 else .ok { frZero with kind:=2,number:=(d1 (b :: t)).1,seq:=(d2 (b :: t)).1,first:=(d3 (b :: t)).1,rows:=(d4 (b :: t)).1,block:=(b :: t).drop (d4 (b :: t)).2.1 }:=rfl
   rw [he]
   cases hb:(d4 (b :: t)).2.2 with
   | true=>
     rw [if_pos (by simp)]
     exact take_d1 A c _ w hr a3 hl a7 hc aa hk hb
   | false=>
     by_cases ak:(d4 (b :: t)).1<1
     · rw [if_pos (by simpa using ak)]
       exact take_d2 A c _ w hr a3 hl a7 hc aa hk hb ak
     · rw [if_neg (by simpa using ak)]
       exact take_d3 A c _ w hr a3 hl a7 hc aa hk hb ak
 rw [if_neg h2]
 by_cases h3:b=3
 · rw [if_pos h3]
   have hk:(((b :: t)[0]'a3).toNat:Int)=3:=by subst h3;rfl
   unfold takeI
   cases hb:(rindex (b :: t) (1,false)).2.2 with
   | true=>
     simp only [hb,if_true]
     exact take_i1 A c _ w hr a3 hl a7 hc aa hk hb
   | false=>
     simp only [hb,Bool.false_eq_true,if_false]
     exact take_i2 A c _ w hr a3 hl a7 hc aa hk hb
 rw [if_neg h3]
 have bI:∀ k:Nat,k<256→¬b=UInt8.ofNat k→¬(b.toNat:Int)=(k:Int):=fun k hk h e=>h (by
  rw [← UInt8.toNat_inj,UInt8.toNat_ofNat']
  omega)
 exact take_n A c _ w hr a3 hl a7 hc aa b.toNat rfl (bI 1 (by decide) h1) (bI 2 (by decide) h2) (bI 3 (by decide) h3)
def decF (run:List UInt8):Except Int Fr:=
 if 2200<run.length then .error 2
 else if (unstuffOf run).2≠0 then .error (unstuffOf run).2
 else if (unstuffOf run).1.length<5 then .error 30
 else if Crc.sum (nats ((unstuffOf run).1.take ((unstuffOf run).1.length-4)))≠le ((unstuffOf run).1.drop ((unstuffOf run).1.length-4)) then .error 120
 else takeF ((unstuffOf run).1.take ((unstuffOf run).1.length-4))
theorem FrO.lower {w:World} {base b':Nat} {A B E:Option Addr} {d k:Nat} {f:Fr} (h:FrO w base A B d E k f) (hb:b'≤base):FrO w b' A B d E k f:=
 ⟨h.sch.mono fun b _ cf=>Nat.le_trans hb cf,h.blk.lower _ hb,h.ent.lower _ hb⟩
theorem le_four (b0 b1 b2 b3:UInt8):le [b0,b1,b2,b3]=b0.toNat+b1.toNat*256+b2.toNat*65536+b3.toNat*16777216:=by
 simp only [le]
 omega
theorem or_addU {n m k:Nat} (hn:n<2 ^ k) (hs:n+m*2 ^ k<4294967296):bits BinOp.or IntKind.u32 (n:Int) ((m*2 ^ k:Nat):Int)=((n+m*2 ^ k:Nat):Int):=by
 have h1:n ||| m*2 ^ k=n+m*2 ^ k:=by
  rw [Nat.or_comm,Nat.mul_comm,← Nat.two_pow_add_eq_or_of_lt hn,Nat.add_comm]
 rw [u32_or_nat _ _ (by omega) (by omega),h1]
theorem or_four (b0 b1 b2 b3:Nat) (h0:b0<2 ^ 8) (h1:b1<2 ^ 8) (h2:b2<2 ^ 8) (h3:b3<2 ^ 8) :
 bits BinOp.or IntKind.u32 (bits BinOp.or IntKind.u32 (bits BinOp.or IntKind.u32 (b0:Int) ((b1:Int)*256)) ((b2:Int)*65536)) ((b3:Int)*16777216)=((b0+b1*256+b2*65536+b3*16777216:Nat):Int):=by
 have e1:=or_addU (n:=b0) (m:=b1) (k:=8) (by omega) (by omega)
 have e2:=or_addU (n:=b0+b1*256) (m:=b2) (k:=16) (by omega) (by omega)
 have e3:=or_addU (n:=b0+b1*256+b2*65536) (m:=b3) (k:=24) (by omega) (by omega)
 simp only [Nat.reducePow,Int.natCast_mul] at e1 e2 e3
 rw [show ((b1:Int)*256)=(b1:Int)*((256:Nat):Int) from rfl,e1]
 rw [show ((b2:Int)*65536)=(b2:Int)*((65536:Nat):Int) from rfl,e2]
 rw [show ((b3:Int)*16777216)=(b3:Int)*((16777216:Nat):Int) from rfl,e3]
theorem FrO.touch {w w':World} {base g:Nat} {A B E:Option Addr} {d k:Nat} {f:Fr} (h:FrO w base A B d E k f) (ht:Touch (At g) w w') (hg:g<base):FrO w' base A B d E k f:=
 ⟨h.sch.touch ht fun b hb e=>by have cf:base≤b:=hb;rw [At] at e;omega,h.blk.keep ht fun k hk e=>by have:=(h.blk.lt k hk).1;rw [At] at e;omega,h.ent.keep ht fun k hk e=>by have:=(h.ent.lt k hk).1;rw [At] at e;omega⟩
theorem drop4 {l:List UInt8} {n:Nat} (h:l.length=n+4):∃ b0 b1 b2 b3:UInt8,l.drop n=[b0,b1,b2,b3]:=by
 have h4:(l.drop n).length=4:=by rw [List.length_drop];omega
 match hq:l.drop n,h4 with
 | [a,b,c,d],_=>exact ⟨a,b,c,d,rfl⟩
structure ResAt (w wr:World):Prop where
 res:wr.heap[w.heap.size]? = some (.cells zero11 36)
 keeps:Keeps w wr
theorem ResAt.later {w wr w':World} (h:ResAt w wr) (hk:Keeps wr w'):ResAt w w':=⟨(hk.below.block _ (obj_lt h.res)).trans h.res,h.keeps.trans hk⟩
theorem ResAt.done {w wr:World} (h:ResAt w wr) (x0 x1 x2 x3 x4 x5 x6 x7 x8 x9 x10:Value):Keeps w (store11 wr w.heap.size x0 x1 x2 x3 x4 x5 x6 x7 x8 x9 x10):=
 Touch.nothing ((Touch.of_below (F:=At w.heap.size) h.keeps.below fun k hk e=>absurd hk (by omega)).then (store11_touch wr w.heap.size x0 x1 x2 x3 x4 x5 x6 x7 x8 x9 x10)) fun k hk e=>by rw [At] at e;omega
theorem decode_calls (A:Option Addr) (c:Nat) (run:List UInt8) (w:World) (hr:Reads w A run) (hl:run.length≤140737488355328) (a7:run.length≤c) (aa:Tabs w) (ht:Table w) :
 Calls Tryz.prog 62 #[.slice A run.length c] w (TakePost w (decF run)):=by
 by_cases av:2200<run.length
 · unfold decF
   rw [if_pos av]
   clear hr a7 aa ht
   generalize run.length=L at av hl ⊢
   go_enter Tryz.func62,Tryz.ntmps62
   go_wp2
   exact bodyPost_ret (v:=.tuple #[.agg zero11,.int .i64 2]) (by simp [results,Tryz.results62,go_sem, *]) rfl ⟨rfl,(Keeps.refl w).alloc _⟩
 obtain ⟨W,hW⟩:∃ W,W=w.alloc (.cells zero11 36):=⟨_,rfl⟩
 have bv:ResAt w W:=⟨by rw [hW];exact obj_new w _,by rw [hW];exact (Keeps.refl w).alloc _⟩
 have bz:=unstuff_calls A c run W (by omega) a7 (hr.below bv.keeps.below)
 have aZ:(unstuffOf run).2=0→(unstuffOf run).1.length≤run.length:=fun h0=>by
  have:=stuff_unstuff run (unstuffOf run).1 (by rw [← h0])
  have h2:=(stuff_length (unstuffOf run).1).1
  rw [this] at h2
  omega
 obtain ⟨R,hR⟩:∃ R,R=decF run:=⟨_,rfl⟩
 rw [← hR]
 unfold decF at hR
 rw [if_neg av] at hR
 generalize unstuffOf run=u at hR bz aZ
 obtain ⟨body,er⟩:=u
 simp only at hR aZ
 have b6:=Hi bz
 have HW:=Hi bv
 have b8:=Hi aa
 have HT:=Hi ht
 have bo:=Hi aZ
 clear bz bv aa ht hr aZ
 generalize run.length=L at hl av a7 b6 bo ⊢
 by_cases bi:er≠0
 · rw [if_pos bi] at hR
   have HR:=Hi hR
   have q0:(er != 0)=true:=by simpa using bi
   clear hR
   go_enter Tryz.func62,Tryz.ntmps62
   go_wp2_with fail
   rw [← hW]
   clear hW
   refine b6.out.mono ?_
   rintro e w1 ⟨v1,rfl,ag,ah⟩
   obtain ⟨B,cb,rfl,_⟩:=ag.form
   have h1:=HW.out.later ah
   obtain ⟨⟨d0,d1,d2,d3,d4,d5,d6,d7,d8,d9,d10⟩,y0,y1,y2,y3,y4,y5,y6,y7,y8,y9,y10⟩:=cells11 h1.res
   have u1:=obj_lt h1.res
   have H1:=Hi h1
   generalize body.length=M
   clear h1 ah ag b6 HW bo
   go_wp2
   exact bodyPost_ret (v:=.tuple #[.agg zero11,.int .i64 er]) (by simp [results,Tryz.results62,go_sem, *]) rfl (by rw [HR.out];exact ⟨rfl,H1.out.done (.int .i64 0) (.int .i64 0) (.slice none 0 0) (.int .i64 0) (.int .i64 0) (.int .i64 0) (.slice none 0 0) (.int .i64 0) (.int .i64 0) (.int .i64 0) (.slice none 0 0)⟩)
 rw [if_neg bi] at hR
 have bi:er=0:=by omega
 subst bi
 have aZ:=bo.out rfl
 clear bo
 by_cases af:body.length<5
 · rw [if_pos af] at hR
   have HR:=Hi hR
   clear hR
   go_enter Tryz.func62,Tryz.ntmps62
   go_wp2_with fail
   rw [← hW]
   clear hW
   refine b6.out.mono ?_
   rintro e w1 ⟨v1,rfl,ag,ah⟩
   obtain ⟨B,cb,rfl,_⟩:=ag.form
   have h1:=HW.out.later ah
   obtain ⟨⟨d0,d1,d2,d3,d4,d5,d6,d7,d8,d9,d10⟩,y0,y1,y2,y3,y4,y5,y6,y7,y8,y9,y10⟩:=cells11 h1.res
   have u1:=obj_lt h1.res
   have H1:=Hi h1
   clear h1 ah ag b6 HW
   have af:body.length<5:=af
   generalize body.length=M at af aZ ⊢
   have cn:IntKind.i64.wrap ((M:Int)-4)=(M:Int)-4:=IntWalk.i64_in _ (by omega)
   have bt:(M:Int)-4<1:=by omega
   go_wp2
   exact bodyPost_ret (v:=.tuple #[.agg zero11,.int .i64 30]) (by simp [results,Tryz.results62,go_sem, *]) rfl (by rw [HR.out];exact ⟨rfl,H1.out.done (.int .i64 0) (.int .i64 0) (.slice none 0 0) (.int .i64 0) (.int .i64 0) (.int .i64 0) (.slice none 0 0) (.int .i64 0) (.int .i64 0) (.int .i64 0) (.slice none 0 0)⟩)
 rw [if_neg af] at hR
 obtain ⟨n,hn⟩:∃ n,n=body.length-4:=⟨_,rfl⟩
 rw [← hn] at hR
 have hM:body.length=n+4:=by omega
 have al:1≤n:=by omega
 obtain ⟨b0,b1,b2,b3,hb⟩:=drop4 hM
 rw [hb] at hR
 obtain ⟨S,hS⟩:∃ S,S=Crc.sum (nats (body.take n)):=⟨_,rfl⟩
 rw [← hS] at hR
 have ce:=b0.toNat_lt
 have bV:=b1.toNat_lt
 have bZ:=b2.toNat_lt
 have bS:=b3.toNat_lt
 have bh:∀ j (hj:n+j<body.length),((body[n+j]'hj).toNat:Int)=((([b0,b1,b2,b3]:List UInt8).getD j 0).toNat:Int):=fun j hj=>by
  rw [← hb]
  simp [List.getD_eq_getElem?_getD,hj]
 have HR:=Hi hR
 have HS:=Hi hS
 have HN:=Hi hM
 have HB:=Hi hb
 have aF:=Hi bh
 clear hR hS hb hn af bh
 go_enter Tryz.func62,Tryz.ntmps62
 go_wp2_with fail
 rw [← hW]
 clear hW
 refine b6.out.mono ?_
 rintro e w1 ⟨v1,rfl,ag,ah⟩
 obtain ⟨B,cb,rfl,b9,aK,aL,_⟩:=ag.form
 have h1:=HW.out.later ah
 obtain ⟨⟨d0,d1,d2,d3,d4,d5,d6,d7,d8,d9,d10⟩,y0,y1,y2,y3,y4,y5,y6,y7,y8,y9,y10⟩:=cells11 h1.res
 have u1:=obj_lt h1.res
 have aK:Reads w1 B body:=aK
 have b9:body.length≤cb:=b9
 obtain ⟨ad,rfl,e0⟩:=aK.out (n+0) (by omega)
 obtain ⟨ad',e',e1⟩:=aK.out (n+1) (by omega)
 cases e'
 obtain ⟨ad',e',e2⟩:=aK.out (n+2) (by omega)
 cases e'
 obtain ⟨ad',e',e3⟩:=aK.out (n+3) (by omega)
 cases e'
 rw [aF.out 0 (by omega)] at e0
 rw [aF.out 1 (by omega)] at e1
 rw [aF.out 2 (by omega)] at e2
 rw [aF.out 3 (by omega)] at e3
 simp only [List.getD_cons_zero,List.getD_cons_succ,Nat.add_zero] at e0 e1 e2 e3
 have H1:=Hi h1
 have bO:=Hi aK
 have bT:=Hi (le_four b0 b1 b2 b3)
 clear h1 ah ag b6 HW aK aF
 generalize b0.toNat=x0 at *
 generalize b1.toNat=x1 at *
 generalize b2.toNat=x2 at *
 generalize b3.toNat=x3 at *
 have bB:body.length=n+4:=hM
 clear hM
 generalize cc:body.length=M at aZ bB b9 ⊢
 have HM:=Hi cc
 clear cc
 have cn:IntKind.i64.wrap ((M:Int)-4)=(n:Int):=by rw [IntWalk.i64_in _ (by omega)];omega
 obtain ⟨m1,bM⟩:∃ m,m=n+1:=⟨_,rfl⟩
 obtain ⟨m2,bW⟩:∃ m,m=n+2:=⟨_,rfl⟩
 obtain ⟨m3,ca⟩:∃ m,m=n+3:=⟨_,rfl⟩
 rw [← bM] at e1
 rw [← bW] at e2
 rw [← ca] at e3
 have i1:IntKind.i64.wrap ((n:Int)+1)=(m1:Int):=by rw [IntWalk.i64_in _ (by omega)];omega
 have i2:IntKind.i64.wrap ((n:Int)+2)=(m2:Int):=by rw [IntWalk.i64_in _ (by omega)];omega
 have i3:IntKind.i64.wrap ((n:Int)+3)=(m3:Int):=by rw [IntWalk.i64_in _ (by omega)];omega
 have bt:¬(n:Int)<1:=by omega
 have cr:n≤M:=by omega
 have j0:n<M:=by omega
 have j1:m1<M:=by omega
 have j2:m2<M:=by omega
 have j3:m3<M:=by omega
 clear bM bW ca
 have cz:=Hi bB
 clear bB
 go_wp2_with fail
 go_quiet (fail)
 go_wp2_with fail
 obtain ⟨K,hK⟩:∃ K,K=x0+x1*256+x2*65536+x3*16777216:=⟨_,rfl⟩
 rw [or_four x0 x1 x2 x3 ce bV bZ bS,← hK]
 have bG:=bT.out
 rw [← hK] at bG
 have bY:=Hi bG
 clear bG hK bT e0 e1 e2 e3 ce bV bZ bS
 have bC:(body.take n).length=n:=by rw [List.length_take,HM.out];omega
 have hs:=sum_calls (some ad) cb (body.take n) (w1.drewN nq) (by omega) ((bO.out.drewN nq).take n) ((HT.out.step H1.out.keeps.below).drewN nq)
 rw [bC,← HS.out] at hs
 have bw:=Hi hs
 have bp:=Hi bC
 have cj:=Hi cr
 clear hs bC
 refine bw.out.mono ?_
 rintro e w2 ⟨rfl,rfl⟩
 by_cases bF:S=K
 · have hR:=HR.out
   rw [bY.out,bF] at hR
   simp only [ne_eq,not_true,if_false] at hR
   have cd:=Hi hR
   have cy:=cj.out
   have q1:((S:Int) != (K:Int))=false:=by rw [bF];simp
   have ay:ResAt w (w1.drewN nq):=H1.out.later (Keeps.drewN _ _)
   have bD:=take_calls (some ad) cb (body.take n) (w1.drewN nq) ((bO.out.drewN nq).take n) (by rw [bp.out];omega) (by rw [bp.out];omega) (by rw [bp.out];omega) aL (b8.out.below ay.keeps.below)
   rw [bp.out,← hR] at bD
   have bu:=Hi bD
   have H2:=Hi ay
   clear hR bD ay HR bw cj
   go_wp2_with fail
   refine bu.out.mono ?_
   intro e w3 h3
   cases hR:R with
   | error x=>
     rw [hR] at h3
     obtain ⟨rfl,aQ⟩:=h3
     have h3:=H2.out.later aQ
     obtain ⟨⟨d0,d1,d2,d3,d4,d5,d6,d7,d8,d9,d10⟩,y0,y1,y2,y3,y4,y5,y6,y7,y8,y9,y10⟩:=cells11 h3.res
     have u3:=obj_lt h3.res
     have H3:=Hi h3
     have bH:=Hi hR
     clear h3 aQ H2 bu hR
     unfold frCells frZero
     go_wp2
     exact bodyPost_ret (v:=.tuple #[.agg zero11,.int .i64 x]) (by simp [results,Tryz.results62,go_sem, *]) rfl (by rw [bH.out];exact ⟨rfl,H3.out.done (.int .i64 0) (.int .i64 0) (.slice none 0 0) (.int .i64 0) (.int .i64 0) (.int .i64 0) (.slice none 0 0) (.int .i64 0) (.int .i64 0) (.int .i64 0) (.slice none 0 0)⟩)
   | ok f=>
     rw [hR] at h3
     obtain ⟨A3,c3,B3,d3',E3,k3,rfl,bU,aQ⟩:=h3
     have h3:=H2.out.later aQ
     obtain ⟨⟨d0,d1,d2,d3,d4,d5,d6,d7,d8,d9,d10⟩,y0,y1,y2,y3,y4,y5,y6,y7,y8,y9,y10⟩:=cells11 h3.res
     have u3:=obj_lt h3.res
     have HU:=Hi (obj_lt H2.out.res)
     have H3:=Hi h3
     have HF:=Hi bU
     have bH:=Hi hR
     clear h3 aQ bU H2 bu hR
     obtain ⟨n1,al⟩:∃ n1,n1=f.cols.length:=⟨_,rfl⟩
     obtain ⟨n2,ae⟩:∃ n2,n2=f.block.length:=⟨_,rfl⟩
     obtain ⟨n3,a8⟩:∃ n3,n3=f.ents.length:=⟨_,rfl⟩
     have bL:frCells A3 c3 B3 d3' E3 k3 f=#[.int .i64 f.kind,.int .i64 f.number,.slice A3 n1 c3,.int .i64 f.seq,.int .i64 f.first,.int .i64 f.rows,.slice B3 n2 d3',.int .i64 f.spot,.int .i64 f.frames,.int .i64 f.irows,.slice E3 n3 k3]:=by rw [al,ae,a8];rfl
     rw [bL]
     have cq:=Hi bL
     clear bL al ae a8
     go_wp2
     refine bodyPost_ret (v:=.tuple #[.agg #[.int .i64 f.kind,.int .i64 f.number,.slice A3 n1 c3,.int .i64 f.seq,.int .i64 f.first,.int .i64 f.rows,.slice B3 n2 d3',.int .i64 f.spot,.int .i64 f.frames,.int .i64 f.irows,.slice E3 n3 k3],.int .i64 0]) (by simp [results,Tryz.results62,go_sem, *]) rfl ?_
     rw [bH.out]
     refine ⟨A3,c3,B3,d3',E3,k3,by rw [cq.out], ?_,H3.out.done _ _ _ _ _ _ _ _ _ _ _⟩
     have ht:=store11_touch w3 w.heap.size (.int .i64 f.kind) (.int .i64 f.number) (.slice A3 n1 c3) (.int .i64 f.seq) (.int .i64 f.first) (.int .i64 f.rows) (.slice B3 n2 d3') (.int .i64 f.spot) (.int .i64 f.frames) (.int .i64 f.irows) (.slice E3 n3 k3)
     have hu:w.heap.size<(w1.drewN nq).heap.size:=HU.out
     exact (HF.out.touch ht hu).lower (by omega)
 · have hR:=HR.out
   rw [bY.out] at hR
   rw [if_pos bF] at hR
   have cd:=Hi hR
   have q1:((S:Int) != (K:Int))=true:=by
    rw [bne_iff_ne]
    omega
   have H2:Hid (ResAt w (w1.drewN nq)):=Hi H1.out.later (Keeps.drewN _ _)
   clear hR HR bw
   go_wp2
   exact bodyPost_ret (v:=.tuple #[.agg zero11,.int .i64 120]) (by simp [results,Tryz.results62,go_sem, *]) rfl (by rw [cd.out];exact ⟨rfl,H2.out.done (.int .i64 0) (.int .i64 0) (.slice none 0 0) (.int .i64 0) (.int .i64 0) (.int .i64 0) (.slice none 0 0) (.int .i64 0) (.int .i64 0) (.int .i64 0) (.slice none 0 0)⟩)
end
section
open Go.RowKit
structure Cut (l:List UInt8) (a k:Nat) (bs:List UInt8):Prop where
 eq:l.drop a=bs++l.drop k
 to:k=a+bs.length
theorem Cut.none (l:List UInt8) (a:Nat):Cut l a a []:=⟨rfl,rfl⟩
theorem Cut.of {l:List UInt8} {a:Nat} {bs r:List UInt8} (h:l.drop a=bs++r):Cut l a (a+bs.length) bs:=by
 refine ⟨?_,rfl⟩
 rw [← List.drop_drop,h,List.drop_left]
theorem Cut.trans {l:List UInt8} {a k m:Nat} {bs cs:List UInt8} (h:Cut l a k bs) (h':Cut l k m cs):Cut l a m (bs++cs):=
 ⟨by rw [h.eq,h'.eq,List.append_assoc],by rw [h'.to,h.to,List.length_append];omega⟩
theorem Cut.first {l:List UInt8} {a m:Nat} {bs cs:List UInt8} (h:Cut l a m (bs++cs)):Cut l a (a+bs.length) bs:=Cut.of (r:=cs++l.drop m) (by rw [h.eq,List.append_assoc])
theorem Cut.rest {l:List UInt8} {a m:Nat} {bs cs:List UInt8} (h:Cut l a m (bs++cs)):Cut l (a+bs.length) m cs:=by
 refine ⟨?_,by rw [h.to,List.length_append];omega⟩
 rw [← List.drop_drop,h.eq,List.append_assoc,List.drop_left]
theorem Cut.whole {l bs:List UInt8} (h:Cut l 0 l.length bs):l=bs:=by
 have:=h.eq
 rw [List.drop_length,List.append_nil] at this
 simpa using this
theorem Cut.start (l:List UInt8):Cut l 0 l.length l:=⟨by simp,by simp⟩
theorem Cut.le {l:List UInt8} {a k:Nat} {bs:List UInt8} (h:Cut l a k bs) (hb:0<bs.length):k≤l.length:=by
 have h1:=congrArg List.length h.eq
 rw [List.length_append,List.length_drop,List.length_drop] at h1
 have:=h.to
 omega
theorem lg_cut:∀ (s:List UInt8) (k n m j:Nat),k≤9→lg s k n=.ok (m,j)→∃ x,m=n+x*128 ^ k∧s=leb x++s.drop (leb x).length∧j=k+(leb x).length∧(0<k→0<x)∧x*128 ^ k<18446744073709551616
 | [],k,n,m,j,_,h=>by simp [lg] at h
 | c :: l,k,n,m,j,hk,h=>by
   rw [lg] at h
   split at h
   · cases h
   rename_i hf
   have hc:c.toNat<256:=c.toNat_lt
   have hp:=pow128_le hk
   split at h
   · rename_i b7
     injection h with h;injection h with h1 h2
     have hl:leb c.toNat=[c]:=by rw [leb_small b7];simp
     refine ⟨c.toNat,h1.symm,by rw [hl];simp,by rw [hl];simp;omega,by omega, ?_⟩
     have:=lg_room (n:=0) (k:=k) (c:=c.toNat) hk (Nat.pow_pos (by omega)) b7 (by omega)
     omega
   · rename_i b7
     have cv:k≠9:=by omega
     obtain ⟨x,h1,h2,h3,h4,h5⟩:=lg_cut l (k+1) _ m j (by omega) h
     have hx:=h4 (by omega)
     have hl:leb (c.toNat % 128+128*x)=c :: leb x:=by
      rw [leb_step (by omega)]
      have e1:(c.toNat % 128+128*x) % 128+128=c.toNat:=by omega
      have e2:(c.toNat % 128+128*x) / 128=x:=by omega
      rw [e1,e2]
      simp
     have bc:(c.toNat % 128+128*x)*128 ^ k=c.toNat % 128*128 ^ k+x*128 ^ (k+1):=by
      rw [Nat.add_mul,Nat.pow_succ]
      congr 1
      rw [Nat.mul_comm 128 x,Nat.mul_assoc,Nat.mul_comm 128]
     refine ⟨c.toNat % 128+128*x,by rw [bc,h1];omega, ?_,by rw [hl,h3];simp;omega,by omega, ?_⟩
     · rw [hl,List.length_cons,List.drop_succ_cons,List.cons_append,← h2]
     · rw [bc]
       have h6:c.toNat % 128*128 ^ k<128 ^ (k+1):=by
        rw [Nat.pow_succ,Nat.mul_comm]
        exact Nat.mul_lt_mul_of_pos_left (Nat.mod_lt _ (by omega)) (Nat.pow_pos (by omega))
       have h7:k+1≤9:=by omega
       have hd:18446744073709551616=128 ^ (k+1)*(2*128 ^ (9-(k+1))):=by
        have:(128:Nat) ^ 9=128 ^ (k+1)*128 ^ (9-(k+1)):=by rw [← Nat.pow_add];congr 1;omega
        rw [Nat.mul_left_comm,← this]
       generalize 128 ^ (9-(k+1))=q at hd
       generalize 128 ^ (k+1)=p at *
       have h8:x<2*q:=by
        have:x*p<2*q*p:=by rw [Nat.mul_comm (2*q)];omega
        exact Nat.lt_of_mul_lt_mul_right this
       have h9:(x+1)*p≤2*q*p:=Nat.mul_le_mul_right _ h8
       rw [Nat.add_mul] at h9
       rw [hd,Nat.mul_comm p]
       omega
theorem lg_put:∀ (x:Nat) (r:List UInt8) (k n:Nat),k≤9→(0<k→0<x)→x*128 ^ k<18446744073709551616→lg (leb x++r) k n=.ok (n+x*128 ^ k,k+(leb x).length):=by
 intro x
 induction x using Nat.strongRecOn with
 | _ x ih=>
   intro r k n hk h0 hx
   by_cases h:x<128
   · rw [leb_small h]
     have hb:(UInt8.ofNat x).toNat=x:=byte_last x h
     have h9:k=9→x≤1:=fun e=>by subst e;omega
     rw [List.cons_append,lg_last _ _ _ _ (by rw [hb];omega) (by rw [hb];exact h),hb]
     simp
   · rw [leb_step h]
     have hb:=byte_more x
     have h9:k≠9:=fun e=>by subst e;omega
     have cp:x / 128*128 ^ (k+1)≤x*128 ^ k:=by
      rw [Nat.pow_succ,Nat.mul_comm (128 ^ k),← Nat.mul_assoc]
      exact Nat.mul_le_mul_right _ (Nat.div_mul_le_self x 128)
     rw [List.cons_append,lg_more _ _ _ _ (by rw [hb];omega) (by rw [hb];omega),hb,ih (x / 128) (by omega) r (k+1) _ (by omega) (by omega) (by omega)]
     have e1:(x % 128+128) % 128=x % 128:=by omega
     have e2:n+x % 128*128 ^ k+x / 128*128 ^ (k+1)=n+x*128 ^ k:=by
      rw [Nat.pow_succ,Nat.add_assoc,Nat.mul_comm (128 ^ k),← Nat.mul_assoc,← Nat.add_mul]
      congr 2
      omega
     rw [e1,e2,List.length_cons]
     congr 2
     omega
theorem lebGet_cut {l:List UInt8} {a n k:Nat} (h:lebGet l a=.ok (n,k)):Cut l a k (leb n)∧n<18446744073709551616:=by
 unfold lebGet at h
 split at h
 · cases h
 · rename_i m j hl
   injection h with h;injection h with h1 h2
   obtain ⟨x,e1,e2,e3,_,e5⟩:=lg_cut _ 0 0 m j (by omega) hl
   have:n=x:=by omega
   subst this
   have hc:=Cut.of e2
   rw [show a+(leb n).length=k by omega] at hc
   exact ⟨hc,by omega⟩
theorem lebGet_of {l:List UInt8} {a n k:Nat} (h:Cut l a k (leb n)) (hn:n<18446744073709551616):lebGet l a=.ok (n,k):=by
 unfold lebGet
 rw [h.eq,lg_put n _ 0 0 (by omega) (by omega) (by omega)]
 simp [h.to]
theorem rByte_cut {l:List UInt8} {a c k:Nat} (h:rByte l a=.ok (c,k)):Cut l a k [UInt8.ofNat c]∧c<256:=by
 unfold rByte at h
 split at h
 · rename_i ha
   injection h with h;injection h with h1 h2
   subst h1 h2
   refine ⟨⟨?_,rfl⟩,UInt8.toNat_lt _⟩
   rw [List.drop_eq_getElem_cons ha]
   simp
 · cases h
theorem rByte_of {l:List UInt8} {a k:Nat} {b:UInt8} (h:Cut l a k [b]):rByte l a=.ok (b.toNat,k):=by
 have hk:=h.le (by simp)
 have ha:a<l.length:=by have:=h.to;simp at this;omega
 have e:=h.eq
 rw [List.drop_eq_getElem_cons ha] at e
 injection e with e1 e2
 unfold rByte
 rw [dif_pos ha,e1,h.to]
 rfl
theorem rBit_cut {l:List UInt8} {a c k:Nat} (h:rBit l a=.ok (c,k)):Cut l a k [UInt8.ofNat c]∧c<2:=by
 unfold rBit at h
 split at h
 · cases h
 · rename_i hb
   split at h
   · injection h with h;injection h with h1 h2
     subst h1 h2
     exact ⟨(rByte_cut hb).1,by assumption⟩
   · cases h
theorem rBit_of {l:List UInt8} {a k:Nat} {b:UInt8} (h:Cut l a k [b]) (hb:b.toNat<2):rBit l a=.ok (b.toNat,k):=by
 unfold rBit
 rw [rByte_of h]
 simp only [hb,if_true]
theorem rText_cut {most:Nat} {long:Int} {l t:List UInt8} {a k:Nat} (h:rText most long l a=.ok (t,k)):Cut l a k (textBytes (str t))∧t.length≤most:=by
 unfold rText at h
 split at h
 · cases h
 · rename_i n j hg
   split at h
   · split at h
     · injection h with h;injection h with h1 h2
       obtain ⟨hc,_⟩:=lebGet_cut hg
       have hl:t.length=n:=by rw [← h1];simp;omega
       have ab:Cut l j (j+t.length) t:=Cut.of (r:=(l.drop j).drop n) (by rw [← h1];exact (List.take_append_drop _ _).symm)
       rw [hl,h2] at ab
       have:=hc.trans ab
       unfold textBytes
       have e1:(str t).size=n:=by rw [← hl];rfl
       have e2:(str t).data.toList=t:=by simp [str]
       rw [e1,e2]
       exact ⟨this,by omega⟩
     · cases h
   · cases h
theorem rText_of {most:Nat} {long:Int} {l:List UInt8} {a k:Nat} {s:ByteArray} (h:Cut l a k (textBytes s)) (hm:s.size≤most) (hs:s.size<18446744073709551616):rText most long l a=.ok (s.data.toList,k):=by
 unfold textBytes at h
 unfold rText
 rw [lebGet_of h.first hs]
 have h2:=h.rest
 have hl:s.data.toList.length=s.size:=rfl
 have h3:=congrArg List.length h2.eq
 rw [List.length_append,List.length_drop,List.length_drop,hl] at h3
 have h4:=h2.to
 rw [hl] at h4
 simp only
 rw [if_pos hm,if_pos (by omega),h2.eq,h4]
 rw [List.take_append_of_le_length (by rw [hl];omega),← hl,List.take_length]
theorem le_le8 (n:Nat) (h:n<18446744073709551616):le (le8 n)=n:=by
 have hb:∀ m:Nat,(UInt8.ofNat (m % 256)).toNat=m % 256:=fun m=>by rw [UInt8.toNat_ofNat'];omega
 simp only [le8,List.range_succ,List.range_zero,List.nil_append,List.cons_append,List.map_cons,List.map_nil,le,hb]
 simp only [Nat.pow_zero,Nat.reducePow]
 omega
theorem le8_le (l:List UInt8) (h:l.length=8):le8 (le l)=l:=by
 match l,h with
 | [a,b,c,d,e,f,g,i],_=>
   have ha:a.toNat<256:=a.toNat_lt
   have hb:b.toNat<256:=b.toNat_lt
   have hc:c.toNat<256:=c.toNat_lt
   have hd:d.toNat<256:=d.toNat_lt
   have he:e.toNat<256:=e.toNat_lt
   have hf:f.toNat<256:=f.toNat_lt
   have hg:g.toNat<256:=g.toNat_lt
   have hi:i.toNat<256:=i.toNat_lt
   have hx:∀ (x:UInt8) (m:Nat),m % 256=x.toNat→UInt8.ofNat (m % 256)=x:=fun x m h=>by rw [h];simp
   simp only [le8,List.range_succ,List.range_zero,List.nil_append,List.cons_append,List.map_cons,List.map_nil,le,Nat.pow_zero,Nat.reducePow]
   rw [hx a _ (by omega),hx b _ (by omega),hx c _ (by omega),hx d _ (by omega),hx e _ (by omega),hx f _ (by omega),hx g _ (by omega),hx i _ (by omega)]
theorem rFloat_cut {l:List UInt8} {a x k:Nat} (h:rFloat l a=.ok (x,k)):Cut l a k (le8 x)∧fbits x=x∧x<18446744073709551616:=by
 unfold rFloat at h
 split at h
 · rename_i h8
   split at h
   · rename_i hf
     injection h with h;injection h with h1 h2
     have hl:((l.drop a).take 8).length=8:=by simp;omega
     rw [h1] at hf
     have h3:=le_lt ((l.drop a).take 8)
     rw [hl,h1] at h3
     refine ⟨?_,hf,by omega⟩
     rw [← h1,le8_le _ hl]
     have:=Cut.of (l:=l) (a:=a) (bs:=(l.drop a).take 8) (r:=(l.drop a).drop 8) (List.take_append_drop _ _).symm
     rw [hl,h2] at this
     exact this
   · cases h
 · cases h
theorem rFloat_of {l:List UInt8} {a x k:Nat} (h:Cut l a k (le8 x)) (hx:x<18446744073709551616) (hf:fbits x=x):rFloat l a=.ok (x,k):=by
 have h3:=congrArg List.length h.eq
 rw [List.length_append,List.length_drop,List.length_drop,le8_length] at h3
 have hk:=h.le (by rw [le8_length];omega)
 have h4:=h.to
 rw [le8_length] at h4
 have ht:(l.drop a).take 8=le8 x:=by
  rw [h.eq,List.take_append_of_le_length (by rw [le8_length];omega)]
  have:=List.take_length (l:=le8 x)
  rwa [le8_length] at this
 unfold rFloat
 rw [if_pos (by omega),ht,le_le8 x hx,if_pos hf,h4]
theorem rKind_cut:∀ (n:Nat) (l:List UInt8) (a:Nat) (t:Ty) (k d:Nat),n+d=5→rKind n l a=.ok (t,k)→Cut l a k (putTy t)∧tyCheck t d=0
 | 0,l,a,t,k,d,_,h=>by simp [rKind] at h
 | n+1,l,a,t,k,d,hd,h=>by
   rw [rKind] at h
   split at h
   · cases h
   · rename_i c j hb
     obtain ⟨hc,_⟩:=rByte_cut hb
     split at h
     · cases h
     · rename_i cu
       split at h
       · rename_i ba
         unfold rKindOf at h
         split at h
         · cases h
         · rename_i t' j' hk
           injection h with h;injection h with h1 h2
           subst h1 h2
           obtain ⟨h3,h4⟩:=rKind_cut n l j t' j' (d+1) (by omega) hk
           refine ⟨?_, ?_⟩
           · rw [putTy,if_pos (by omega),putTyHead]
             exact hc.trans h3
           · rw [tyCheck,if_neg (by omega),if_neg (by omega),if_pos (by omega),if_pos (by simp),tyHead,h4]
       · rename_i ba
         injection h with h;injection h with h1 h2
         subst h1 h2
         refine ⟨?_, ?_⟩
         · rw [putTy,if_neg (by omega)]
           exact hc
         · rw [tyCheck,if_neg (by omega),if_neg (by omega),if_neg (by omega),if_pos (by simp)]
theorem rKind_of:∀ (n:Nat) (l:List UInt8) (a:Nat) (t:Ty) (k d:Nat),n+d=5→Cut l a k (putTy t)→tyCheck t d=0→rKind n l a=.ok (t,k)
 | 0,l,a,.mk kd ts,k,d,hd,_,h=>by have:=(tyCheck_ok h).1;omega
 | n+1,l,a,.mk kd ts,k,d,hd,hc,h=>by
   obtain ⟨h4,h1,h7,ba,hn⟩:=tyCheck_ok h
   have hk:((kd.toNat:Nat):Int)=kd:=by omega
   have ch:(UInt8.ofNat kd.toNat).toNat=kd.toNat:=by rw [UInt8.toNat_ofNat'];omega
   rw [putTy] at hc
   rw [rKind]
   by_cases h6:kd=6∨kd=7
   · obtain ⟨t',rfl,bm⟩:=ba h6
     rw [if_pos h6,putTyHead] at hc
     have aL:=Cut.first (bs:=[UInt8.ofNat kd.toNat]) hc
     have ab:=Cut.rest (bs:=[UInt8.ofNat kd.toNat]) hc
     rw [rByte_of aL]
     simp only [ch]
     rw [if_neg (by omega),if_pos (by omega),rKind_of n l _ t' k (d+1) (by omega) ab bm,rKindOf,hk]
   · rw [if_neg h6] at hc
     rw [rByte_of hc,hn h6]
     simp only [ch]
     rw [if_neg (by omega),if_neg (by omega),hk]
end
section
open Go.RowKit
theorem size_zero {t:ByteArray} (h:t.size=0):t=empty:=by
 have h1:t.data.toList.length=0:=h
 have h2:=List.eq_nil_of_length_eq_zero h1
 cases t with
 | mk d=>
   simp only at h2
   unfold empty
   congr 1
   exact Array.toList_inj.1 h2
theorem str_data (s:ByteArray):str s.data.toList=s:=by simp [str]
theorem str_size (t:List UInt8):(str t).size=t.length:=rfl
theorem fbits_lt {x:Nat} (h:x<18446744073709551616):fbits x<18446744073709551616:=by
 unfold fbits
 split <;> omega
theorem vasOf_mem:∀ (l:List Va) (t:Ty),vasOf l t=true↔∀ v∈l,vaOf v t=true
 | [],t=>by simp [vasOf]
 | v :: l,t=>by rw [vasOf,Bool.and_eq_true,vasOf_mem l t];simp
theorem vaChecks_mem:∀ (l:List Va) (d:Nat),vaChecks l d=0↔∀ v∈l,vaCheck v d=0
 | [],d=>by simp [vaChecks]
 | v :: l,d=>by
   rw [vaChecks]
   have:=vaChecks_mem l d
   split
   · rename_i h
     rw [this]
     simp [h]
   · rename_i h
     simp [h]
theorem wfs_mem:∀ (l:List Va),Va.wfs l↔∀ v∈l,v.wf
 | []=>by simp [Va.wfs]
 | v :: l=>by rw [Va.wfs,wfs_mem l];simp
theorem rMany_cut {f:Nat→Except Int (Va×Nat)} {l:List UInt8} {Q:Va→Prop} (hf:∀ a v k,f a=.ok (v,k)→Cut l a k (putVa v)∧Q v) :
 ∀ (n a:Nat) (vs r:List Va) (k:Nat),rMany f n a vs=.ok (r,k)→∃ m,r=vs++m∧m.length=n∧Cut l a k (putVas m)∧∀ v∈m,Q v
 | 0,a,vs,r,k,h=>by
   rw [rMany] at h
   injection h with h;injection h with h1 h2
   subst h1 h2
   exact ⟨[],by simp,rfl,by rw [putVas];exact Cut.none l a,by simp⟩
 | n+1,a,vs,r,k,h=>by
   rw [rMany] at h
   split at h
   · cases h
   · rename_i v j hv
     obtain ⟨h1,h2⟩:=hf _ _ _ hv
     obtain ⟨m,e1,e2,e3,e4⟩:=rMany_cut hf n j (vs++[v]) r k h
     refine ⟨v :: m,by rw [e1];simp,by simp [e2],by rw [putVas];exact h1.trans e3, ?_⟩
     intro x hx
     rcases List.mem_cons.1 hx with rfl | hx
     · exact h2
     · exact e4 x hx
theorem rMany_of {f:Nat→Except Int (Va×Nat)} {l:List UInt8}:∀ (items:List Va) (a k:Nat) (vs:List Va),
 (∀ v∈items,∀ a k,Cut l a k (putVa v)→∃ v',f a=.ok (v',k)∧Va.same v' v=true)→Cut l a k (putVas items)→∃ m,rMany f items.length a vs=.ok (vs++m,k)∧Va.sames m items=true
 | [],a,k,vs,_,h=>by
   rw [putVas] at h
   have:=h.to
   exact ⟨[],by simp [rMany,this],by simp [Va.sames]⟩
 | v :: items,a,k,vs,hf,h=>by
   rw [putVas] at h
   obtain ⟨v',e1,e2⟩:=hf v (by simp) _ _ h.first
   obtain ⟨m,e3,e4⟩:=rMany_of items _ k (vs++[v']) (fun x hx=>hf x (by simp [hx])) h.rest
   refine ⟨v' :: m, ?_,by rw [Va.sames,e2,e4];rfl⟩
   rw [List.length_cons,rMany,e1]
   simp only
   rw [e3]
   simp
theorem check_of {k i:Int} {f:Nat} {t:ByteArray} {l:List Va} {d:Nat} (hd:d≤4) (ho:vaOwn (.mk k i f t l)=true) (ht:t.size≤1024) (hl:l.length≤256) (hu:k=4→utfOk t=true) (hc:vaChecks l (d+1)=0):vaCheck (.mk k i f t l) d=0:=by
 rw [vaCheck,if_neg (by omega),if_neg (by rw [ho];simp),if_neg (by omega),if_neg (by omega),if_neg (fun h=>by rw [hu h.1] at h;simp at h),hc]
theorem rValue_cut:∀ (n:Nat) (t:Ty) (d:Nat) (l:List UInt8) (a:Nat) (v:Va) (k:Nat),n+d=5→tyCheck t d=0→rValue t l a=.ok (v,k)→Cut l a k (putVa v)∧vaOf v t=true∧vaCheck v d=0∧v.wf
 | 0,.mk kd ts,d,l,a,v,k,hd,h,_=>by have:=(tyCheck_ok h).1;omega
 | n+1,.mk kd ts,d,l,a,v,k,hd,hc,h=>by
   obtain ⟨h4,h1,h7,ba,hn⟩:=tyCheck_ok hc
   rw [rValue] at h
   unfold rKinds at h
   have hz:fbits 0=0:=fbits_zero
   have aG:empty.size=0:=rfl
   by_cases k1:kd=1
   · rw [if_pos k1] at h
     have ht:=hn (by omega)
     subst k1 ht
     split at h
     · cases h
     · rename_i x j hb
       injection h with h;injection h with e1 e2
       subst e1 e2
       obtain ⟨c1,c2⟩:=rBit_cut hb
       have hx:x=0∨x=1:=by omega
       refine ⟨?_,by simp [vaOf,vasOf,Ty.kind],check_of h4 ?_ (by rw [aG];omega) (by simp) (fun e=>by omega) (by simp [vaChecks]), ?_⟩
       · rw [putVa,if_pos rfl]
         rcases hx with rfl | rfl
         · exact c1
         · exact c1
       · rcases hx with rfl | rfl <;> simp [vaOwn,hz,aG]
       · simp [Va.wf,Va.wfs];omega
   rw [if_neg k1] at h
   by_cases k2:kd=2
   · rw [if_pos k2] at h
     have ht:=hn (by omega)
     subst k2 ht
     split at h
     · cases h
     · rename_i x j hb
       injection h with h;injection h with e1 e2
       subst e1 e2
       obtain ⟨c1,c2⟩:=lebGet_cut hb
       refine ⟨?_,by simp [vaOf,vasOf,Ty.kind],check_of h4 ?_ (by rw [aG];omega) (by simp) (fun e=>by omega) (by simp [vaChecks]), ?_⟩
       · rw [putVa,if_neg (by omega),if_pos rfl,zig_zag]
         exact c1
       · simp [vaOwn,hz,aG]
       · have:=zag_in c2
         simp [Va.wf,Va.wfs];omega
   rw [if_neg k2] at h
   by_cases k3:kd=3
   · rw [if_pos k3] at h
     have ht:=hn (by omega)
     subst k3 ht
     split at h
     · cases h
     · rename_i x j hb
       injection h with h;injection h with e1 e2
       subst e1 e2
       obtain ⟨c1,c2,c3⟩:=rFloat_cut hb
       refine ⟨?_,by simp [vaOf,vasOf,Ty.kind],check_of h4 ?_ (by rw [aG];omega) (by simp) (fun e=>by omega) (by simp [vaChecks]), ?_⟩
       · rw [putVa,if_neg (by omega),if_neg (by omega),if_pos rfl,c2]
         exact c1
       · simp [vaOwn,aG]
       · simp [Va.wf,Va.wfs];omega
   rw [if_neg k3] at h
   by_cases k4:kd=4
   · rw [if_pos k4] at h
     have ht:=hn (by omega)
     subst k4 ht
     split at h
     · cases h
     · rename_i x j hb
       split at h
       · rename_i hu
         injection h with h;injection h with e1 e2
         subst e1 e2
         obtain ⟨c1,c2⟩:=rText_cut hb
         refine ⟨?_,by simp [vaOf,vasOf,Ty.kind],check_of h4 ?_ (by rw [str_size];omega) (by simp) (fun e=>hu) (by simp [vaChecks]), ?_⟩
         · rw [putVa,if_neg (by omega),if_neg (by omega),if_neg (by omega),if_pos (by omega)]
           exact c1
         · simp [vaOwn,hz]
         · simp [Va.wf,Va.wfs]
       · cases h
   rw [if_neg k4] at h
   by_cases k5:kd=5
   · rw [if_pos k5] at h
     have ht:=hn (by omega)
     subst k5 ht
     split at h
     · cases h
     · rename_i x j hb
       injection h with h;injection h with e1 e2
       subst e1 e2
       obtain ⟨c1,c2⟩:=rText_cut hb
       refine ⟨?_,by simp [vaOf,vasOf,Ty.kind],check_of h4 ?_ (by rw [str_size];omega) (by simp) (fun e=>by omega) (by simp [vaChecks]), ?_⟩
       · rw [putVa,if_neg (by omega),if_neg (by omega),if_neg (by omega),if_pos (by omega)]
         exact c1
       · simp [vaOwn,hz]
       · simp [Va.wf,Va.wfs]
   rw [if_neg k5] at h
   obtain ⟨t',rfl,bm⟩:=ba (by omega)
   have hf:∀ a v k,rHead [t'] l a=.ok (v,k)→Cut l a k (putVa v)∧(vaOf v t'=true∧vaCheck v (d+1)=0∧v.wf):=fun a v k hh=>by
    rw [rHead] at hh
    exact rValue_cut n t' (d+1) l a v k (by omega) bm hh
   by_cases k6:kd=6
   · rw [if_pos k6] at h
     subst k6
     split at h
     · cases h
     · rename_i x j hb
       obtain ⟨c1,c2⟩:=rBit_cut hb
       unfold rList at h
       split at h
       · cases h
       · rename_i vs j2 hm
         injection h with h;injection h with e1 e2
         subst e1 e2
         obtain ⟨m,e3,e4,e5,e6⟩:=rMany_cut hf _ _ _ _ _ hm
         rw [List.nil_append] at e3
         subst e3
         have hx:x=0∨x=1:=by omega
         refine ⟨?_, ?_,check_of h4 ?_ (by rw [aG];omega) (by omega) (fun e=>by omega) ((vaChecks_mem _ _).2 fun v hv=>(e6 v hv).2.1), ?_⟩
         · rw [putVa,if_neg (by omega),if_neg (by omega),if_neg (by omega),if_neg (by omega),if_pos rfl,e4]
           refine Cut.trans (bs:=[_]) ?_ e5
           rcases hx with rfl | rfl
           · exact c1
           · exact c1
         · simp only [vaOf,Bool.and_eq_true,decide_eq_true_eq]
           exact ⟨rfl,(vasOf_mem vs t').2 fun v hv=>(e6 v hv).1⟩
         · have:vs.length≤1:=by omega
           simp [vaOwn,hz,aG,this]
         · rw [Va.wf]
           exact ⟨by omega,by omega,by omega,(wfs_mem _).2 fun v hv=>(e6 v hv).2.2⟩
   rw [if_neg k6] at h
   have k7:kd=7:=by omega
   rw [if_pos k7] at h
   subst k7
   split at h
   · cases h
   · rename_i x j hb
     obtain ⟨c1,c2⟩:=lebGet_cut hb
     split at h
     · rename_i hx
       unfold rList at h
       split at h
       · cases h
       · rename_i vs j2 hm
         injection h with h;injection h with e1 e2
         subst e1 e2
         obtain ⟨m,e3,e4,e5,e6⟩:=rMany_cut hf _ _ _ _ _ hm
         rw [List.nil_append] at e3
         subst e3
         refine ⟨?_, ?_,check_of h4 ?_ (by rw [aG];omega) (by omega) (fun e=>by omega) ((vaChecks_mem _ _).2 fun v hv=>(e6 v hv).2.1), ?_⟩
         · rw [putVa,if_neg (by omega),if_neg (by omega),if_neg (by omega),if_neg (by omega),if_neg (by omega),e4]
           exact c1.trans e5
         · simp only [vaOf,Bool.and_eq_true,decide_eq_true_eq]
           exact ⟨rfl,(vasOf_mem vs t').2 fun v hv=>(e6 v hv).1⟩
         · simp [vaOwn,hz,aG]
         · rw [Va.wf]
           exact ⟨by omega,by omega,by omega,(wfs_mem _).2 fun v hv=>(e6 v hv).2.2⟩
     · cases h
theorem rValue_of:∀ (n:Nat) (t:Ty) (d:Nat) (l:List UInt8) (a:Nat) (v:Va) (k:Nat),n+d=5→tyCheck t d=0→vaOf v t=true→vaCheck v d=0→v.wf→Cut l a k (putVa v)→∃ v',rValue t l a=.ok (v',k)∧Va.same v' v=true
 | 0,.mk kd ts,d,l,a,v,k,hd,h,_,_,_,_=>by have:=(tyCheck_ok h).1;omega
 | n+1,.mk kd ts,d,l,a,.mk kv i f tx items,k,hd,hc,ai,hch,hw,h=>by
   obtain ⟨h4,h1,h7,ba,hn⟩:=tyCheck_ok hc
   obtain ⟨_,a0,bP,ct,hu,co⟩:=vaCheck_ok hch
   rw [vaOf,Bool.and_eq_true,decide_eq_true_eq] at ai
   obtain ⟨bJ,ai⟩:=ai
   have bJ:kv=kd:=bJ
   subst bJ
   rw [Va.wf] at hw
   obtain ⟨w1,w2,w3,w4⟩:=hw
   have hz:fbits 0=0:=fbits_zero
   rw [rValue]
   unfold rKinds
   rw [vaOwn] at a0
   by_cases k1:kv=1
   · rw [if_pos k1] at a0 ⊢
     simp only [Bool.and_eq_true,Bool.or_eq_true,decide_eq_true_eq] at a0
     obtain ⟨hi,hf,ht,hl⟩:=a0
     rw [putVa,if_pos k1] at h
     have hl:=List.eq_nil_of_length_eq_zero hl
     have ht:=size_zero ht
     subst hl ht
     rcases hi with rfl | rfl
     · rw [if_neg (by omega)] at h
       rw [rBit_of h (by decide)]
       exact ⟨_,rfl,by simp [Va.same,Va.sames,hf,hz,k1]⟩
     · rw [if_pos rfl] at h
       rw [rBit_of h (by decide)]
       exact ⟨_,rfl,by simp [Va.same,Va.sames,hf,hz,k1]⟩
   rw [if_neg k1] at a0 ⊢
   by_cases k2:kv=2
   · rw [if_pos k2] at a0 ⊢
     simp only [Bool.and_eq_true,Bool.or_eq_true,decide_eq_true_eq] at a0
     obtain ⟨hf,ht,hl⟩:=a0
     rw [putVa,if_neg k1,if_pos k2] at h
     have hl:=List.eq_nil_of_length_eq_zero hl
     have ht:=size_zero ht
     subst hl ht
     rw [lebGet_of h (zig_lt w1 w2)]
     exact ⟨_,rfl,by simp [Va.same,Va.sames,hf,hz,k2,zag_zig]⟩
   rw [if_neg k2] at a0 ⊢
   by_cases k3:kv=3
   · rw [if_pos k3] at a0 ⊢
     simp only [Bool.and_eq_true,Bool.or_eq_true,decide_eq_true_eq] at a0
     obtain ⟨hi,ht,hl⟩:=a0
     rw [putVa,if_neg k1,if_neg k2,if_pos k3] at h
     have hl:=List.eq_nil_of_length_eq_zero hl
     have ht:=size_zero ht
     subst hl ht
     rw [rFloat_of h (fbits_lt w3) (fbits_idem f)]
     exact ⟨_,rfl,by simp [Va.same,Va.sames,hi,k3,fbits_idem]⟩
   rw [if_neg k3] at a0 ⊢
   by_cases k4:kv=4
   · rw [if_pos (.inl k4)] at a0
     rw [if_pos k4]
     simp only [Bool.and_eq_true,Bool.or_eq_true,decide_eq_true_eq] at a0
     obtain ⟨hi,hf,hl⟩:=a0
     rw [putVa,if_neg k1,if_neg k2,if_neg k3,if_pos (.inl k4)] at h
     have hl:=List.eq_nil_of_length_eq_zero hl
     subst hl
     rw [rText_of h bP (by omega)]
     simp only [str_data,hu k4,if_true]
     exact ⟨_,rfl,by simp [Va.same,Va.sames,hi,hf,hz,k4]⟩
   rw [if_neg k4]
   by_cases k5:kv=5
   · rw [if_pos (.inr k5)] at a0
     rw [if_pos k5]
     simp only [Bool.and_eq_true,Bool.or_eq_true,decide_eq_true_eq] at a0
     obtain ⟨hi,hf,hl⟩:=a0
     rw [putVa,if_neg k1,if_neg k2,if_neg k3,if_pos (.inr k5)] at h
     have hl:=List.eq_nil_of_length_eq_zero hl
     subst hl
     rw [rText_of h bP (by omega)]
     exact ⟨_,rfl,by simp [Va.same,Va.sames,hi,hf,hz,k5,str_data]⟩
   rw [if_neg k5]
   rw [if_neg (by omega)] at a0
   obtain ⟨t',rfl,bm⟩:=ba (by omega)
   have ai:vasOf items t'=true:=ai
   have bn:∀ v∈items,∀ a k,Cut l a k (putVa v)→∃ v',rHead [t'] l a=.ok (v',k)∧Va.same v' v=true:=fun v hv a k aI=>by
    rw [rHead]
    exact rValue_of n t' (d+1) l a v k (by omega) bm ((vasOf_mem _ _).1 ai v hv) ((vaChecks_mem _ _).1 co v hv) ((wfs_mem _).1 w4 v hv) aI
   by_cases k6:kv=6
   · rw [if_pos k6] at a0 ⊢
     simp only [Bool.and_eq_true,Bool.or_eq_true,decide_eq_true_eq] at a0
     obtain ⟨hl,hi,hf,ht⟩:=a0
     rw [putVa,if_neg k1,if_neg k2,if_neg k3,if_neg (by omega),if_pos k6] at h
     have ht:=size_zero ht
     subst ht
     have aL:=Cut.first (bs:=[_]) h
     have ab:=Cut.rest (bs:=[_]) h
     obtain ⟨m,e1,e2⟩:=rMany_of items _ k [] bn ab
     have hb:rBit l a=.ok (items.length,a+[(if items.length=1 then (1:UInt8) else 0)].length):=by
      have cl:items.length=0∨items.length=1:=by omega
      rcases cl with h0 | h0
      · rw [h0] at aL ⊢
        rw [rBit_of aL (by decide)]
        rfl
      · rw [h0] at aL ⊢
        rw [rBit_of aL (by decide)]
        rfl
     rw [hb]
     simp only
     rw [e1]
     exact ⟨_,rfl,by simp [Va.same,hi,hf,hz,k6,e2]⟩
   · have k7:kv=7:=by omega
     rw [if_neg k6] at a0 ⊢
     rw [if_pos k7] at a0 ⊢
     simp only [Bool.and_eq_true,Bool.or_eq_true,decide_eq_true_eq] at a0
     obtain ⟨hi,hf,ht⟩:=a0
     rw [putVa,if_neg k1,if_neg k2,if_neg k3,if_neg (by omega),if_neg k6] at h
     have ht:=size_zero ht
     subst ht
     obtain ⟨m,e1,e2⟩:=rMany_of items _ k [] bn h.rest
     rw [lebGet_of h.first (by omega)]
     simp only [ct,if_true]
     rw [e1]
     exact ⟨_,rfl,by simp [Va.same,hi,hf,hz,k7,e2]⟩
theorem findFrom_in:∀ (cols:List Col) (i:Nat) (s:ByteArray),(findFrom cols i s).2=nameIn (cols.map Col.name) s
 | [],i,s=>rfl
 | c :: cols,i,s=>by
   rw [findFrom,List.map_cons]
   unfold nameIn
   rw [List.any_cons]
   split
   · rename_i h
     simp [h]
   · rename_i h
     rw [findFrom_in cols (i+1) s]
     simp [h,nameIn]
theorem findCol_in (cols:List Col) (s:ByteArray):(findCol cols s).2=nameIn (cols.map Col.name) s:=findFrom_in cols 0 s
theorem vaZero_wf:vaZero.wf:=by simp [vaZero,Va.wf,Va.wfs]
theorem nameOk_size {s:ByteArray} (h:nameOk s=true):s.size≤16:=by
 unfold nameOk at h
 simp only [Bool.and_eq_true,decide_eq_true_eq] at h
 exact h.1.2
mutual
theorem Va.same_comm:∀ (a b:Va),Va.same a b=Va.same b a
 | .mk k i f t l,.mk k' i' f' t' l'=>by
   rw [Va.same,Va.same,Va.sames_comm l l',show decide (k=k')=decide (k'=k) by rw [decide_eq_decide];exact eq_comm,show decide (i=i')=decide (i'=i) by rw [decide_eq_decide];exact eq_comm,
    show decide (fbits f=fbits f')=decide (fbits f'=fbits f) by rw [decide_eq_decide];exact eq_comm,show decide (t=t')=decide (t'=t) by rw [decide_eq_decide];exact eq_comm]
theorem Va.sames_comm:∀ (a b:List Va),Va.sames a b=Va.sames b a
 | [],[]=>rfl
 | [],_ :: _=>by simp [Va.sames]
 | _ :: _,[]=>by simp [Va.sames]
 | a :: l,b :: l'=>by rw [Va.sames,Va.sames,Va.same_comm a b,Va.sames_comm l l']
end
mutual
theorem Ty.same_self:∀ (a:Ty),Ty.same a a=true
 | .mk k l=>by rw [Ty.same,Ty.sames_self l];simp
theorem Ty.sames_self:∀ (a:List Ty),Ty.sames a a=true
 | []=>rfl
 | a :: l=>by rw [Ty.sames,Ty.same_self a,Ty.sames_self l];rfl
end
theorem vaZero_self:Va.same vaZero vaZero=true:=by simp [vaZero,Va.same,Va.sames]
theorem rCol_cut {l:List UInt8} {cols:List Col} {a k:Nat} {c:Col} (h:rCol l cols a=.ok (c,k)):Cut l a k (putCol c)∧colCheck (cols.map Col.name) c=0∧c.dflt.wf:=by
 unfold rCol at h
 split at h
 · cases h
 rename_i t j1 ht
 obtain ⟨c1,_⟩:=rText_cut ht
 split at h
 · cases h
 rename_i hn
 split at h
 · cases h
 rename_i hf
 rw [findCol_in] at hf
 split at h
 · cases h
 rename_i ty j2 hk
 obtain ⟨c2,k2⟩:=rKind_cut 4 _ _ _ _ 1 (by omega) hk
 split at h
 · cases h
 rename_i x j3 hb
 obtain ⟨c3,hx⟩:=rBit_cut hb
 have cg:nameOk (str t)=true:=by simpa using hn
 have bn:nameIn (cols.map Col.name) (str t)=false:=by simpa using hf
 split at h
 · rename_i h1
   subst h1
   split at h
   · cases h
   rename_i v j4 hv
   injection h with h;injection h with e1 e2
   subst e1 e2
   obtain ⟨c4,f1,f2,f3⟩:=rValue_cut 4 _ 1 _ _ _ _ (by omega) k2 hv
   refine ⟨?_, ?_,f3⟩
   · unfold putCol
     exact c1.trans (c2.trans (Cut.trans (bs:=[1]) c3 c4))
   · unfold colCheck
     simp only [cg,bn,k2,f2,f1]
     simp
 · rename_i h1
   injection h with h;injection h with e1 e2
   subst e1 e2
   have ck:x=0:=by omega
   subst ck
   refine ⟨?_, ?_,vaZero_wf⟩
   · unfold putCol
     exact c1.trans (c2.trans (Cut.trans (bs:=[0]) c3 (Cut.none _ _)))
   · unfold colCheck
     simp only [cg,bn,k2,vaZero_self]
     simp
theorem rCol_of {l:List UInt8} {cols:List Col} {a k:Nat} {c:Col} (hc:colCheck (cols.map Col.name) c=0) (hw:c.dflt.wf) (h:Cut l a k (putCol c)):∃ c',rCol l cols a=.ok (c',k)∧Col.same c' c=true:=by
 obtain ⟨h1,h2,h3,h4,h5⟩:=colCheck_ok hc
 unfold putCol at h
 have hs:=nameOk_size h1
 have g1:=rText_of (most:=16) (long:=70) h.first hs (by omega)
 have g2:=rKind_of 4 _ _ _ _ 1 (by omega) h.rest.first h3
 have hr:=h.rest.rest
 have g3:=Cut.first (bs:=[_]) hr
 have g4:=Cut.rest (bs:=[_]) hr
 have hf:(findCol cols (str c.name.data.toList)).2=false:=by rw [findCol_in,str_data];exact h2
 have hn:nameOk (str c.name.data.toList)=true:=by rw [str_data];exact h1
 cases hh:c.has with
 | false=>
   rw [hh] at g3 g4
   have hz:=h4 hh
   have hk:=g4.to
   refine ⟨⟨str c.name.data.toList,c.ty,false,vaZero⟩, ?_, ?_⟩
   · have hb:=rBit_of (b:=0) g3 (by decide)
     rw [rCol_no g1 hn hf g2 hb (by decide),hk]
     rfl
   · simp only [Col.same,str_data,hh,Ty.same_self]
     rw [Va.same_comm,hz]
     simp
 | true=>
   rw [hh] at g3 g4
   simp only [if_true] at g4
   obtain ⟨g5,g6⟩:=h5 hh
   obtain ⟨v',e1,e2⟩:=rValue_of 4 _ 1 _ _ _ _ (by omega) h3 g6 g5 hw g4
   refine ⟨_,rCol_yes g1 hn hf g2 (rBit_of g3 (by decide)) (by decide) e1, ?_⟩
   simp only [Col.same,str_data,hh,Ty.same_self,e2]
   simp
theorem rCols_cut {l:List UInt8}:∀ (n a:Nat) (cols r:List Col) (k:Nat),rCols l n a cols=.ok (r,k)→∃ m,r=cols++m∧m.length=n∧Cut l a k (putCols m)∧colsCheck (cols.map Col.name) m=0∧∀ c∈m,c.dflt.wf
 | 0,a,cols,r,k,h=>by
   rw [rCols] at h
   injection h with h;injection h with h1 h2
   subst h1 h2
   exact ⟨[],by simp,rfl,by rw [putCols];exact Cut.none l a,rfl,by simp⟩
 | n+1,a,cols,r,k,h=>by
   rw [rCols] at h
   split at h
   · cases h
   · rename_i c j hc
     obtain ⟨h1,h2,h3⟩:=rCol_cut hc
     obtain ⟨m,e1,e2,e3,e4,e5⟩:=rCols_cut n j (cols++[c]) r k h
     refine ⟨c :: m,by rw [e1];simp,by simp [e2],by rw [putCols];exact h1.trans e3, ?_, ?_⟩
     · rw [colsCheck,if_pos h2]
       simpa using e4
     · intro x hx
       rcases List.mem_cons.1 hx with rfl | hx
       · exact h3
       · exact e5 x hx
theorem rCols_of {l:List UInt8}:∀ (m:List Col) (a k:Nat) (cols:List Col),colsCheck (cols.map Col.name) m=0→(∀ c∈m,c.dflt.wf)→Cut l a k (putCols m)→∃ m',rCols l m.length a cols=.ok (cols++m',k)∧sameCols m' m=true
 | [],a,k,cols,_,_,h=>by
   rw [putCols] at h
   have:=h.to
   exact ⟨[],by simp [rCols,this],by simp [sameCols]⟩
 | c :: m,a,k,cols,hc,hw,h=>by
   rw [putCols] at h
   rw [colsCheck] at hc
   split at hc
   · rename_i h0
     obtain ⟨c',e1,e2⟩:=rCol_of h0 (hw c (by simp)) h.first
     have be:c'.name=c.name:=by
      simp only [Col.same,Bool.and_eq_true,decide_eq_true_eq] at e2
      exact e2.1.1.1
     obtain ⟨m',e3,e4⟩:=rCols_of m _ k (cols++[c']) (by simpa [be] using hc) (fun x hx=>hw x (by simp [hx])) h.rest
     refine ⟨c' :: m', ?_,by rw [sameCols,e2,e4];rfl⟩
     rw [List.length_cons,rCols,e1]
     simp only
     rw [e3]
     simp
   · contradiction
theorem decodeS_cut {l:List UInt8} {cols:List Col} (h:decodeS l=.ok cols):putS cols=l∧schCheck cols=0∧∀ c∈cols,c.dflt.wf:=by
 unfold decodeS at h
 split at h
 · cases h
 rename_i bb
 unfold rSchema at h
 split at h
 · cases h
 rename_i n k hg
 obtain ⟨c1,_⟩:=lebGet_cut hg
 split at h
 · cases h
 split at h
 · cases h
 rename_i cw cm
 unfold rEnd at h
 split at h
 · cases h
 rename_i r j hr
 split at h
 · rename_i hj
   injection h with h
   subst h hj
   obtain ⟨m,e1,e2,e3,e4,e5⟩:=rCols_cut _ _ _ _ _ hr
   rw [List.nil_append] at e1
   subst e1
   have hw:putS r=l:=by
    unfold putS
    rw [e2]
    exact (Cut.whole (c1.trans e3)).symm
   refine ⟨hw, ?_,e5⟩
   unfold schCheck
   rw [if_neg (by omega),if_neg (by omega),if_pos (show colsCheck [] r=0 from e4),if_neg (by rw [hw];exact bb)]
 · cases h
theorem schCheck_no {cols:List Col} (h:schCheck cols=0):cols.length≠0∧cols.length≤16∧colsCheck [] cols=0∧(putS cols).length≤1024:=by
 unfold schCheck at h
 split at h
 · omega
 split at h
 · omega
 split at h
 · split at h
   · omega
   · exact ⟨by omega,by omega,by assumption,by omega⟩
 · contradiction
theorem decodeS_of {cols:List Col} (h:schCheck cols=0) (hw:∀ c∈cols,c.dflt.wf):∃ cols',decodeS (putS cols)=.ok cols'∧sameCols cols' cols=true:=by
 obtain ⟨h0,cx,hc,hl⟩:=schCheck_no h
 unfold decodeS
 rw [if_neg (by omega)]
 obtain ⟨L,hL⟩:∃ L,L=putS cols:=⟨_,rfl⟩
 rw [← hL] at hl ⊢
 have aI:Cut L 0 L.length (leb cols.length++putCols cols):=by
  have:leb cols.length++putCols cols=L:=hL.symm
  rw [this]
  exact Cut.start L
 obtain ⟨m',e1,e2⟩:=rCols_of (l:=L) cols _ _ [] hc hw aI.rest
 unfold rSchema
 rw [lebGet_of aI.first (by omega)]
 simp only
 rw [if_neg h0,if_neg (by omega),e1]
 exact ⟨m',by simp [rEnd],e2⟩
end
end Go.Proofs.YtihodcnnappkbaaGreatDoor
