/-
  The walk of Next: a data frame is taken. Condition: the walk stands for its plain walk; the frame reads, in blocks of its own; the tables are as laid, whatever is done in the walk's blocks. The walk of Next. Condition: the walk stands for its plain walk; the frame reads, in blocks of its own; the tables are as laid, whatever is done in the walk's blocks.
-/
import Derived.Test.YtihodcnnappkbaaGreatDoorG15
import Derived.Test.YtihodcnnappkbaaGreatDoorG7
import Derived.Test.YtihodcnnappkbaaGreatDoorG14
import Derived.Deep.RegionHeld3
import Derived.BigRegion
import Derived.Test.YtihodcnnappkbaaGreatDoorG16
namespace Go.Proofs.YtihodcnnappkbaaGreatDoor
open Go.RowKit Go.BigFrame
set_option linter.unusedVariables false
set_option linter.unusedSimpArgs false
attribute [local go_sem] run_storeF
set_option maxRecDepth 20000 in
set_option maxHeartbeats 4000000 in
theorem next_plain (g:Nat) (S:Nat→Prop) (k:Wk) (A B E:Option Addr) (c d m:Nat) (f:Fr) (a:Int) (w:World) (hk:WkV w S g k) (ac:k.ok) (hf:FrS w (fun j=>j<w.heap.size∧¬S j) A B E f) (af:f.wf) (aa:∀ w',Touch S w w'→Tabs w'∧Table w') (av:∀ j,S j→j<w.heap.size) (a3:outOf 1099511627776 a=false) (l:List UInt8) (hq:encF f=.ok l) (an:k.follows f a=true) (h2:f.kind=2) (bR:¬(k.frames.tmod 4=0∧k.entries.length<64)) :
 Calls Tryz.prog 13 #[.pointer (some ⟨g,0,none⟩),.agg (frCells A c B d E m f),.int .i64 a] w fun e w'=>e=.returned (.int .i64 0)∧WkV w' (More S w) g (k.take f a)∧Went w w' g:=by
 have bX:=hk.lt
 obtain ⟨W1,aB⟩:∃ W1,W1=(w.alloc (.cells (frCells A c B d E m f) 36)).alloc (.cells #[.int .i64 a] 2):=⟨_,rfl⟩
 have bm:Keeps w W1:=by rw [aB];exact ((Keeps.refl w).alloc _).alloc _
 have bv:W1.heap[w.heap.size]? = some (.cells (frCells A c B d E m f) 36 (0,0)):=by rw [aB];exact obj_old (obj_new w _) _
 have bk:RowAt W1 (some ⟨w.heap.size+1,0,none⟩) (i64s [a]):=by rw [aB];exact RowAt.new_at _ _ _ _ _ rfl _ (by simp)
 have bc:Calls Tryz.prog 41 #[.slice (some ⟨w.heap.size+1,0,none⟩) 1 1] W1 fun e w'=>e=.returned (.bool (!outOf 1099511627776 a))∧Keeps W1 w':=by
  have h:=large_calls (some ⟨w.heap.size+1,0,none⟩) 1 [a] W1 (by simp) bk
  have e:[a].any (outOf 1099511627776)=outOf 1099511627776 a:=by simp [List.any]
  rw [e] at h
  exact h
 have a1:∀ w2,Keeps w w2→Touch S w w2:=fun w2 a2=>Touch.of_below a2.below fun j hj h=>absurd hj (by omega)
 have bg:∀ w2,Keeps w w2→Calls Tryz.prog 27 #[.agg (frCells A c B d E m f)] w2 (FPost w2 (encF f)):=fun w2 a2=>
  encode_calls A B E c d m f w2 ((hf.later a2.below).mono fun j _ h=>Nat.lt_of_lt_of_le h.1 a2.size) af (aa w2 (a1 w2 a2)).1 (aa w2 (a1 w2 a2)).2
 obtain ⟨bQ,h0⟩:=enc_kind hq
 have ba:∀ w2,Keeps w w2→Calls Tryz.prog 42 #[.pointer (some ⟨g,0,none⟩),.agg (frCells A c B d E m f),.int .i64 a] w2 fun e w'=>e=.returned (.bool (k.follows f a))∧Keeps w2 w':=fun w2 a2=>
  follows_calls g S _ k A B E c d m f a w2 (hk.below a2.below) ac (hf.later a2.below) bQ
 rw [an] at ba
 have aG:=h0
 unfold frWrong at aG
 rw [if_neg (by omega),if_pos h2] at aG
 obtain ⟨nn,ns,nt,nr,hn,hs,ht,hr,bU,bJ,ce,c8,aW⟩:=datWrong_no aG
 have a9:=an
 unfold Wk.follows at a9
 rw [if_neg (by omega),if_pos h2] at a9
 simp only [Bool.and_eq_true,decide_eq_true_eq] at a9
 have q1:0≤k.frames∧k.frames<1099511627776:=by omega
 have q2:0≤k.rows∧k.rows<1099511627776:=by omega
 have q3:1≤f.rows∧f.rows≤64:=by omega
 have q4:0≤k.since∧k.since≤k.frames:=ac.sn
 rw [a3] at bc
 unfold frCells at *
 have bC:=Hi bc
 have bA:=Hi bg
 have aY:=Hi bv
 have bx:=Hi bm
 have bS:=Hi ba
 have bs:=Hi hk
 clear hk bk bc bg a1 bv bm a3 ba an
 obtain ⟨KT,ao⟩:∃ KT,KT=k.take f a:=⟨_,rfl⟩
 rw [← ao]
 unfold Wk.take at ao
 rw [if_neg (by omega),if_pos h2] at ao
 rw [if_neg bR] at ao
 have aQ:=Hi ao
 clear ac hf af aa av ao h0 aG a9 hn hs ht hr bU bJ ce c8 aW
 rw [h2] at *
 generalize f.cols.length=n1 at *
 generalize f.block.length=n2 at *
 generalize f.ents.length=n3 at *
 go_enter Tryz.func13,Tryz.ntmps13
 go_wp2_with fail
 rw [← aB]
 clear aB
 refine bC.out.mono ?_
 rintro e w2 ⟨rfl,a2⟩
 have aR:=(a2.below.block _ (obj_lt aY.out)).trans aY.out
 obtain ⟨⟨d0,d1,d2,d3,d4,d5,d6,d7,d8,d9,d10⟩,_⟩:=cells11 aR
 have aZ:=Hi (bx.out.trans a2)
 have aT:=Hi aR
 clear a2 aR bC aY bx
 go_wp2_with fail
 refine (bA.out w2 aZ.out).mono ?_
 intro e w3 hp
 rw [hq] at hp
 obtain ⟨v3,rfl,cf,bb⟩:=hp
 have b5:=(bb.below.block _ (obj_lt aT.out)).trans aT.out
 clear d0 d1 d2 d3 d4 d5 d6 d7 d8 d9 d10 cf
 obtain ⟨⟨d0,d1,d2,d3,d4,d5,d6,d7,d8,d9,d10⟩,_⟩:=cells11 b5
 have bz:=Hi (aZ.out.trans bb)
 have aU:=Hi b5
 clear bb b5 bA aZ aT hq
 go_wp2_with fail
 refine (bS.out w3 bz.out).mono ?_
 rintro e w4 ⟨rfl,b2⟩
 have b8:=Hi (bz.out.trans b2)
 obtain ⟨b,E',c',ai,bD,aj,aK,aN,bn⟩:=bs.out.below b8.out.below
 have aH:=(b2.below.block _ (obj_lt aU.out)).trans aU.out
 have cl:=aK.lt
 have bP:=obj_lt ai
 have ak:Hid (∀ j,(j=g∨j=b∨blk (.slice E' k.entries.length c')=some j)→Core w g j):=Hi fun j=>(core_iff ((b8.out.below.block g bX).symm.trans ai) j).2
 have ck:Hid (∀ i,i<w.heap.size→Core w g i→S i):=Hi fun i _ h=>bs.out.core h
 have aM:Hid (Core w g g):=Hi (.inl rfl)
 clear d0 d1 d2 d3 d4 d5 d6 d7 d8 d9 d10
 obtain ⟨⟨d0,d1,d2,d3,d4,d5,d6,d7,d8,d9,d10⟩,_⟩:=cells11 aH
 obtain ⟨c0,c1,c2,c3,c4,c5,c6,fz⟩:=wk_cells ai
 have cm:¬g=w.heap.size:=by omega
 have ab:¬w.heap.size=g:=by omega
 have bZ:=Hi ai
 have cd:=Hi aK
 have cb:=Hi aN
 have bp:=Hi bn
 have c7:=Hi aH
 have ca:Hid (Touch (Core w g) w w4):=Hi (Touch.of_below b8.out.below fun j hj h=>absurd hj (by omega))
 obtain ⟨W5,aE⟩:∃ W5,W5=w4.setCell ⟨g,6,none⟩ (.bool false):=⟨_,rfl⟩
 have ar:Touch (At g) w4 W5:=by rw [aE];exact (Touch.refl (At g) w4).set 6 _
 have b7:W5.heap[g]? = some (.cells #[.int .i64 k.frames,.int .i64 k.rows,.int .i64 k.number,.int .i64 k.since,.map (some b),.slice E' k.entries.length c',.bool false] 82 (0,0)):=by rw [aE];exact obj_set ai 6 (.bool false)
 have bw:=ar.obj aH ab
 have bu:MapS W5 (fun j=>S j∧j≠g∧blk (.slice E' k.entries.length c')≠some j) b k.ks k.vs:=aK.touch ar fun j hj e=>hj.2.1 e
 have bh:=aN.keep ar fun j hj e=>aN.ne ai (by decide) (by rw [hj];exact congrArg some e)
 have aX:Hid (Touch (Core w g) w W5):=Hi (ca.out.then (ar.mono fun j _ e=>by rw [show j=g from e];exact aM.out))
 have am:=Hi b7
 have aD:=Hi bw
 have aO:=Hi bu
 have aA:=Hi bh
 have bF:=aX.out.size
 have aV:=obj_lt b7
 clear ai aK aN bn b2 aH aU ar b7 bw bu bh bZ cd cb c7
 by_cases hm:k.frames.tmod 4=0
 case pos=>
  have bH:k.frames % 4=0:=by rw [← Int.tmod_eq_emod_of_nonneg q1.1];exact hm
  have ci:¬(k.entries.length:Int)<64:=by omega
  clear bR
  obtain ⟨W8,a7⟩:∃ W8,W8=W5.setCell ⟨g,0,none⟩ (.int .i64 (k.frames+1)):=⟨_,rfl⟩
  have aq:W8.heap[g]? = some (.cells #[.int .i64 (k.frames+1),.int .i64 k.rows,.int .i64 k.number,.int .i64 k.since,.map (some b),.slice E' k.entries.length c',.bool false] 82 (0,0)):=by rw [a7];exact obj_set am.out 0 (.int .i64 (k.frames+1))
  have al:Touch (At g) W5 W8:=by rw [a7];exact (Touch.refl (At g) W5).set 0 _
  have aw:=al.obj aD.out ab
  obtain ⟨c0,c1,c2,c3,c4,c5,c6,fz⟩:=wk_cells am.out
  have bB:=obj_lt am.out
  have bY:IntKind.i64.wrap (k.frames+1)=k.frames+1:=IntWalk.i64_in _ (by omega)
  have bK:IntKind.i64.wrap (k.rows+f.rows)=k.rows+f.rows:=IntWalk.i64_in _ (by omega)
  have cg:IntKind.i64.wrap (k.since+1)=k.since+1:=IntWalk.i64_in _ (by omega)
  have ah:=Hi aq
  have b6:=Hi al
  have b0:=Hi aw
  clear aq al aw
  go_wp2_with fail
  rw [← aE,← a7]
  clear a7 c0 c1 c2 c3 c4 c5 c6 fz
  obtain ⟨c0,c1,c2,c3,c4,c5,c6,fz⟩:=wk_cells ah.out
  have b4:=obj_lt ah.out
  obtain ⟨⟨d0,d1,d2,d3,d4,d5,d6,d7,d8,d9,d10⟩,_⟩:=cells11 b0.out
  go_region
  all_goals
   go_wp2
   go_ret
   have az:∀ x y,Touch (At g) W5 ((W8.drew.setCell ⟨g,1,none⟩ x).setCell ⟨g,3,none⟩ y):=fun x y=>((b6.out.drew).set 1 x).set 3 y
   have aC:((W8.drew.setCell ⟨g,1,none⟩ (.int .i64 (k.rows+f.rows))).setCell ⟨g,3,none⟩ (.int .i64 (k.since+1))).heap[g]? = some (.cells #[.int .i64 (k.frames+1),.int .i64 (k.rows+f.rows),.int .i64 k.number,.int .i64 (k.since+1),.map (some b),.slice E' k.entries.length c',.bool false] 82 (0,0)):=obj_set (obj_set (show W8.drew.heap[g]? = _ from ah.out) 1 _) 3 _
   refine ⟨rfl, ?_,aX.out.then ((az _ _).mono fun j _ e=>by rw [show j=g from e];exact aM.out),fun j hj=>by
    rcases (core_iff aC j).1 hj with h | h | h
    · exact .inl (ak.out j (.inl h))
    · exact .inl (ak.out j (.inr (.inl h)))
    · exact .inl (ak.out j (.inr (.inr h)))⟩
   rw [aQ.out]
   exact WkV.turn (S:=More S w) (k':={ k with frames:=k.frames+1,rows:=k.rows+f.rows,since:=k.since+1,closed:=false,entries:=k.entries }) am.out aC (.inl bD) aj (aO.out.mono fun j _ h=>⟨.inl h.1,h.2⟩) aA.out (fun j hj=>.inl (bp.out j hj)) (az _ _)
 case neg=>
  have bH:¬k.frames % 4=0:=by rw [← Int.tmod_eq_emod_of_nonneg q1.1];exact hm
  have qm:(k.frames % 4==0)=false:=by simpa using bH
  clear bR
  obtain ⟨W8,a7⟩:∃ W8,W8=W5.setCell ⟨g,0,none⟩ (.int .i64 (k.frames+1)):=⟨_,rfl⟩
  have aq:W8.heap[g]? = some (.cells #[.int .i64 (k.frames+1),.int .i64 k.rows,.int .i64 k.number,.int .i64 k.since,.map (some b),.slice E' k.entries.length c',.bool false] 82 (0,0)):=by rw [a7];exact obj_set am.out 0 (.int .i64 (k.frames+1))
  have al:Touch (At g) W5 W8:=by rw [a7];exact (Touch.refl (At g) W5).set 0 _
  have aw:=al.obj aD.out ab
  obtain ⟨c0,c1,c2,c3,c4,c5,c6,fz⟩:=wk_cells am.out
  have bB:=obj_lt am.out
  have bY:IntKind.i64.wrap (k.frames+1)=k.frames+1:=IntWalk.i64_in _ (by omega)
  have bK:IntKind.i64.wrap (k.rows+f.rows)=k.rows+f.rows:=IntWalk.i64_in _ (by omega)
  have cg:IntKind.i64.wrap (k.since+1)=k.since+1:=IntWalk.i64_in _ (by omega)
  have ah:=Hi aq
  have b6:=Hi al
  have b0:=Hi aw
  clear aq al aw
  go_wp2_with fail
  rw [← aE,← a7]
  clear a7 c0 c1 c2 c3 c4 c5 c6 fz
  obtain ⟨c0,c1,c2,c3,c4,c5,c6,fz⟩:=wk_cells ah.out
  have b4:=obj_lt ah.out
  obtain ⟨⟨d0,d1,d2,d3,d4,d5,d6,d7,d8,d9,d10⟩,_⟩:=cells11 b0.out
  go_region
  all_goals
   go_wp2
   go_ret
   have az:∀ x y,Touch (At g) W5 ((W8.drew.setCell ⟨g,1,none⟩ x).setCell ⟨g,3,none⟩ y):=fun x y=>((b6.out.drew).set 1 x).set 3 y
   have aC:((W8.drew.setCell ⟨g,1,none⟩ (.int .i64 (k.rows+f.rows))).setCell ⟨g,3,none⟩ (.int .i64 (k.since+1))).heap[g]? = some (.cells #[.int .i64 (k.frames+1),.int .i64 (k.rows+f.rows),.int .i64 k.number,.int .i64 (k.since+1),.map (some b),.slice E' k.entries.length c',.bool false] 82 (0,0)):=obj_set (obj_set (show W8.drew.heap[g]? = _ from ah.out) 1 _) 3 _
   refine ⟨rfl, ?_,aX.out.then ((az _ _).mono fun j _ e=>by rw [show j=g from e];exact aM.out),fun j hj=>by
    rcases (core_iff aC j).1 hj with h | h | h
    · exact .inl (ak.out j (.inl h))
    · exact .inl (ak.out j (.inr (.inl h)))
    · exact .inl (ak.out j (.inr (.inr h)))⟩
   rw [aQ.out]
   exact WkV.turn (S:=More S w) (k':={ k with frames:=k.frames+1,rows:=k.rows+f.rows,since:=k.since+1,closed:=false,entries:=k.entries }) am.out aC (.inl bD) aj (aO.out.mono fun j _ h=>⟨.inl h.1,h.2⟩) aA.out (fun j hj=>.inl (bp.out j hj)) (az _ _)
set_option maxRecDepth 20000 in
set_option maxHeartbeats 4000000 in
theorem next_entry (g:Nat) (S:Nat→Prop) (k:Wk) (A B E:Option Addr) (c d m:Nat) (f:Fr) (a:Int) (w:World) (hk:WkV w S g k) (ac:k.ok) (hf:FrS w (fun j=>j<w.heap.size∧¬S j) A B E f) (af:f.wf) (aa:∀ w',Touch S w w'→Tabs w'∧Table w') (av:∀ j,S j→j<w.heap.size) (a3:outOf 1099511627776 a=false) (l:List UInt8) (hq:encF f=.ok l) (an:k.follows f a=true) (h2:f.kind=2) (hm:k.frames.tmod 4=0) (ci:k.entries.length<64) :
 Calls Tryz.prog 13 #[.pointer (some ⟨g,0,none⟩),.agg (frCells A c B d E m f),.int .i64 a] w fun e w'=>e=.returned (.int .i64 0)∧WkV w' (More S w) g (k.take f a)∧Went w w' g:=by
 have bX:=hk.lt
 obtain ⟨W1,aB⟩:∃ W1,W1=(w.alloc (.cells (frCells A c B d E m f) 36)).alloc (.cells #[.int .i64 a] 2):=⟨_,rfl⟩
 have bm:Keeps w W1:=by rw [aB];exact ((Keeps.refl w).alloc _).alloc _
 have bv:W1.heap[w.heap.size]? = some (.cells (frCells A c B d E m f) 36 (0,0)):=by rw [aB];exact obj_old (obj_new w _) _
 have bk:RowAt W1 (some ⟨w.heap.size+1,0,none⟩) (i64s [a]):=by rw [aB];exact RowAt.new_at _ _ _ _ _ rfl _ (by simp)
 have bc:Calls Tryz.prog 41 #[.slice (some ⟨w.heap.size+1,0,none⟩) 1 1] W1 fun e w'=>e=.returned (.bool (!outOf 1099511627776 a))∧Keeps W1 w':=by
  have h:=large_calls (some ⟨w.heap.size+1,0,none⟩) 1 [a] W1 (by simp) bk
  have e:[a].any (outOf 1099511627776)=outOf 1099511627776 a:=by simp [List.any]
  rw [e] at h
  exact h
 have a1:∀ w2,Keeps w w2→Touch S w w2:=fun w2 a2=>Touch.of_below a2.below fun j hj h=>absurd hj (by omega)
 have bg:∀ w2,Keeps w w2→Calls Tryz.prog 27 #[.agg (frCells A c B d E m f)] w2 (FPost w2 (encF f)):=fun w2 a2=>
  encode_calls A B E c d m f w2 ((hf.later a2.below).mono fun j _ h=>Nat.lt_of_lt_of_le h.1 a2.size) af (aa w2 (a1 w2 a2)).1 (aa w2 (a1 w2 a2)).2
 obtain ⟨bQ,h0⟩:=enc_kind hq
 have ba:∀ w2,Keeps w w2→Calls Tryz.prog 42 #[.pointer (some ⟨g,0,none⟩),.agg (frCells A c B d E m f),.int .i64 a] w2 fun e w'=>e=.returned (.bool (k.follows f a))∧Keeps w2 w':=fun w2 a2=>
  follows_calls g S _ k A B E c d m f a w2 (hk.below a2.below) ac (hf.later a2.below) bQ
 rw [an] at ba
 have aG:=h0
 unfold frWrong at aG
 rw [if_neg (by omega),if_pos h2] at aG
 obtain ⟨nn,ns,nt,nr,hn,hs,ht,hr,bU,bJ,ce,c8,aW⟩:=datWrong_no aG
 have a9:=an
 unfold Wk.follows at a9
 rw [if_neg (by omega),if_pos h2] at a9
 simp only [Bool.and_eq_true,decide_eq_true_eq] at a9
 have q1:0≤k.frames∧k.frames<1099511627776:=by omega
 have q2:0≤k.rows∧k.rows<1099511627776:=by omega
 have q3:1≤f.rows∧f.rows≤64:=by omega
 have q4:0≤k.since∧k.since≤k.frames:=ac.sn
 rw [a3] at bc
 unfold frCells at *
 have bC:=Hi bc
 have bA:=Hi bg
 have aY:=Hi bv
 have bx:=Hi bm
 have bS:=Hi ba
 have bs:=Hi hk
 clear hk bk bc bg a1 bv bm a3 ba an
 obtain ⟨KT,ao⟩:∃ KT,KT=k.take f a:=⟨_,rfl⟩
 rw [← ao]
 unfold Wk.take at ao
 rw [if_neg (by omega),if_pos h2] at ao
 rw [if_pos ⟨hm,ci⟩] at ao
 have aQ:=Hi ao
 clear ac hf af aa av ao h0 aG a9 hn hs ht hr bU bJ ce c8 aW
 rw [h2] at *
 generalize f.cols.length=n1 at *
 generalize f.block.length=n2 at *
 generalize f.ents.length=n3 at *
 go_enter Tryz.func13,Tryz.ntmps13
 go_wp2_with fail
 rw [← aB]
 clear aB
 refine bC.out.mono ?_
 rintro e w2 ⟨rfl,a2⟩
 have aR:=(a2.below.block _ (obj_lt aY.out)).trans aY.out
 obtain ⟨⟨d0,d1,d2,d3,d4,d5,d6,d7,d8,d9,d10⟩,_⟩:=cells11 aR
 have aZ:=Hi (bx.out.trans a2)
 have aT:=Hi aR
 clear a2 aR bC aY bx
 go_wp2_with fail
 refine (bA.out w2 aZ.out).mono ?_
 intro e w3 hp
 rw [hq] at hp
 obtain ⟨v3,rfl,cf,bb⟩:=hp
 have b5:=(bb.below.block _ (obj_lt aT.out)).trans aT.out
 clear d0 d1 d2 d3 d4 d5 d6 d7 d8 d9 d10 cf
 obtain ⟨⟨d0,d1,d2,d3,d4,d5,d6,d7,d8,d9,d10⟩,_⟩:=cells11 b5
 have bz:=Hi (aZ.out.trans bb)
 have aU:=Hi b5
 clear bb b5 bA aZ aT hq
 go_wp2_with fail
 refine (bS.out w3 bz.out).mono ?_
 rintro e w4 ⟨rfl,b2⟩
 have b8:=Hi (bz.out.trans b2)
 obtain ⟨b,E',c',ai,bD,aj,aK,aN,bn⟩:=bs.out.below b8.out.below
 have aH:=(b2.below.block _ (obj_lt aU.out)).trans aU.out
 have cl:=aK.lt
 have bP:=obj_lt ai
 have ak:Hid (∀ j,(j=g∨j=b∨blk (.slice E' k.entries.length c')=some j)→Core w g j):=Hi fun j=>(core_iff ((b8.out.below.block g bX).symm.trans ai) j).2
 have ck:Hid (∀ i,i<w.heap.size→Core w g i→S i):=Hi fun i _ h=>bs.out.core h
 have aM:Hid (Core w g g):=Hi (.inl rfl)
 clear d0 d1 d2 d3 d4 d5 d6 d7 d8 d9 d10
 obtain ⟨⟨d0,d1,d2,d3,d4,d5,d6,d7,d8,d9,d10⟩,_⟩:=cells11 aH
 obtain ⟨c0,c1,c2,c3,c4,c5,c6,fz⟩:=wk_cells ai
 have cm:¬g=w.heap.size:=by omega
 have ab:¬w.heap.size=g:=by omega
 have bZ:=Hi ai
 have cd:=Hi aK
 have cb:=Hi aN
 have bp:=Hi bn
 have c7:=Hi aH
 have ca:Hid (Touch (Core w g) w w4):=Hi (Touch.of_below b8.out.below fun j hj h=>absurd hj (by omega))
 obtain ⟨W5,aE⟩:∃ W5,W5=w4.setCell ⟨g,6,none⟩ (.bool false):=⟨_,rfl⟩
 have ar:Touch (At g) w4 W5:=by rw [aE];exact (Touch.refl (At g) w4).set 6 _
 have b7:W5.heap[g]? = some (.cells #[.int .i64 k.frames,.int .i64 k.rows,.int .i64 k.number,.int .i64 k.since,.map (some b),.slice E' k.entries.length c',.bool false] 82 (0,0)):=by rw [aE];exact obj_set ai 6 (.bool false)
 have bw:=ar.obj aH ab
 have bu:MapS W5 (fun j=>S j∧j≠g∧blk (.slice E' k.entries.length c')≠some j) b k.ks k.vs:=aK.touch ar fun j hj e=>hj.2.1 e
 have bh:=aN.keep ar fun j hj e=>aN.ne ai (by decide) (by rw [hj];exact congrArg some e)
 have aX:Hid (Touch (Core w g) w W5):=Hi (ca.out.then (ar.mono fun j _ e=>by rw [show j=g from e];exact aM.out))
 have am:=Hi b7
 have aD:=Hi bw
 have aO:=Hi bu
 have aA:=Hi bh
 have bF:=aX.out.size
 have aV:=obj_lt b7
 clear ai aK aN bn b2 aH aU ar b7 bw bu bh bZ cd cb c7
 obtain ⟨Q,u,bM,aP⟩:=aO.out.told k.number
 obtain ⟨es,clock,bW,_⟩:=aO.out.ex
 obtain ⟨PL,bG⟩:∃ PL,PL=placeOf (k.at k.number):=⟨_,rfl⟩
 rw [← bG] at aQ
 obtain ⟨ol,HL⟩:∃ ol:Nat,∀ W:World,W.heap[b]? = some (.map es clock)→(Instr.lookup 80 (.map (some b)) (.int .i64 k.number) false).run Tryz.prog W=.ok (.agg #[.slice Q ol u,.int .i64 PL]) W:=⟨_,fun W hW=>by rw [bG];exact aP W (hW.trans bW.symm) false⟩
 have a5:=Hi bW
 have bi:=aO.out.lt
 have cj:(k.entries.length:Int)<64:=by omega
 have bH:k.frames % 4=0:=by rw [← Int.tmod_eq_emod_of_nonneg q1.1];exact hm
 have cn:∀ X:World,(Instr.field 90 (.agg #[.slice Q ol u,.int .i64 PL]) 1).run Tryz.prog X=.ok (.int .i64 PL) X:=fun X=>by kernel_rfl
 have co:¬g=b:=fun e=>aj e.symm
 clear bM aP bW bG
 go_wp2_with fail
 rw [← aE]
 clear aE c0 c1 c2 c3 c4 c5 c6 fz d0 d1 d2 d3 d4 d5 d6 d7 d8 d9 d10
 obtain ⟨c0,c1,c2,c3,c4,c5,c6,fz⟩:=wk_cells am.out
 refine wp_region_held_drew (S:=fun w'=>w'.cell? ⟨g,1,none⟩=some (.int .i64 k.rows)∧w'.cell? ⟨g,2,none⟩=some (.int .i64 k.number)∧w'.cell? ⟨g,4,none⟩=some (.map (some b))∧w'.heap[b]? = some (.map es clock)) (by kernel_rfl) ?_ (fun hHeld=>?_)
 · (try dsimp only);(refine ⟨by first | assumption | go_keep,by first | assumption | go_keep,by first | assumption | go_keep, ?_⟩;first | assumption | exact a5.out | exact obj_old a5.out _ | exact obj_far (by assumption) aj _)
 refine wpAnyH_take (i:=0) (v:=?_) rfl (by kernel_rfl) (by kernel_rfl) (by kernel_rfl) (fun _ _ _ h=>h) (Or.inl ⟨by rfl, ?_⟩) (by assumption) ?_
 rotate_left
 · (intro w a0;(try dsimp only at a0);go_simp;try with_reducible rfl)
 try simp only [Act.put,List.setIfInBounds_toArray,List.set_cons_zero,List.set_cons_succ]
 refine wpAnyH_take (i:=1) (v:=?_) rfl (by kernel_rfl) (by kernel_rfl) (by kernel_rfl) (fun _ _ _ h=>h) (Or.inl ⟨by rfl, ?_⟩) (by assumption) ?_
 rotate_left
 · (intro w a0;(try dsimp only at a0);go_simp;try with_reducible rfl)
 try simp only [Act.put,List.setIfInBounds_toArray,List.set_cons_zero,List.set_cons_succ]
 refine wpAnyH_take (i:=2) (v:=?_) rfl (by kernel_rfl) (by kernel_rfl) (by kernel_rfl) (fun _ _ _ h=>h) (Or.inl ⟨by rfl, ?_⟩) (by assumption) ?_
 rotate_left
 · (intro w a0;(try dsimp only at a0);go_simp;try with_reducible rfl)
 try simp only [Act.put,List.setIfInBounds_toArray,List.set_cons_zero,List.set_cons_succ]
 refine wpAnyH_take (i:=3) (v:=?_) rfl (by kernel_rfl) (by kernel_rfl) (by kernel_rfl) (fun _ _ _ h=>h) (Or.inl ⟨by rfl, ?_⟩) (by assumption) ?_
 rotate_left
 · (intro w a0;(try dsimp only at a0);go_simp;try with_reducible rfl)
 try simp only [Act.put,List.setIfInBounds_toArray,List.set_cons_zero,List.set_cons_succ]
 refine wpAnyH_take (i:=5) (v:=?_) rfl (by kernel_rfl) (by kernel_rfl) (by kernel_rfl) (fun _ _ _ h=>h) (Or.inl ⟨by rfl, ?_⟩) (by assumption) ?_
 rotate_left
 · (intro w a0;(try dsimp only at a0);go_simp;try with_reducible rfl)
 try simp only [Act.put,List.setIfInBounds_toArray,List.set_cons_zero,List.set_cons_succ]
 refine wpAnyH_take (i:=6) (v:=?_) rfl (by kernel_rfl) (by kernel_rfl) (by kernel_rfl) (fun _ _ _ h=>h) (Or.inl ⟨by rfl, ?_⟩) (by assumption) ?_
 rotate_left
 · (intro w a0;(try dsimp only at a0);go_simp;try with_reducible rfl)
 try simp only [Act.put,List.setIfInBounds_toArray,List.set_cons_zero,List.set_cons_succ]
 refine wpAnyH_take (i:=7) (v:=?_) rfl (by kernel_rfl) (by kernel_rfl) (by kernel_rfl) (fun _ _ _ h=>h) (Or.inl ⟨by rfl, ?_⟩) (by assumption) ?_
 rotate_left
 · (intro w a0;(try dsimp only at a0);go_simp;try with_reducible rfl)
 try simp only [Act.put,List.setIfInBounds_toArray,List.set_cons_zero,List.set_cons_succ]
 refine wpAnyH_take (i:=8) (v:=?_) rfl (by kernel_rfl) (by kernel_rfl) (by kernel_rfl) (fun _ _ _ h=>h) (Or.inl ⟨by rfl, ?_⟩) (by assumption) ?_
 rotate_left
 · (intro w a0;(try dsimp only at a0);go_simp;try with_reducible rfl)
 try simp only [Act.put,List.setIfInBounds_toArray,List.set_cons_zero,List.set_cons_succ]
 refine wpAnyH_take (i:=9) (v:=?_) rfl (by kernel_rfl) (by kernel_rfl) (by kernel_rfl) (fun _ _ _ h=>h) (Or.inl ⟨by rfl, ?_⟩) (by assumption) ?_
 rotate_left
 · (intro w a0;(try dsimp only at a0);go_simp;try with_reducible rfl)
 try simp only [Act.put,List.setIfInBounds_toArray,List.set_cons_zero,List.set_cons_succ]
 refine wpAnyH_take (i:=10) (v:=?_) rfl (by kernel_rfl) (by kernel_rfl) (by kernel_rfl) (fun _ _ _ h=>h) (Or.inl ⟨by rfl, ?_⟩) (by assumption) ?_
 rotate_left
 · (intro w a0;(try dsimp only at a0);go_simp;try with_reducible rfl)
 try simp only [Act.put,List.setIfInBounds_toArray,List.set_cons_zero,List.set_cons_succ]
 refine wpAnyH_take (i:=11) (v:=?_) rfl (by kernel_rfl) (by kernel_rfl) (by kernel_rfl) (fun _ _ _ h=>h) (Or.inl ⟨by rfl, ?_⟩) (by assumption) ?_
 rotate_left
 · (intro w a0;(try dsimp only at a0);go_simp;try with_reducible rfl)
 try simp only [Act.put,List.setIfInBounds_toArray,List.set_cons_zero,List.set_cons_succ]
 refine wpAnyH_take (i:=12) (v:=?_) rfl (by kernel_rfl) (by kernel_rfl) (by kernel_rfl) (fun _ _ _ h=>h) (Or.inl ⟨by rfl, ?_⟩) (by assumption) ?_
 rotate_left
 · (intro w a0;(try dsimp only at a0);go_simp;try with_reducible rfl)
 try simp only [Act.put,List.setIfInBounds_toArray,List.set_cons_zero,List.set_cons_succ]
 refine wpAnyH_take (i:=13) (v:=?_) rfl (by kernel_rfl) (by kernel_rfl) (by kernel_rfl) (fun _ _ _ h=>h) (Or.inl ⟨by rfl, ?_⟩) (by assumption) ?_
 rotate_left
 · (intro w a0;(try dsimp only at a0);go_simp;try with_reducible rfl)
 try simp only [Act.put,List.setIfInBounds_toArray,List.set_cons_zero,List.set_cons_succ]
 refine wpAnyH_take (i:=14) (v:=?_) rfl (by kernel_rfl) (by kernel_rfl) (by kernel_rfl) (fun _ _ _ h=>h) (Or.inl ⟨by rfl, ?_⟩) (by assumption) ?_
 rotate_left
 · (intro w a0;(try dsimp only at a0);go_simp;try with_reducible rfl)
 try simp only [Act.put,List.setIfInBounds_toArray,List.set_cons_zero,List.set_cons_succ]
 refine wpAnyH_take (i:=15) (v:=?_) rfl (by kernel_rfl) (by kernel_rfl) (by kernel_rfl) (fun _ _ _ h=>h) (Or.inl ⟨by rfl, ?_⟩) (by assumption) ?_
 rotate_left
 · (intro w a0;(try dsimp only at a0);go_simp;try with_reducible rfl)
 try simp only [Act.put,List.setIfInBounds_toArray,List.set_cons_zero,List.set_cons_succ]
 refine wpAnyH_take (i:=16) (v:=?_) rfl (by kernel_rfl) (by kernel_rfl) (by kernel_rfl) (fun _ _ _ h=>h) (Or.inl ⟨by rfl, ?_⟩) (by assumption) ?_
 rotate_left
 · (intro w a0;(try dsimp only at a0);go_simp;try with_reducible rfl)
 try simp only [Act.put,List.setIfInBounds_toArray,List.set_cons_zero,List.set_cons_succ]
 refine wpAnyH_take (i:=17) (v:=?_) rfl (by kernel_rfl) (by kernel_rfl) (by kernel_rfl) (fun _ _ _ h=>h) (Or.inl ⟨by rfl, ?_⟩) (by assumption) ?_
 rotate_left
 · (intro w a0;(try dsimp only at a0);go_simp;try with_reducible rfl)
 try simp only [Act.put,List.setIfInBounds_toArray,List.set_cons_zero,List.set_cons_succ]
 refine wpAnyH_take (i:=18) (v:=?_) rfl (by kernel_rfl) (by kernel_rfl) (by kernel_rfl) (fun _ _ _ h=>h) (Or.inl ⟨by rfl, ?_⟩) (by assumption) ?_
 rotate_left
 · (intro w a0;(try dsimp only at a0);go_simp;try with_reducible rfl)
 try simp only [Act.put,List.setIfInBounds_toArray,List.set_cons_zero,List.set_cons_succ]
 refine wpAnyH_take (i:=19) (v:=?_) rfl (by kernel_rfl) (by kernel_rfl) (by kernel_rfl) (fun _ _ _ h=>h) (Or.inl ⟨by rfl, ?_⟩) (by assumption) ?_
 rotate_left
 · (intro w a0;(try dsimp only at a0);go_simp;try with_reducible rfl)
 try simp only [Act.put,List.setIfInBounds_toArray,List.set_cons_zero,List.set_cons_succ]
 refine wpAnyH_take (i:=20) (v:=?_) rfl (by kernel_rfl) (by kernel_rfl) (by kernel_rfl) (fun _ _ _ h=>h) (Or.inl ⟨by rfl, ?_⟩) (by assumption) ?_
 rotate_left
 · (intro w a0;(try dsimp only at a0);go_simp;try with_reducible rfl)
 try simp only [Act.put,List.setIfInBounds_toArray,List.set_cons_zero,List.set_cons_succ]
 refine wpAnyH_ready (rs:=[4,21]) (by kernel_rfl) (by simp) ?_
 refine AllReadyH.cons rfl (fun K hK=>?_) (AllReadyH.cons rfl (fun K hK=>?_) AllReadyH.nil)
 · go_simp
   refine hK.out _ _ ?_ (fun hHeld=>?_)
   · (try dsimp only);(refine ⟨by first | assumption | go_keep,by first | assumption | go_keep,by first | assumption | go_keep, ?_⟩;first | assumption | exact a5.out | exact obj_old a5.out _ | exact obj_far (by assumption) aj _)
   clear hK K
   try simp only [Act.put,List.setIfInBounds_toArray,List.set_cons_zero,List.set_cons_succ]
   refine wpAnyH_ready (rs:=[21]) (by kernel_rfl) (by simp) ?_
   refine AllReadyH.cons rfl (fun K hK=>?_) AllReadyH.nil
   go_simp
   refine hK.out _ _ ?_ (fun hHeld=>?_)
   · (try dsimp only);(refine ⟨by first | assumption | go_keep,by first | assumption | go_keep,by first | assumption | go_keep, ?_⟩;first | assumption | exact a5.out | exact obj_old a5.out _ | exact obj_far (by assumption) aj _)
   clear hK K
   try simp only [Act.put,List.setIfInBounds_toArray,List.set_cons_zero,List.set_cons_succ]
   refine wpAnyH_ready (rs:=[22]) (by kernel_rfl) (by simp) ?_
   refine AllReadyH.cons rfl (fun K hK=>?_) AllReadyH.nil
   refine step_append_rows 0 (by rfl) _ _ 32 78 (.agg #[.int .i64 0,.int .i64 0,.int .i64 0]) 3 24 (by rfl) Tryz.underlying32 info_entry rfl (by omega) (.slice E' k.entries.length c') k.entries.length (entCells k.entries) (by rfl) (aA.out.below (((Keeps.drew W5).alloc _).below)) (some ⟨W5.heap.size,0,none⟩) 1 1 [.int .i64 a,.int .i64 k.rows,.int .i64 PL] (by rfl) (by rfl) (RowAt.new_at W5.drew _ _ _ _ rfl _ rfl) (by simp [Value.oneCell']) (by simp only [maxLen];omega) (by omega) (Nat.zero_le _) ?_
   intro v6 w6 ag a4 ay
   obtain ⟨E6,k6,rfl,_⟩:=ag.form
   have ad:Keeps W5 (W5.drew.alloc (.cells #[.int .i64 a,.int .i64 k.rows,.int .i64 PL] 78)):=(Keeps.drew W5).alloc _
   have cc:blk (.slice E' k.entries.length c')≠some b:=aA.out.ne_map a5.out
   have bL:blk (.slice E' k.entries.length c')≠some g:=aA.out.ne am.out (by decide)
   have bI:blk (.slice E' k.entries.length c')≠some w.heap.size:=aA.out.ne aD.out (by decide)
   have c9:w6.heap[b]? = some (.map es clock):=(a4.block b (Nat.lt_of_lt_of_le bi ad.size) (fun e=>cc e.symm)).trans (obj_old a5.out _)
   have ae:=(a4.block g (Nat.lt_of_lt_of_le aV ad.size) (fun e=>bL e.symm)).trans (obj_old (show W5.drew.heap[g]? = _ from am.out) _)
   have be:=(a4.block _ (Nat.lt_of_lt_of_le (obj_lt aD.out) ad.size) (fun e=>bI e.symm)).trans (obj_old (show W5.drew.heap[w.heap.size]? = _ from aD.out) _)
   have z1:w6.cell? ⟨g,1,none⟩=some (.int .i64 k.rows):=by rw [obj_cell ae];rfl
   have z2:w6.cell? ⟨g,2,none⟩=some (.int .i64 k.number):=by rw [obj_cell ae];rfl
   have z4:w6.cell? ⟨g,4,none⟩=some (.map (some b)):=by rw [obj_cell ae];rfl
   have z5:w6.cell? ⟨g,5,none⟩=some (.slice E' k.entries.length c'):=by rw [obj_cell ae];rfl
   have y5:=obj_frozen ae 5
   have b9:=Hi ae
   have bt:=Hi be
   have bo:=Hi ag
   have bj:=Hi a4
   have bf:Hid (blk (.slice E6 (k.entries.length+1) k6)=blk (.slice E' k.entries.length c')∨∃ q,blk (.slice E6 (k.entries.length+1) k6)=some q∧W5.heap.size≤q):=Hi (ay.imp id fun h=>⟨_,h,ad.size⟩)
   have aJ:=obj_set ae 5 (.slice E6 (k.entries.length+1) k6)
   have s1:(w6.setCell ⟨g,5,none⟩ (.slice E6 (k.entries.length+1) k6)).cell? ⟨g,1,none⟩=some (.int .i64 k.rows):=by rw [obj_cell aJ];rfl
   have s2:(w6.setCell ⟨g,5,none⟩ (.slice E6 (k.entries.length+1) k6)).cell? ⟨g,2,none⟩=some (.int .i64 k.number):=by rw [obj_cell aJ];rfl
   have s4:(w6.setCell ⟨g,5,none⟩ (.slice E6 (k.entries.length+1) k6)).cell? ⟨g,4,none⟩=some (.map (some b)):=by rw [obj_cell aJ];rfl
   clear aJ
   clear ae be ag a4 ay ad
   refine hK.out _ _ ?_ (fun hHeld=>?_)
   · (try dsimp only);(refine ⟨by first | assumption | go_keep,by first | assumption | go_keep,by first | assumption | go_keep, ?_⟩;first | assumption | exact a5.out | exact obj_old a5.out _ | exact obj_far (by assumption) aj _)
   clear hK K
   try simp only [Act.put,List.setIfInBounds_toArray,List.set_cons_zero,List.set_cons_succ]
   refine wpAnyH_take (i:=23) (v:=?_) rfl (by kernel_rfl) (by kernel_rfl) (by kernel_rfl) (fun _ _ _ h=>h) (Or.inl ⟨by rfl, ?_⟩) (by assumption) ?_
   rotate_left
   · (intro w a0;(try dsimp only at a0);go_simp;try with_reducible rfl)
   try simp only [Act.put,List.setIfInBounds_toArray,List.set_cons_zero,List.set_cons_succ]
   refine wpAnyH_take (i:=24) (v:=?_) rfl (by kernel_rfl) (by kernel_rfl) (by kernel_rfl) (fun _ _ _ h=>h) (Or.inl ⟨by rfl, ?_⟩) (by assumption) ?_
   rotate_left
   · (intro w a0;(try dsimp only at a0);go_simp;try with_reducible rfl)
   try simp only [Act.put,List.setIfInBounds_toArray,List.set_cons_zero,List.set_cons_succ]
   refine wpAnyH_ready (rs:=[25]) (by kernel_rfl) (by simp) ?_
   refine AllReadyH.cons rfl (fun K hK=>?_) AllReadyH.nil
   go_simp
   refine hK.out _ _ ?_ (fun hHeld=>?_)
   · (try dsimp only);(refine ⟨by first | assumption | go_keep,by first | assumption | go_keep,by first | assumption | go_keep, ?_⟩;first | assumption | exact a5.out | exact obj_old a5.out _ | exact obj_far (by assumption) aj _)
   clear hK K
   try simp only [Act.put,List.setIfInBounds_toArray,List.set_cons_zero,List.set_cons_succ]
   refine wpAnyH_done (by kernel_rfl) ?_ _
   obtain ⟨es7,a8⟩:∃ es7,es7=k.entries++[⟨a,k.rows,PL⟩]:=⟨_,rfl⟩
   obtain ⟨n7,aF⟩:∃ n7,n7=es7.length:=⟨_,rfl⟩
   have a6:k.entries.length+1=n7:=by rw [aF,a8];simp
   rw [← a8] at aQ
   have ad:Keeps W5 (W5.drew.alloc (.cells #[.int .i64 a,.int .i64 k.rows,.int .i64 PL] 78)):=(Keeps.drew W5).alloc _
   have aS:Touch (fun j=>blk (.slice E' k.entries.length c')=some j) W5 w6:=(Touch.of_below ad.below fun j hj h=>absurd hj (by omega)).grown bj.out fun j e _=>e
   obtain ⟨W7,aI⟩:∃ W7,W7=w6.setCell ⟨g,5,none⟩ (.slice E6 n7 k6):=⟨_,rfl⟩
   have ax:Touch (At g) w6 W7:=by rw [aI];exact (Touch.refl (At g) w6).set 5 _
   have bl:W7.heap[g]? = some (.cells #[.int .i64 k.frames,.int .i64 k.rows,.int .i64 k.number,.int .i64 k.since,.map (some b),.slice E6 n7 k6,.bool false] 82 (0,0)):=by rw [aI];exact obj_set b9.out 5 (.slice E6 n7 k6)
   have br:=ax.obj bt.out ab
   have ag:=bo.out
   rw [a6] at ag
   have au:=bf.out
   rw [a6] at au
   have b3:W5.heap.size≤(W5.drew.alloc (.cells #[.int .i64 a,.int .i64 k.rows,.int .i64 PL] 78)).heap.size:=ad.size
   have bq:MapS w6 (fun j=>More S w j∧j≠g∧blk (.slice E6 n7 k6)≠some j) b k.ks k.vs:=by
    have h1:=(aO.out.mono (T:=fun j=>(S j∧j≠g∧blk (.slice E' k.entries.length c')≠some j)∧j<W5.heap.size) fun j hj h=>⟨h,hj⟩).touch aS fun j hj e=>hj.1.2.2 e
    refine h1.mono fun j _ h=>⟨.inl h.1.1,h.1.2.1,fun e=>?_⟩
    rcases au with h2 | ⟨q,h2,h4⟩
    · exact h.1.2.2 (h2.symm.trans e)
    · have:=h.2
      have h3:=h2.symm.trans e
      simp only [Option.some.injEq] at h3
      omega
   have bV:=Hi (bq.touch ax fun j hj e=>hj.2.1 e)
   have ap:entCells es7=entCells k.entries++[.int .i64 a,.int .i64 k.rows,.int .i64 PL]:=by rw [a8];simp [entCells]
   have ch:Hid (Loose W7 0 78 3 (.slice E6 n7 k6) n7 (entCells es7)):=Hi (by
    rw [ap]
    exact ag.keep ax fun j hj e=>ag.ne b9.out (by decide) (by rw [hj];exact congrArg some e))
   have bd:Hid (∀ j,blk (.slice E6 n7 k6)=some j→More S w j):=Hi fun j hj=>by
    rcases au with h2 | ⟨q,h2,h4⟩
    · exact .inl (bp.out j (h2.symm.trans hj))
    · have h3:=h2.symm.trans hj
      simp only [Option.some.injEq] at h3
      exact .inr (by omega)
   have b1:Hid (∀ j,blk (.slice E6 n7 k6)=some j→More (Core w g) w j):=Hi fun j hj=>by
    rcases au with h2 | ⟨q,h2,h4⟩
    · exact .inl (ak.out j (.inr (.inr (h2.symm.trans hj))))
    · have h3:=h2.symm.trans hj
      simp only [Option.some.injEq] at h3
      exact .inr (by omega)
   have bN:Hid (Touch (Core w g) w W7):=Hi ((aX.out.then (aS.mono fun j _ e=>ak.out j (.inr (.inr e)))).then (ax.mono fun j _ e=>by rw [show j=g from e];exact aM.out))
   have aL:=Hi bl
   have bT:=Hi br
   have bE:=Hi aF
   rw [a6]
   rw [← aI]
   clear aI aS ax bl br ag bq ap au b3 ad a8 bo bj bf b9 bt z1 z2 z4 z5 y5 s1 s2 s4 a6
   clear c0 c1 c2 c3 c4 c5 c6 fz
   obtain ⟨W8,a7⟩:∃ W8,W8=W7.setCell ⟨g,0,none⟩ (.int .i64 (k.frames+1)):=⟨_,rfl⟩
   have aq:W8.heap[g]? = some (.cells #[.int .i64 (k.frames+1),.int .i64 k.rows,.int .i64 k.number,.int .i64 k.since,.map (some b),.slice E6 n7 k6,.bool false] 82 (0,0)):=by rw [a7];exact obj_set aL.out 0 (.int .i64 (k.frames+1))
   have al:Touch (At g) W7 W8:=by rw [a7];exact (Touch.refl (At g) W7).set 0 _
   have aw:=al.obj bT.out ab
   obtain ⟨c0,c1,c2,c3,c4,c5,c6,fz⟩:=wk_cells aL.out
   have bO:=obj_lt aL.out
   have bY:IntKind.i64.wrap (k.frames+1)=k.frames+1:=IntWalk.i64_in _ (by omega)
   have bK:IntKind.i64.wrap (k.rows+f.rows)=k.rows+f.rows:=IntWalk.i64_in _ (by omega)
   have cg:IntKind.i64.wrap (k.since+1)=k.since+1:=IntWalk.i64_in _ (by omega)
   have ah:=Hi aq
   have b6:=Hi al
   have b0:=Hi aw
   clear aq al aw
   go_wp2_with fail
   rw [← a7]
   clear a7 c0 c1 c2 c3 c4 c5 c6 fz
   obtain ⟨c0,c1,c2,c3,c4,c5,c6,fz⟩:=wk_cells ah.out
   have b4:=obj_lt ah.out
   obtain ⟨⟨d0,d1,d2,d3,d4,d5,d6,d7,d8,d9,d10⟩,_⟩:=cells11 b0.out
   go_region
   all_goals
    go_wp2
    go_ret
    have az:∀ x y,Touch (At g) W7 ((W8.drew.setCell ⟨g,1,none⟩ x).setCell ⟨g,3,none⟩ y):=fun x y=>((b6.out.drew).set 1 x).set 3 y
    have aC:((W8.drew.setCell ⟨g,1,none⟩ (.int .i64 (k.rows+f.rows))).setCell ⟨g,3,none⟩ (.int .i64 (k.since+1))).heap[g]? = some (.cells #[.int .i64 (k.frames+1),.int .i64 (k.rows+f.rows),.int .i64 k.number,.int .i64 (k.since+1),.map (some b),.slice E6 n7 k6,.bool false] 82 (0,0)):=obj_set (obj_set (show W8.drew.heap[g]? = _ from ah.out) 1 _) 3 _
    refine ⟨rfl, ?_,bN.out.then ((az _ _).mono fun j _ e=>by rw [show j=g from e];exact aM.out),fun j hj=>by
     rcases (core_iff aC j).1 hj with h | h | h
     · exact .inl (ak.out j (.inl h))
     · exact .inl (ak.out j (.inr (.inl h)))
     · exact b1.out j h⟩
    rw [aQ.out]
    have aF:=bE.out
    subst aF
    exact WkV.turn (S:=More S w) (k':={ k with frames:=k.frames+1,rows:=k.rows+f.rows,since:=k.since+1,closed:=false,entries:=es7 }) aL.out aC (.inl bD) aj bV.out ch.out bd.out (az _ _)
 · go_simp
   refine hK.out _ _ ?_ (fun hHeld=>?_)
   · (try dsimp only);(refine ⟨by first | assumption | go_keep,by first | assumption | go_keep,by first | assumption | go_keep, ?_⟩;first | assumption | exact a5.out | exact obj_old a5.out _ | exact obj_far (by assumption) aj _)
   clear hK K
   try simp only [Act.put,List.setIfInBounds_toArray,List.set_cons_zero,List.set_cons_succ]
   refine wpAnyH_ready (rs:=[4]) (by kernel_rfl) (by simp) ?_
   refine AllReadyH.cons rfl (fun K hK=>?_) AllReadyH.nil
   go_simp
   refine hK.out _ _ ?_ (fun hHeld=>?_)
   · (try dsimp only);(refine ⟨by first | assumption | go_keep,by first | assumption | go_keep,by first | assumption | go_keep, ?_⟩;first | assumption | exact a5.out | exact obj_old a5.out _ | exact obj_far (by assumption) aj _)
   clear hK K
   try simp only [Act.put,List.setIfInBounds_toArray,List.set_cons_zero,List.set_cons_succ]
   refine wpAnyH_ready (rs:=[22]) (by kernel_rfl) (by simp) ?_
   refine AllReadyH.cons rfl (fun K hK=>?_) AllReadyH.nil
   refine step_append_rows 0 (by rfl) _ _ 32 78 (.agg #[.int .i64 0,.int .i64 0,.int .i64 0]) 3 24 (by rfl) Tryz.underlying32 info_entry rfl (by omega) (.slice E' k.entries.length c') k.entries.length (entCells k.entries) (by rfl) (aA.out.below (((Keeps.drew W5).alloc _).below)) (some ⟨W5.heap.size,0,none⟩) 1 1 [.int .i64 a,.int .i64 k.rows,.int .i64 PL] (by rfl) (by rfl) (RowAt.new_at W5.drew _ _ _ _ rfl _ rfl) (by simp [Value.oneCell']) (by simp only [maxLen];omega) (by omega) (Nat.zero_le _) ?_
   intro v6 w6 ag a4 ay
   obtain ⟨E6,k6,rfl,_⟩:=ag.form
   have ad:Keeps W5 (W5.drew.alloc (.cells #[.int .i64 a,.int .i64 k.rows,.int .i64 PL] 78)):=(Keeps.drew W5).alloc _
   have cc:blk (.slice E' k.entries.length c')≠some b:=aA.out.ne_map a5.out
   have bL:blk (.slice E' k.entries.length c')≠some g:=aA.out.ne am.out (by decide)
   have bI:blk (.slice E' k.entries.length c')≠some w.heap.size:=aA.out.ne aD.out (by decide)
   have c9:w6.heap[b]? = some (.map es clock):=(a4.block b (Nat.lt_of_lt_of_le bi ad.size) (fun e=>cc e.symm)).trans (obj_old a5.out _)
   have ae:=(a4.block g (Nat.lt_of_lt_of_le aV ad.size) (fun e=>bL e.symm)).trans (obj_old (show W5.drew.heap[g]? = _ from am.out) _)
   have be:=(a4.block _ (Nat.lt_of_lt_of_le (obj_lt aD.out) ad.size) (fun e=>bI e.symm)).trans (obj_old (show W5.drew.heap[w.heap.size]? = _ from aD.out) _)
   have z1:w6.cell? ⟨g,1,none⟩=some (.int .i64 k.rows):=by rw [obj_cell ae];rfl
   have z2:w6.cell? ⟨g,2,none⟩=some (.int .i64 k.number):=by rw [obj_cell ae];rfl
   have z4:w6.cell? ⟨g,4,none⟩=some (.map (some b)):=by rw [obj_cell ae];rfl
   have z5:w6.cell? ⟨g,5,none⟩=some (.slice E' k.entries.length c'):=by rw [obj_cell ae];rfl
   have y5:=obj_frozen ae 5
   have b9:=Hi ae
   have bt:=Hi be
   have bo:=Hi ag
   have bj:=Hi a4
   have bf:Hid (blk (.slice E6 (k.entries.length+1) k6)=blk (.slice E' k.entries.length c')∨∃ q,blk (.slice E6 (k.entries.length+1) k6)=some q∧W5.heap.size≤q):=Hi (ay.imp id fun h=>⟨_,h,ad.size⟩)
   have aJ:=obj_set ae 5 (.slice E6 (k.entries.length+1) k6)
   have s1:(w6.setCell ⟨g,5,none⟩ (.slice E6 (k.entries.length+1) k6)).cell? ⟨g,1,none⟩=some (.int .i64 k.rows):=by rw [obj_cell aJ];rfl
   have s2:(w6.setCell ⟨g,5,none⟩ (.slice E6 (k.entries.length+1) k6)).cell? ⟨g,2,none⟩=some (.int .i64 k.number):=by rw [obj_cell aJ];rfl
   have s4:(w6.setCell ⟨g,5,none⟩ (.slice E6 (k.entries.length+1) k6)).cell? ⟨g,4,none⟩=some (.map (some b)):=by rw [obj_cell aJ];rfl
   clear aJ
   clear ae be ag a4 ay ad
   refine hK.out _ _ ?_ (fun hHeld=>?_)
   · (try dsimp only);(refine ⟨by first | assumption | go_keep,by first | assumption | go_keep,by first | assumption | go_keep, ?_⟩;first | assumption | exact a5.out | exact obj_old a5.out _ | exact obj_far (by assumption) aj _)
   clear hK K
   try simp only [Act.put,List.setIfInBounds_toArray,List.set_cons_zero,List.set_cons_succ]
   refine wpAnyH_take (i:=23) (v:=?_) rfl (by kernel_rfl) (by kernel_rfl) (by kernel_rfl) (fun _ _ _ h=>h) (Or.inl ⟨by rfl, ?_⟩) (by assumption) ?_
   rotate_left
   · (intro w a0;(try dsimp only at a0);go_simp;try with_reducible rfl)
   try simp only [Act.put,List.setIfInBounds_toArray,List.set_cons_zero,List.set_cons_succ]
   refine wpAnyH_take (i:=24) (v:=?_) rfl (by kernel_rfl) (by kernel_rfl) (by kernel_rfl) (fun _ _ _ h=>h) (Or.inl ⟨by rfl, ?_⟩) (by assumption) ?_
   rotate_left
   · (intro w a0;(try dsimp only at a0);go_simp;try with_reducible rfl)
   try simp only [Act.put,List.setIfInBounds_toArray,List.set_cons_zero,List.set_cons_succ]
   refine wpAnyH_ready (rs:=[25]) (by kernel_rfl) (by simp) ?_
   refine AllReadyH.cons rfl (fun K hK=>?_) AllReadyH.nil
   go_simp
   refine hK.out _ _ ?_ (fun hHeld=>?_)
   · (try dsimp only);(refine ⟨by first | assumption | go_keep,by first | assumption | go_keep,by first | assumption | go_keep, ?_⟩;first | assumption | exact a5.out | exact obj_old a5.out _ | exact obj_far (by assumption) aj _)
   clear hK K
   try simp only [Act.put,List.setIfInBounds_toArray,List.set_cons_zero,List.set_cons_succ]
   refine wpAnyH_done (by kernel_rfl) ?_ _
   obtain ⟨es7,a8⟩:∃ es7,es7=k.entries++[⟨a,k.rows,PL⟩]:=⟨_,rfl⟩
   obtain ⟨n7,aF⟩:∃ n7,n7=es7.length:=⟨_,rfl⟩
   have a6:k.entries.length+1=n7:=by rw [aF,a8];simp
   rw [← a8] at aQ
   have ad:Keeps W5 (W5.drew.alloc (.cells #[.int .i64 a,.int .i64 k.rows,.int .i64 PL] 78)):=(Keeps.drew W5).alloc _
   have aS:Touch (fun j=>blk (.slice E' k.entries.length c')=some j) W5 w6:=(Touch.of_below ad.below fun j hj h=>absurd hj (by omega)).grown bj.out fun j e _=>e
   obtain ⟨W7,aI⟩:∃ W7,W7=w6.setCell ⟨g,5,none⟩ (.slice E6 n7 k6):=⟨_,rfl⟩
   have ax:Touch (At g) w6 W7:=by rw [aI];exact (Touch.refl (At g) w6).set 5 _
   have bl:W7.heap[g]? = some (.cells #[.int .i64 k.frames,.int .i64 k.rows,.int .i64 k.number,.int .i64 k.since,.map (some b),.slice E6 n7 k6,.bool false] 82 (0,0)):=by rw [aI];exact obj_set b9.out 5 (.slice E6 n7 k6)
   have br:=ax.obj bt.out ab
   have ag:=bo.out
   rw [a6] at ag
   have au:=bf.out
   rw [a6] at au
   have b3:W5.heap.size≤(W5.drew.alloc (.cells #[.int .i64 a,.int .i64 k.rows,.int .i64 PL] 78)).heap.size:=ad.size
   have bq:MapS w6 (fun j=>More S w j∧j≠g∧blk (.slice E6 n7 k6)≠some j) b k.ks k.vs:=by
    have h1:=(aO.out.mono (T:=fun j=>(S j∧j≠g∧blk (.slice E' k.entries.length c')≠some j)∧j<W5.heap.size) fun j hj h=>⟨h,hj⟩).touch aS fun j hj e=>hj.1.2.2 e
    refine h1.mono fun j _ h=>⟨.inl h.1.1,h.1.2.1,fun e=>?_⟩
    rcases au with h2 | ⟨q,h2,h4⟩
    · exact h.1.2.2 (h2.symm.trans e)
    · have:=h.2
      have h3:=h2.symm.trans e
      simp only [Option.some.injEq] at h3
      omega
   have bV:=Hi (bq.touch ax fun j hj e=>hj.2.1 e)
   have ap:entCells es7=entCells k.entries++[.int .i64 a,.int .i64 k.rows,.int .i64 PL]:=by rw [a8];simp [entCells]
   have ch:Hid (Loose W7 0 78 3 (.slice E6 n7 k6) n7 (entCells es7)):=Hi (by
    rw [ap]
    exact ag.keep ax fun j hj e=>ag.ne b9.out (by decide) (by rw [hj];exact congrArg some e))
   have bd:Hid (∀ j,blk (.slice E6 n7 k6)=some j→More S w j):=Hi fun j hj=>by
    rcases au with h2 | ⟨q,h2,h4⟩
    · exact .inl (bp.out j (h2.symm.trans hj))
    · have h3:=h2.symm.trans hj
      simp only [Option.some.injEq] at h3
      exact .inr (by omega)
   have b1:Hid (∀ j,blk (.slice E6 n7 k6)=some j→More (Core w g) w j):=Hi fun j hj=>by
    rcases au with h2 | ⟨q,h2,h4⟩
    · exact .inl (ak.out j (.inr (.inr (h2.symm.trans hj))))
    · have h3:=h2.symm.trans hj
      simp only [Option.some.injEq] at h3
      exact .inr (by omega)
   have bN:Hid (Touch (Core w g) w W7):=Hi ((aX.out.then (aS.mono fun j _ e=>ak.out j (.inr (.inr e)))).then (ax.mono fun j _ e=>by rw [show j=g from e];exact aM.out))
   have aL:=Hi bl
   have bT:=Hi br
   have bE:=Hi aF
   rw [a6]
   rw [← aI]
   clear aI aS ax bl br ag bq ap au b3 ad a8 bo bj bf b9 bt z1 z2 z4 z5 y5 s1 s2 s4 a6
   clear c0 c1 c2 c3 c4 c5 c6 fz
   obtain ⟨W8,a7⟩:∃ W8,W8=W7.setCell ⟨g,0,none⟩ (.int .i64 (k.frames+1)):=⟨_,rfl⟩
   have aq:W8.heap[g]? = some (.cells #[.int .i64 (k.frames+1),.int .i64 k.rows,.int .i64 k.number,.int .i64 k.since,.map (some b),.slice E6 n7 k6,.bool false] 82 (0,0)):=by rw [a7];exact obj_set aL.out 0 (.int .i64 (k.frames+1))
   have al:Touch (At g) W7 W8:=by rw [a7];exact (Touch.refl (At g) W7).set 0 _
   have aw:=al.obj bT.out ab
   obtain ⟨c0,c1,c2,c3,c4,c5,c6,fz⟩:=wk_cells aL.out
   have bO:=obj_lt aL.out
   have bY:IntKind.i64.wrap (k.frames+1)=k.frames+1:=IntWalk.i64_in _ (by omega)
   have bK:IntKind.i64.wrap (k.rows+f.rows)=k.rows+f.rows:=IntWalk.i64_in _ (by omega)
   have cg:IntKind.i64.wrap (k.since+1)=k.since+1:=IntWalk.i64_in _ (by omega)
   have ah:=Hi aq
   have b6:=Hi al
   have b0:=Hi aw
   clear aq al aw
   go_wp2_with fail
   rw [← a7]
   clear a7 c0 c1 c2 c3 c4 c5 c6 fz
   obtain ⟨c0,c1,c2,c3,c4,c5,c6,fz⟩:=wk_cells ah.out
   have b4:=obj_lt ah.out
   obtain ⟨⟨d0,d1,d2,d3,d4,d5,d6,d7,d8,d9,d10⟩,_⟩:=cells11 b0.out
   go_region
   all_goals
    go_wp2
    go_ret
    have az:∀ x y,Touch (At g) W7 ((W8.drew.setCell ⟨g,1,none⟩ x).setCell ⟨g,3,none⟩ y):=fun x y=>((b6.out.drew).set 1 x).set 3 y
    have aC:((W8.drew.setCell ⟨g,1,none⟩ (.int .i64 (k.rows+f.rows))).setCell ⟨g,3,none⟩ (.int .i64 (k.since+1))).heap[g]? = some (.cells #[.int .i64 (k.frames+1),.int .i64 (k.rows+f.rows),.int .i64 k.number,.int .i64 (k.since+1),.map (some b),.slice E6 n7 k6,.bool false] 82 (0,0)):=obj_set (obj_set (show W8.drew.heap[g]? = _ from ah.out) 1 _) 3 _
    refine ⟨rfl, ?_,bN.out.then ((az _ _).mono fun j _ e=>by rw [show j=g from e];exact aM.out),fun j hj=>by
     rcases (core_iff aC j).1 hj with h | h | h
     · exact .inl (ak.out j (.inl h))
     · exact .inl (ak.out j (.inr (.inl h)))
     · exact b1.out j h⟩
    rw [aQ.out]
    have aF:=bE.out
    subst aF
    exact WkV.turn (S:=More S w) (k':={ k with frames:=k.frames+1,rows:=k.rows+f.rows,since:=k.since+1,closed:=false,entries:=es7 }) aL.out aC (.inl bD) aj bV.out ch.out bd.out (az _ _)
end Go.Proofs.YtihodcnnappkbaaGreatDoor
namespace Go.Proofs.YtihodcnnappkbaaGreatDoor
open Go.RowKit Go.BigFrame
set_option linter.unusedVariables false
set_option linter.unusedSimpArgs false
theorem next_low (g:Nat) (S:Nat→Prop) (k:Wk) (A B E:Option Addr) (c d m:Nat) (f:Fr) (a:Int) (w:World) (hk:WkV w S g k) (ac:k.ok) (hf:FrS w (fun j=>j<w.heap.size∧¬S j) A B E f) (af:f.wf) (aa:∀ w',Touch S w w'→Tabs w'∧Table w') (av:∀ j,S j→j<w.heap.size) :
 Calls Tryz.prog 13 #[.pointer (some ⟨g,0,none⟩),.agg (frCells A c B d E m f),.int .i64 a] w fun e w'=>e=.returned (.int .i64 (k.next f a).2)∧WkV w' (More S w) g (k.next f a).1∧Went w w' g:=by
 have quietly:∀ {e:Ending} {w':World} {v:Int},(e=.returned (.int .i64 v)∧Keeps w w')→e=.returned (.int .i64 v)∧WkV w' (More S w) g k∧Went w w' g:=fun h=>
  ⟨h.1,(hk.below h.2.below).mono fun j _ h=>.inl h,Went.of_keeps hk h.2⟩
 unfold Wk.next
 cases a3:outOf 1099511627776 a with
 | true=>exact (next_out g S k A B E c d m f a w hk ac hf af aa av a3).mono fun e w' h=>quietly h
 | false=>
   simp only [Bool.false_eq_true,if_false]
   cases hq:encF f with
   | error er=>exact (next_unencoded g S k A B E c d m f a w hk ac hf af aa av a3 er hq).mono fun e w' h=>quietly h
   | ok l=>
     cases an:k.follows f a with
     | false=>
       simp only [Bool.false_eq_true,if_false]
       exact (next_astray g S k A B E c d m f a w hk ac hf af aa av a3 l hq an).mono fun e w' h=>quietly h
     | true=>
       simp only [if_true]
       obtain ⟨h | h | h,_⟩:=enc_kind hq
       · exact next_schema g S k A B E c d m f a w hk ac hf af aa av a3 l hq an h
       · by_cases hm:k.frames.tmod 4=0∧k.entries.length<64
         · exact next_entry g S k A B E c d m f a w hk ac hf af aa av a3 l hq an h hm.1 hm.2
         · exact next_plain g S k A B E c d m f a w hk ac hf af aa av a3 l hq an h hm
       · exact next_index g S k A B E c d m f a w hk ac hf af aa av a3 l hq an h
theorem scanNext_went (g:Nat) (S:Nat→Prop) (k:Wk) (A B E:Option Addr) (c d m:Nat) (f:Fr) (a:Int) (w:World) (hk:WkV w S g k) (ac:k.ok) (hf:FrS w (fun j=>j<w.heap.size∧¬S j) A B E f) (af:f.wf) (aa:∀ w',Touch S w w'→Tabs w'∧Table w') :
 Calls Tryz.prog 13 #[.pointer (some ⟨g,0,none⟩),.agg (frCells A c B d E m f),.int .i64 a] w fun e w'=>e=.returned (.int .i64 (k.next f a).2)∧WkV w' (More S w) g (k.next f a).1∧Went w w' g:=
 (next_low g (fun j=>S j∧j<w.heap.size) k A B E c d m f a w hk.here ac (hf.mono fun j _ h=>⟨h.1,fun h2=>h.2 h2.1⟩) af (fun w' h=>aa w' (h.mono fun _ _ h=>h.1)) fun j h=>h.2).mono fun e w' h=>
   ⟨h.1,h.2.1.mono fun j _ h=>h.elim (fun h=>.inl h.1) .inr,h.2.2⟩
theorem scanNext_calls (g:Nat) (S:Nat→Prop) (k:Wk) (A B E:Option Addr) (c d m:Nat) (f:Fr) (a:Int) (w:World) (hk:WkV w S g k) (ac:k.ok) (hf:FrS w (fun j=>j<w.heap.size∧¬S j) A B E f) (af:f.wf) (aa:∀ w',Touch S w w'→Tabs w'∧Table w') :
 Calls Tryz.prog 13 #[.pointer (some ⟨g,0,none⟩),.agg (frCells A c B d E m f),.int .i64 a] w fun e w'=>e=.returned (.int .i64 (k.next f a).2)∧WkV w' (More S w) g (k.next f a).1∧Touch S w w':=
 (scanNext_went g S k A B E c d m f a w hk ac hf af aa).mono fun e w' h=>⟨h.1,h.2.1,h.2.2.in hk⟩
end Go.Proofs.YtihodcnnappkbaaGreatDoor
