/-
  The walk of Next: a data frame is taken. Condition: the walk stands for its plain walk; the frame reads, in blocks of its own; the tables are as laid, whatever is done in the walk's blocks. The walk of Next. Condition: the walk stands for its plain walk; the frame reads, in blocks of its own; the tables are as laid, whatever is done in the walk's blocks.
-/
import Derived.Test.YtihodcnnappkbaaGreatDoorG15
import Derived.Test.YtihodcnnappkbaaGreatDoorG7
import Derived.Test.YtihodcnnappkbaaGreatDoorG14
import Derived.Deep.RegionHeld3
import Derived.BigRegion
import Derived.Test.YtihodcnnappkbaaGreatDoorG16
set_option linter.unusedVariables false
set_option linter.unusedSimpArgs false
set_option maxHeartbeats 4000000
set_option maxRecDepth 20000
namespace Go.Proofs.YtihodcnnappkbaaGreatDoor
section
open Go.RowKit Go.BigFrame
attribute [local go_sem] run_storeF
theorem next_plain (g:Nat) (S:Nat→Prop) (k:Wk) (A B E:Option Addr) (c d m:Nat) (f:Fr) (a:Int) (w:World) (hk:WkV w S g k) (aa:k.ok) (hf:FrS w (fun j=>j<w.heap.size∧¬S j) A B E f) (af:f.wf) (a8:∀ w',Touch S w w'→Tabs w'∧Table w') (ax:∀ j,S j→j<w.heap.size) (a1:outOf 1099511627776 a=false) (l:List UInt8) (hq:encF f=.ok l) (am:k.follows f a=true) (h2:f.kind=2) (bL:¬(k.frames.tmod 4=0∧k.entries.length<64)) :
 Calls Tryz.prog 13 #[.pointer (some ⟨g,0,none⟩),.agg (frCells A c B d E m f),.int .i64 a] w fun e w'=>e=.returned (.int .i64 0)∧WkV w' (More S w) g (k.take f a)∧Went w w' g:=by
 have bJ:=hk.lt
 obtain ⟨W1,av⟩:∃ W1,W1=(w.alloc (.cells (frCells A c B d E m f) 36)).alloc (.cells #[.int .i64 a] 2):=⟨_,rfl⟩
 have bt:Keeps w W1:=by rw [av];exact ((Keeps.refl w).alloc _).alloc _
 have be:W1.heap[w.heap.size]? = some (.cells (frCells A c B d E m f) 36 (0,0)):=by rw [av];exact obj_old (obj_new w _) _
 have bf:RowAt W1 (some ⟨w.heap.size+1,0,none⟩) (i64s [a]):=by rw [av];exact RowAt.new_at _ _ _ _ _ rfl _ (by simp)
 have b7:Calls Tryz.prog 41 #[.slice (some ⟨w.heap.size+1,0,none⟩) 1 1] W1 fun e w'=>e=.returned (.bool (!outOf 1099511627776 a))∧Keeps W1 w':=by
  have h:=large_calls (some ⟨w.heap.size+1,0,none⟩) 1 [a] W1 (by simp) bf
  have e:[a].any (outOf 1099511627776)=outOf 1099511627776 a:=by simp [List.any]
  rw [e] at h
  exact h
 have a0:∀ w2,Keeps w w2→Touch S w w2:=fun w2 a2=>Touch.of_below a2.below fun j hj h=>absurd hj (by omega)
 have bm:∀ w2,Keeps w w2→Calls Tryz.prog 27 #[.agg (frCells A c B d E m f)] w2 (FPost w2 (encF f)):=fun w2 a2=>
  encode_calls A B E c d m f w2 ((hf.later a2.below).mono fun j _ h=>Nat.lt_of_lt_of_le h.1 a2.size) af (a8 w2 (a0 w2 a2)).1 (a8 w2 (a0 w2 a2)).2
 obtain ⟨cb,h0⟩:=enc_kind hq
 have aW:∀ w2,Keeps w w2→Calls Tryz.prog 42 #[.pointer (some ⟨g,0,none⟩),.agg (frCells A c B d E m f),.int .i64 a] w2 fun e w'=>e=.returned (.bool (k.follows f a))∧Keeps w2 w':=fun w2 a2=>
  follows_calls g S _ k A B E c d m f a w2 (hk.below a2.below) aa (hf.later a2.below) cb
 rw [am] at aW
 have aI:=h0
 unfold frWrong at aI
 rw [if_neg (by omega),if_pos h2] at aI
 obtain ⟨nn,ns,nt,nr,hn,hs,ht,hr,bO,cf,bZ,c9,b2⟩:=datWrong_no aI
 have a5:=am
 unfold Wk.follows at a5
 rw [if_neg (by omega),if_pos h2] at a5
 simp only [Bool.and_eq_true,decide_eq_true_eq] at a5
 have q1:0≤k.frames∧k.frames<1099511627776:=by omega
 have q2:0≤k.rows∧k.rows<1099511627776:=by omega
 have q3:1≤f.rows∧f.rows≤64:=by omega
 have q4:0≤k.since∧k.since≤k.frames:=aa.sn
 rw [a1] at b7
 unfold frCells at *
 have bg:=Hi b7
 have bp:=Hi bm
 have aU:=Hi be
 have bB:=Hi bt
 have cg:=Hi aW
 have bq:=Hi hk
 clear hk bf b7 bm a0 be bt a1 aW am
 obtain ⟨KT,an⟩:∃ KT,KT=k.take f a:=⟨_,rfl⟩
 rw [← an]
 unfold Wk.take at an
 rw [if_neg (by omega),if_pos h2] at an
 rw [if_neg bL] at an
 have aN:=Hi an
 clear aa hf af a8 ax an h0 aI a5 hn hs ht hr bO cf bZ c9 b2
 rw [h2] at *
 generalize f.cols.length=n1 at *
 generalize f.block.length=n2 at *
 generalize f.ents.length=n3 at *
 go_enter Tryz.func13,Tryz.ntmps13
 go_wp2_with fail
 rw [← av]
 clear av
 refine bg.out.mono ?_
 rintro e w2 ⟨rfl,a2⟩
 have b8:=(a2.below.block _ (obj_lt aU.out)).trans aU.out
 obtain ⟨⟨d0,d1,d2,d3,d4,d5,d6,d7,d8,d9,d10⟩,_⟩:=cells11 b8
 have b3:=Hi (bB.out.trans a2)
 have b1:=Hi b8
 clear a2 b8 bg aU bB
 go_wp2_with fail
 refine (bp.out w2 b3.out).mono ?_
 intro e w3 hp
 rw [hq] at hp
 obtain ⟨v3,rfl,bS,b0⟩:=hp
 have b9:=(b0.below.block _ (obj_lt b1.out)).trans b1.out
 clear d0 d1 d2 d3 d4 d5 d6 d7 d8 d9 d10 bS
 obtain ⟨⟨d0,d1,d2,d3,d4,d5,d6,d7,d8,d9,d10⟩,_⟩:=cells11 b9
 have bv:=Hi (b3.out.trans b0)
 have aT:=Hi b9
 clear b0 b9 bp b3 b1 hq
 go_wp2_with fail
 refine (cg.out w3 bv.out).mono ?_
 rintro e w4 ⟨rfl,bb⟩
 have aZ:=Hi (bv.out.trans bb)
 obtain ⟨b,E',c',ag,bz,aj,aM,aJ,bk⟩:=bq.out.below aZ.out.below
 have aD:=(bb.below.block _ (obj_lt aT.out)).trans aT.out
 have ci:=aM.lt
 have bN:=obj_lt ag
 have ah:Hid (∀ j,(j=g∨j=b∨blk (.slice E' k.entries.length c')=some j)→Core w g j):=Hi fun j=>(core_iff ((aZ.out.below.block g bJ).symm.trans ag) j).2
 have cl:Hid (∀ i,i<w.heap.size→Core w g i→S i):=Hi fun i _ h=>bq.out.core h
 have aG:Hid (Core w g g):=Hi (.inl rfl)
 clear d0 d1 d2 d3 d4 d5 d6 d7 d8 d9 d10
 obtain ⟨⟨d0,d1,d2,d3,d4,d5,d6,d7,d8,d9,d10⟩,_⟩:=cells11 aD
 obtain ⟨c0,c1,c2,c3,c4,c5,c6,fz⟩:=wk_cells ag
 have cj:¬g=w.heap.size:=by omega
 have ab:¬w.heap.size=g:=by omega
 have bW:=Hi ag
 have bH:=Hi aM
 have cd:=Hi aJ
 have bA:=Hi bk
 have bY:=Hi aD
 have bP:Hid (Touch (Core w g) w w4):=Hi (Touch.of_below aZ.out.below fun j hj h=>absurd hj (by omega))
 obtain ⟨W5,aH⟩:∃ W5,W5=w4.setCell ⟨g,6,none⟩ (.bool false):=⟨_,rfl⟩
 have ap:Touch (At g) w4 W5:=by rw [aH];exact (Touch.refl (At g) w4).set 6 _
 have aV:W5.heap[g]? = some (.cells #[.int .i64 k.frames,.int .i64 k.rows,.int .i64 k.number,.int .i64 k.since,.map (some b),.slice E' k.entries.length c',.bool false] 82 (0,0)):=by rw [aH];exact obj_set ag 6 (.bool false)
 have bh:=ap.obj aD ab
 have bo:MapS W5 (fun j=>S j∧j≠g∧blk (.slice E' k.entries.length c')≠some j) b k.ks k.vs:=aM.touch ap fun j hj e=>hj.2.1 e
 have bC:=aJ.keep ap fun j hj e=>aJ.ne ag (by decide) (by rw [hj];exact congrArg some e)
 have aS:Hid (Touch (Core w g) w W5):=Hi (bP.out.then (ap.mono fun j _ e=>by rw [show j=g from e];exact aG.out))
 have al:=Hi aV
 have aC:=Hi bh
 have aP:=Hi bo
 have az:=Hi bC
 have bD:=aS.out.size
 have b6:=obj_lt aV
 clear ag aM aJ bk bb aD aT ap aV bh bo bC bW bH cd bY
 by_cases hm:k.frames.tmod 4=0
 case pos=>
  have bR:k.frames % 4=0:=by rw [← Int.tmod_eq_emod_of_nonneg q1.1];exact hm
  have ch:¬(k.entries.length:Int)<64:=by omega
  clear bL
  obtain ⟨W8,ac⟩:∃ W8,W8=W5.setCell ⟨g,0,none⟩ (.int .i64 (k.frames+1)):=⟨_,rfl⟩
  have aB:W8.heap[g]? = some (.cells #[.int .i64 (k.frames+1),.int .i64 k.rows,.int .i64 k.number,.int .i64 k.since,.map (some b),.slice E' k.entries.length c',.bool false] 82 (0,0)):=by rw [ac];exact obj_set al.out 0 (.int .i64 (k.frames+1))
  have ak:Touch (At g) W5 W8:=by rw [ac];exact (Touch.refl (At g) W5).set 0 _
  have aq:=ak.obj aC.out ab
  obtain ⟨c0,c1,c2,c3,c4,c5,c6,fz⟩:=wk_cells al.out
  have bs:=obj_lt al.out
  have bG:IntKind.i64.wrap (k.frames+1)=k.frames+1:=IntWalk.i64_in _ (by omega)
  have ce:IntKind.i64.wrap (k.rows+f.rows)=k.rows+f.rows:=IntWalk.i64_in _ (by omega)
  have bI:IntKind.i64.wrap (k.since+1)=k.since+1:=IntWalk.i64_in _ (by omega)
  have ai:=Hi aB
  have aQ:=Hi ak
  have aY:=Hi aq
  clear aB ak aq
  go_wp2_with fail
  rw [← aH,← ac]
  clear ac c0 c1 c2 c3 c4 c5 c6 fz
  obtain ⟨c0,c1,c2,c3,c4,c5,c6,fz⟩:=wk_cells ai.out
  have b4:=obj_lt ai.out
  obtain ⟨⟨d0,d1,d2,d3,d4,d5,d6,d7,d8,d9,d10⟩,_⟩:=cells11 aY.out
  go_region
  all_goals
   go_wp2
   go_ret
   have aw:∀ x y,Touch (At g) W5 ((W8.drew.setCell ⟨g,1,none⟩ x).setCell ⟨g,3,none⟩ y):=fun x y=>((aQ.out.drew).set 1 x).set 3 y
   have aA:((W8.drew.setCell ⟨g,1,none⟩ (.int .i64 (k.rows+f.rows))).setCell ⟨g,3,none⟩ (.int .i64 (k.since+1))).heap[g]? = some (.cells #[.int .i64 (k.frames+1),.int .i64 (k.rows+f.rows),.int .i64 k.number,.int .i64 (k.since+1),.map (some b),.slice E' k.entries.length c',.bool false] 82 (0,0)):=obj_set (obj_set (show W8.drew.heap[g]? = _ from ai.out) 1 _) 3 _
   refine ⟨rfl, ?_,aS.out.then ((aw _ _).mono fun j _ e=>by rw [show j=g from e];exact aG.out),fun j hj=>by
    rcases (core_iff aA j).1 hj with h | h | h
    · exact .inl (ah.out j (.inl h))
    · exact .inl (ah.out j (.inr (.inl h)))
    · exact .inl (ah.out j (.inr (.inr h)))⟩
   rw [aN.out]
   exact WkV.turn (S:=More S w) (k':={ k with frames:=k.frames+1,rows:=k.rows+f.rows,since:=k.since+1,closed:=false,entries:=k.entries }) al.out aA (.inl bz) aj (aP.out.mono fun j _ h=>⟨.inl h.1,h.2⟩) az.out (fun j hj=>.inl (bA.out j hj)) (aw _ _)
 case neg=>
  have bR:¬k.frames % 4=0:=by rw [← Int.tmod_eq_emod_of_nonneg q1.1];exact hm
  have qm:(k.frames % 4==0)=false:=by simpa using bR
  clear bL
  obtain ⟨W8,ac⟩:∃ W8,W8=W5.setCell ⟨g,0,none⟩ (.int .i64 (k.frames+1)):=⟨_,rfl⟩
  have aB:W8.heap[g]? = some (.cells #[.int .i64 (k.frames+1),.int .i64 k.rows,.int .i64 k.number,.int .i64 k.since,.map (some b),.slice E' k.entries.length c',.bool false] 82 (0,0)):=by rw [ac];exact obj_set al.out 0 (.int .i64 (k.frames+1))
  have ak:Touch (At g) W5 W8:=by rw [ac];exact (Touch.refl (At g) W5).set 0 _
  have aq:=ak.obj aC.out ab
  obtain ⟨c0,c1,c2,c3,c4,c5,c6,fz⟩:=wk_cells al.out
  have bs:=obj_lt al.out
  have bG:IntKind.i64.wrap (k.frames+1)=k.frames+1:=IntWalk.i64_in _ (by omega)
  have ce:IntKind.i64.wrap (k.rows+f.rows)=k.rows+f.rows:=IntWalk.i64_in _ (by omega)
  have bI:IntKind.i64.wrap (k.since+1)=k.since+1:=IntWalk.i64_in _ (by omega)
  have ai:=Hi aB
  have aQ:=Hi ak
  have aY:=Hi aq
  clear aB ak aq
  go_wp2_with fail
  rw [← aH,← ac]
  clear ac c0 c1 c2 c3 c4 c5 c6 fz
  obtain ⟨c0,c1,c2,c3,c4,c5,c6,fz⟩:=wk_cells ai.out
  have b4:=obj_lt ai.out
  obtain ⟨⟨d0,d1,d2,d3,d4,d5,d6,d7,d8,d9,d10⟩,_⟩:=cells11 aY.out
  go_region
  all_goals
   go_wp2
   go_ret
   have aw:∀ x y,Touch (At g) W5 ((W8.drew.setCell ⟨g,1,none⟩ x).setCell ⟨g,3,none⟩ y):=fun x y=>((aQ.out.drew).set 1 x).set 3 y
   have aA:((W8.drew.setCell ⟨g,1,none⟩ (.int .i64 (k.rows+f.rows))).setCell ⟨g,3,none⟩ (.int .i64 (k.since+1))).heap[g]? = some (.cells #[.int .i64 (k.frames+1),.int .i64 (k.rows+f.rows),.int .i64 k.number,.int .i64 (k.since+1),.map (some b),.slice E' k.entries.length c',.bool false] 82 (0,0)):=obj_set (obj_set (show W8.drew.heap[g]? = _ from ai.out) 1 _) 3 _
   refine ⟨rfl, ?_,aS.out.then ((aw _ _).mono fun j _ e=>by rw [show j=g from e];exact aG.out),fun j hj=>by
    rcases (core_iff aA j).1 hj with h | h | h
    · exact .inl (ah.out j (.inl h))
    · exact .inl (ah.out j (.inr (.inl h)))
    · exact .inl (ah.out j (.inr (.inr h)))⟩
   rw [aN.out]
   exact WkV.turn (S:=More S w) (k':={ k with frames:=k.frames+1,rows:=k.rows+f.rows,since:=k.since+1,closed:=false,entries:=k.entries }) al.out aA (.inl bz) aj (aP.out.mono fun j _ h=>⟨.inl h.1,h.2⟩) az.out (fun j hj=>.inl (bA.out j hj)) (aw _ _)
theorem next_entry (g:Nat) (S:Nat→Prop) (k:Wk) (A B E:Option Addr) (c d m:Nat) (f:Fr) (a:Int) (w:World) (hk:WkV w S g k) (aa:k.ok) (hf:FrS w (fun j=>j<w.heap.size∧¬S j) A B E f) (af:f.wf) (a8:∀ w',Touch S w w'→Tabs w'∧Table w') (ax:∀ j,S j→j<w.heap.size) (a1:outOf 1099511627776 a=false) (l:List UInt8) (hq:encF f=.ok l) (am:k.follows f a=true) (h2:f.kind=2) (hm:k.frames.tmod 4=0) (ch:k.entries.length<64) :
 Calls Tryz.prog 13 #[.pointer (some ⟨g,0,none⟩),.agg (frCells A c B d E m f),.int .i64 a] w fun e w'=>e=.returned (.int .i64 0)∧WkV w' (More S w) g (k.take f a)∧Went w w' g:=by
 have bJ:=hk.lt
 obtain ⟨W1,av⟩:∃ W1,W1=(w.alloc (.cells (frCells A c B d E m f) 36)).alloc (.cells #[.int .i64 a] 2):=⟨_,rfl⟩
 have bt:Keeps w W1:=by rw [av];exact ((Keeps.refl w).alloc _).alloc _
 have be:W1.heap[w.heap.size]? = some (.cells (frCells A c B d E m f) 36 (0,0)):=by rw [av];exact obj_old (obj_new w _) _
 have bf:RowAt W1 (some ⟨w.heap.size+1,0,none⟩) (i64s [a]):=by rw [av];exact RowAt.new_at _ _ _ _ _ rfl _ (by simp)
 have b7:Calls Tryz.prog 41 #[.slice (some ⟨w.heap.size+1,0,none⟩) 1 1] W1 fun e w'=>e=.returned (.bool (!outOf 1099511627776 a))∧Keeps W1 w':=by
  have h:=large_calls (some ⟨w.heap.size+1,0,none⟩) 1 [a] W1 (by simp) bf
  have e:[a].any (outOf 1099511627776)=outOf 1099511627776 a:=by simp [List.any]
  rw [e] at h
  exact h
 have a0:∀ w2,Keeps w w2→Touch S w w2:=fun w2 a2=>Touch.of_below a2.below fun j hj h=>absurd hj (by omega)
 have bm:∀ w2,Keeps w w2→Calls Tryz.prog 27 #[.agg (frCells A c B d E m f)] w2 (FPost w2 (encF f)):=fun w2 a2=>
  encode_calls A B E c d m f w2 ((hf.later a2.below).mono fun j _ h=>Nat.lt_of_lt_of_le h.1 a2.size) af (a8 w2 (a0 w2 a2)).1 (a8 w2 (a0 w2 a2)).2
 obtain ⟨cb,h0⟩:=enc_kind hq
 have aW:∀ w2,Keeps w w2→Calls Tryz.prog 42 #[.pointer (some ⟨g,0,none⟩),.agg (frCells A c B d E m f),.int .i64 a] w2 fun e w'=>e=.returned (.bool (k.follows f a))∧Keeps w2 w':=fun w2 a2=>
  follows_calls g S _ k A B E c d m f a w2 (hk.below a2.below) aa (hf.later a2.below) cb
 rw [am] at aW
 have aI:=h0
 unfold frWrong at aI
 rw [if_neg (by omega),if_pos h2] at aI
 obtain ⟨nn,ns,nt,nr,hn,hs,ht,hr,bO,cf,bZ,c9,b2⟩:=datWrong_no aI
 have a5:=am
 unfold Wk.follows at a5
 rw [if_neg (by omega),if_pos h2] at a5
 simp only [Bool.and_eq_true,decide_eq_true_eq] at a5
 have q1:0≤k.frames∧k.frames<1099511627776:=by omega
 have q2:0≤k.rows∧k.rows<1099511627776:=by omega
 have q3:1≤f.rows∧f.rows≤64:=by omega
 have q4:0≤k.since∧k.since≤k.frames:=aa.sn
 rw [a1] at b7
 unfold frCells at *
 have bg:=Hi b7
 have bp:=Hi bm
 have aU:=Hi be
 have bB:=Hi bt
 have cg:=Hi aW
 have bq:=Hi hk
 clear hk bf b7 bm a0 be bt a1 aW am
 obtain ⟨KT,an⟩:∃ KT,KT=k.take f a:=⟨_,rfl⟩
 rw [← an]
 unfold Wk.take at an
 rw [if_neg (by omega),if_pos h2] at an
 rw [if_pos ⟨hm,ch⟩] at an
 have aN:=Hi an
 clear aa hf af a8 ax an h0 aI a5 hn hs ht hr bO cf bZ c9 b2
 rw [h2] at *
 generalize f.cols.length=n1 at *
 generalize f.block.length=n2 at *
 generalize f.ents.length=n3 at *
 go_enter Tryz.func13,Tryz.ntmps13
 go_wp2_with fail
 rw [← av]
 clear av
 refine bg.out.mono ?_
 rintro e w2 ⟨rfl,a2⟩
 have b8:=(a2.below.block _ (obj_lt aU.out)).trans aU.out
 obtain ⟨⟨d0,d1,d2,d3,d4,d5,d6,d7,d8,d9,d10⟩,_⟩:=cells11 b8
 have b3:=Hi (bB.out.trans a2)
 have b1:=Hi b8
 clear a2 b8 bg aU bB
 go_wp2_with fail
 refine (bp.out w2 b3.out).mono ?_
 intro e w3 hp
 rw [hq] at hp
 obtain ⟨v3,rfl,bS,b0⟩:=hp
 have b9:=(b0.below.block _ (obj_lt b1.out)).trans b1.out
 clear d0 d1 d2 d3 d4 d5 d6 d7 d8 d9 d10 bS
 obtain ⟨⟨d0,d1,d2,d3,d4,d5,d6,d7,d8,d9,d10⟩,_⟩:=cells11 b9
 have bv:=Hi (b3.out.trans b0)
 have aT:=Hi b9
 clear b0 b9 bp b3 b1 hq
 go_wp2_with fail
 refine (cg.out w3 bv.out).mono ?_
 rintro e w4 ⟨rfl,bb⟩
 have aZ:=Hi (bv.out.trans bb)
 obtain ⟨b,E',c',ag,bz,aj,aM,aJ,bk⟩:=bq.out.below aZ.out.below
 have aD:=(bb.below.block _ (obj_lt aT.out)).trans aT.out
 have ci:=aM.lt
 have bN:=obj_lt ag
 have ah:Hid (∀ j,(j=g∨j=b∨blk (.slice E' k.entries.length c')=some j)→Core w g j):=Hi fun j=>(core_iff ((aZ.out.below.block g bJ).symm.trans ag) j).2
 have cl:Hid (∀ i,i<w.heap.size→Core w g i→S i):=Hi fun i _ h=>bq.out.core h
 have aG:Hid (Core w g g):=Hi (.inl rfl)
 clear d0 d1 d2 d3 d4 d5 d6 d7 d8 d9 d10
 obtain ⟨⟨d0,d1,d2,d3,d4,d5,d6,d7,d8,d9,d10⟩,_⟩:=cells11 aD
 obtain ⟨c0,c1,c2,c3,c4,c5,c6,fz⟩:=wk_cells ag
 have cj:¬g=w.heap.size:=by omega
 have ab:¬w.heap.size=g:=by omega
 have bW:=Hi ag
 have bH:=Hi aM
 have cd:=Hi aJ
 have bA:=Hi bk
 have bY:=Hi aD
 have bP:Hid (Touch (Core w g) w w4):=Hi (Touch.of_below aZ.out.below fun j hj h=>absurd hj (by omega))
 obtain ⟨W5,aH⟩:∃ W5,W5=w4.setCell ⟨g,6,none⟩ (.bool false):=⟨_,rfl⟩
 have ap:Touch (At g) w4 W5:=by rw [aH];exact (Touch.refl (At g) w4).set 6 _
 have aV:W5.heap[g]? = some (.cells #[.int .i64 k.frames,.int .i64 k.rows,.int .i64 k.number,.int .i64 k.since,.map (some b),.slice E' k.entries.length c',.bool false] 82 (0,0)):=by rw [aH];exact obj_set ag 6 (.bool false)
 have bh:=ap.obj aD ab
 have bo:MapS W5 (fun j=>S j∧j≠g∧blk (.slice E' k.entries.length c')≠some j) b k.ks k.vs:=aM.touch ap fun j hj e=>hj.2.1 e
 have bC:=aJ.keep ap fun j hj e=>aJ.ne ag (by decide) (by rw [hj];exact congrArg some e)
 have aS:Hid (Touch (Core w g) w W5):=Hi (bP.out.then (ap.mono fun j _ e=>by rw [show j=g from e];exact aG.out))
 have al:=Hi aV
 have aC:=Hi bh
 have aP:=Hi bo
 have az:=Hi bC
 have bD:=aS.out.size
 have b6:=obj_lt aV
 clear ag aM aJ bk bb aD aT ap aV bh bo bC bW bH cd bY
 obtain ⟨Q,u,c7,aO⟩:=aP.out.told k.number
 obtain ⟨es,clock,bX,_⟩:=aP.out.ex
 obtain ⟨PL,bT⟩:∃ PL,PL=placeOf (k.at k.number):=⟨_,rfl⟩
 rw [← bT] at aN
 obtain ⟨ol,HL⟩:∃ ol:Nat,∀ W:World,W.heap[b]? = some (.map es clock)→(Instr.lookup 80 (.map (some b)) (.int .i64 k.number) false).run Tryz.prog W=.ok (.agg #[.slice Q ol u,.int .i64 PL]) W:=⟨_,fun W hW=>by rw [bT];exact aO W (hW.trans bX.symm) false⟩
 have a4:=Hi bX
 have br:=aP.out.lt
 have ck:(k.entries.length:Int)<64:=by omega
 have bR:k.frames % 4=0:=by rw [← Int.tmod_eq_emod_of_nonneg q1.1];exact hm
 have cm:∀ X:World,(Instr.field 90 (.agg #[.slice Q ol u,.int .i64 PL]) 1).run Tryz.prog X=.ok (.int .i64 PL) X:=fun X=>by kernel_rfl
 have cn:¬g=b:=fun e=>aj e.symm
 clear c7 aO bX bT
 go_wp2_with fail
 rw [← aH]
 clear aH c0 c1 c2 c3 c4 c5 c6 fz d0 d1 d2 d3 d4 d5 d6 d7 d8 d9 d10
 obtain ⟨c0,c1,c2,c3,c4,c5,c6,fz⟩:=wk_cells al.out
 refine wp_region_held_drew (S:=fun w'=>w'.cell? ⟨g,1,none⟩=some (.int .i64 k.rows)∧w'.cell? ⟨g,2,none⟩=some (.int .i64 k.number)∧w'.cell? ⟨g,4,none⟩=some (.map (some b))∧w'.heap[b]? = some (.map es clock)) (by kernel_rfl) ?_ (fun hHeld=>?_)
 · (try dsimp only);(refine ⟨by first | assumption | go_keep,by first | assumption | go_keep,by first | assumption | go_keep, ?_⟩;first | assumption | exact a4.out | exact obj_old a4.out _ | exact obj_far (by assumption) aj _)
 refine wpAnyH_take (i:=0) (v:=?_) rfl (by kernel_rfl) (by kernel_rfl) (by kernel_rfl) (fun _ _ _ h=>h) (Or.inl ⟨by rfl, ?_⟩) (by assumption) ?_
 rotate_left
 · (intro w h;(try dsimp only at h);go_simp;try with_reducible rfl)
 try simp only [Act.put,sT,sZ,sS]
 refine wpAnyH_take (i:=1) (v:=?_) rfl (by kernel_rfl) (by kernel_rfl) (by kernel_rfl) (fun _ _ _ h=>h) (Or.inl ⟨by rfl, ?_⟩) (by assumption) ?_
 rotate_left
 · (intro w h;(try dsimp only at h);go_simp;try with_reducible rfl)
 try simp only [Act.put,sT,sZ,sS]
 refine wpAnyH_take (i:=2) (v:=?_) rfl (by kernel_rfl) (by kernel_rfl) (by kernel_rfl) (fun _ _ _ h=>h) (Or.inl ⟨by rfl, ?_⟩) (by assumption) ?_
 rotate_left
 · (intro w h;(try dsimp only at h);go_simp;try with_reducible rfl)
 try simp only [Act.put,sT,sZ,sS]
 refine wpAnyH_take (i:=3) (v:=?_) rfl (by kernel_rfl) (by kernel_rfl) (by kernel_rfl) (fun _ _ _ h=>h) (Or.inl ⟨by rfl, ?_⟩) (by assumption) ?_
 rotate_left
 · (intro w h;(try dsimp only at h);go_simp;try with_reducible rfl)
 try simp only [Act.put,sT,sZ,sS]
 refine wpAnyH_take (i:=5) (v:=?_) rfl (by kernel_rfl) (by kernel_rfl) (by kernel_rfl) (fun _ _ _ h=>h) (Or.inl ⟨by rfl, ?_⟩) (by assumption) ?_
 rotate_left
 · (intro w h;(try dsimp only at h);go_simp;try with_reducible rfl)
 try simp only [Act.put,sT,sZ,sS]
 refine wpAnyH_take (i:=6) (v:=?_) rfl (by kernel_rfl) (by kernel_rfl) (by kernel_rfl) (fun _ _ _ h=>h) (Or.inl ⟨by rfl, ?_⟩) (by assumption) ?_
 rotate_left
 · (intro w h;(try dsimp only at h);go_simp;try with_reducible rfl)
 try simp only [Act.put,sT,sZ,sS]
 refine wpAnyH_take (i:=7) (v:=?_) rfl (by kernel_rfl) (by kernel_rfl) (by kernel_rfl) (fun _ _ _ h=>h) (Or.inl ⟨by rfl, ?_⟩) (by assumption) ?_
 rotate_left
 · (intro w h;(try dsimp only at h);go_simp;try with_reducible rfl)
 try simp only [Act.put,sT,sZ,sS]
 refine wpAnyH_take (i:=8) (v:=?_) rfl (by kernel_rfl) (by kernel_rfl) (by kernel_rfl) (fun _ _ _ h=>h) (Or.inl ⟨by rfl, ?_⟩) (by assumption) ?_
 rotate_left
 · (intro w h;(try dsimp only at h);go_simp;try with_reducible rfl)
 try simp only [Act.put,sT,sZ,sS]
 refine wpAnyH_take (i:=9) (v:=?_) rfl (by kernel_rfl) (by kernel_rfl) (by kernel_rfl) (fun _ _ _ h=>h) (Or.inl ⟨by rfl, ?_⟩) (by assumption) ?_
 rotate_left
 · (intro w h;(try dsimp only at h);go_simp;try with_reducible rfl)
 try simp only [Act.put,sT,sZ,sS]
 refine wpAnyH_take (i:=10) (v:=?_) rfl (by kernel_rfl) (by kernel_rfl) (by kernel_rfl) (fun _ _ _ h=>h) (Or.inl ⟨by rfl, ?_⟩) (by assumption) ?_
 rotate_left
 · (intro w h;(try dsimp only at h);go_simp;try with_reducible rfl)
 try simp only [Act.put,sT,sZ,sS]
 refine wpAnyH_take (i:=11) (v:=?_) rfl (by kernel_rfl) (by kernel_rfl) (by kernel_rfl) (fun _ _ _ h=>h) (Or.inl ⟨by rfl, ?_⟩) (by assumption) ?_
 rotate_left
 · (intro w h;(try dsimp only at h);go_simp;try with_reducible rfl)
 try simp only [Act.put,sT,sZ,sS]
 refine wpAnyH_take (i:=12) (v:=?_) rfl (by kernel_rfl) (by kernel_rfl) (by kernel_rfl) (fun _ _ _ h=>h) (Or.inl ⟨by rfl, ?_⟩) (by assumption) ?_
 rotate_left
 · (intro w h;(try dsimp only at h);go_simp;try with_reducible rfl)
 try simp only [Act.put,sT,sZ,sS]
 refine wpAnyH_take (i:=13) (v:=?_) rfl (by kernel_rfl) (by kernel_rfl) (by kernel_rfl) (fun _ _ _ h=>h) (Or.inl ⟨by rfl, ?_⟩) (by assumption) ?_
 rotate_left
 · (intro w h;(try dsimp only at h);go_simp;try with_reducible rfl)
 try simp only [Act.put,sT,sZ,sS]
 refine wpAnyH_take (i:=14) (v:=?_) rfl (by kernel_rfl) (by kernel_rfl) (by kernel_rfl) (fun _ _ _ h=>h) (Or.inl ⟨by rfl, ?_⟩) (by assumption) ?_
 rotate_left
 · (intro w h;(try dsimp only at h);go_simp;try with_reducible rfl)
 try simp only [Act.put,sT,sZ,sS]
 refine wpAnyH_take (i:=15) (v:=?_) rfl (by kernel_rfl) (by kernel_rfl) (by kernel_rfl) (fun _ _ _ h=>h) (Or.inl ⟨by rfl, ?_⟩) (by assumption) ?_
 rotate_left
 · (intro w h;(try dsimp only at h);go_simp;try with_reducible rfl)
 try simp only [Act.put,sT,sZ,sS]
 refine wpAnyH_take (i:=16) (v:=?_) rfl (by kernel_rfl) (by kernel_rfl) (by kernel_rfl) (fun _ _ _ h=>h) (Or.inl ⟨by rfl, ?_⟩) (by assumption) ?_
 rotate_left
 · (intro w h;(try dsimp only at h);go_simp;try with_reducible rfl)
 try simp only [Act.put,sT,sZ,sS]
 refine wpAnyH_take (i:=17) (v:=?_) rfl (by kernel_rfl) (by kernel_rfl) (by kernel_rfl) (fun _ _ _ h=>h) (Or.inl ⟨by rfl, ?_⟩) (by assumption) ?_
 rotate_left
 · (intro w h;(try dsimp only at h);go_simp;try with_reducible rfl)
 try simp only [Act.put,sT,sZ,sS]
 refine wpAnyH_take (i:=18) (v:=?_) rfl (by kernel_rfl) (by kernel_rfl) (by kernel_rfl) (fun _ _ _ h=>h) (Or.inl ⟨by rfl, ?_⟩) (by assumption) ?_
 rotate_left
 · (intro w h;(try dsimp only at h);go_simp;try with_reducible rfl)
 try simp only [Act.put,sT,sZ,sS]
 refine wpAnyH_take (i:=19) (v:=?_) rfl (by kernel_rfl) (by kernel_rfl) (by kernel_rfl) (fun _ _ _ h=>h) (Or.inl ⟨by rfl, ?_⟩) (by assumption) ?_
 rotate_left
 · (intro w h;(try dsimp only at h);go_simp;try with_reducible rfl)
 try simp only [Act.put,sT,sZ,sS]
 refine wpAnyH_take (i:=20) (v:=?_) rfl (by kernel_rfl) (by kernel_rfl) (by kernel_rfl) (fun _ _ _ h=>h) (Or.inl ⟨by rfl, ?_⟩) (by assumption) ?_
 rotate_left
 · (intro w h;(try dsimp only at h);go_simp;try with_reducible rfl)
 try simp only [Act.put,sT,sZ,sS]
 refine wpAnyH_ready (rs:=[4,21]) (by kernel_rfl) (by simp) ?_
 refine AllReadyH.cons rfl (fun K hK=>?_) (AllReadyH.cons rfl (fun K hK=>?_) AllReadyH.nil)
 · go_simp
   refine hK.out _ _ ?_ (fun hHeld=>?_)
   · (try dsimp only);(refine ⟨by first | assumption | go_keep,by first | assumption | go_keep,by first | assumption | go_keep, ?_⟩;first | assumption | exact a4.out | exact obj_old a4.out _ | exact obj_far (by assumption) aj _)
   clear hK K
   try simp only [Act.put,sT,sZ,sS]
   refine wpAnyH_ready (rs:=[21]) (by kernel_rfl) (by simp) ?_
   refine AllReadyH.cons rfl (fun K hK=>?_) AllReadyH.nil
   go_simp
   refine hK.out _ _ ?_ (fun hHeld=>?_)
   · (try dsimp only);(refine ⟨by first | assumption | go_keep,by first | assumption | go_keep,by first | assumption | go_keep, ?_⟩;first | assumption | exact a4.out | exact obj_old a4.out _ | exact obj_far (by assumption) aj _)
   clear hK K
   try simp only [Act.put,sT,sZ,sS]
   refine wpAnyH_ready (rs:=[22]) (by kernel_rfl) (by simp) ?_
   refine AllReadyH.cons rfl (fun K hK=>?_) AllReadyH.nil
   refine step_append_rows 0 (by rfl) _ _ 32 78 (.agg #[.int .i64 0,.int .i64 0,.int .i64 0]) 3 24 (by rfl) Tryz.underlying32 info_entry rfl (by omega) (.slice E' k.entries.length c') k.entries.length (entCells k.entries) (by rfl) (az.out.below (((Keeps.drew W5).alloc _).below)) (some ⟨W5.heap.size,0,none⟩) 1 1 [.int .i64 a,.int .i64 k.rows,.int .i64 PL] (by rfl) (by rfl) (RowAt.new_at W5.drew _ _ _ _ rfl _ rfl) (by simp [Value.oneCell']) (by simp only [maxLen];omega) (by omega) (Nat.zero_le _) ?_
   intro v6 w6 ad a3 au
   obtain ⟨E6,k6,rfl,_⟩:=ad.form
   have a9:Keeps W5 (W5.drew.alloc (.cells #[.int .i64 a,.int .i64 k.rows,.int .i64 PL] 78)):=(Keeps.drew W5).alloc _
   have ca:blk (.slice E' k.entries.length c')≠some b:=az.out.ne_map a4.out
   have bF:blk (.slice E' k.entries.length c')≠some g:=az.out.ne al.out (by decide)
   have cc:blk (.slice E' k.entries.length c')≠some w.heap.size:=az.out.ne aC.out (by decide)
   have bV:w6.heap[b]? = some (.map es clock):=(a3.block b (Nat.lt_of_lt_of_le br a9.size) (fun e=>ca e.symm)).trans (obj_old a4.out _)
   have ae:=(a3.block g (Nat.lt_of_lt_of_le b6 a9.size) (fun e=>bF e.symm)).trans (obj_old (show W5.drew.heap[g]? = _ from al.out) _)
   have bx:=(a3.block _ (Nat.lt_of_lt_of_le (obj_lt aC.out) a9.size) (fun e=>cc e.symm)).trans (obj_old (show W5.drew.heap[w.heap.size]? = _ from aC.out) _)
   have z1:w6.cell? ⟨g,1,none⟩=some (.int .i64 k.rows):=by rw [obj_cell ae];rfl
   have z2:w6.cell? ⟨g,2,none⟩=some (.int .i64 k.number):=by rw [obj_cell ae];rfl
   have z4:w6.cell? ⟨g,4,none⟩=some (.map (some b)):=by rw [obj_cell ae];rfl
   have z5:w6.cell? ⟨g,5,none⟩=some (.slice E' k.entries.length c'):=by rw [obj_cell ae];rfl
   have y5:=obj_frozen ae 5
   have aR:=Hi ae
   have bd:=Hi bx
   have bn:=Hi ad
   have bl:=Hi a3
   have bj:Hid (blk (.slice E6 (k.entries.length+1) k6)=blk (.slice E' k.entries.length c')∨∃ q,blk (.slice E6 (k.entries.length+1) k6)=some q∧W5.heap.size≤q):=Hi (au.imp id fun h=>⟨_,h,a9.size⟩)
   have aK:=obj_set ae 5 (.slice E6 (k.entries.length+1) k6)
   have s1:(w6.setCell ⟨g,5,none⟩ (.slice E6 (k.entries.length+1) k6)).cell? ⟨g,1,none⟩=some (.int .i64 k.rows):=by rw [obj_cell aK];rfl
   have s2:(w6.setCell ⟨g,5,none⟩ (.slice E6 (k.entries.length+1) k6)).cell? ⟨g,2,none⟩=some (.int .i64 k.number):=by rw [obj_cell aK];rfl
   have s4:(w6.setCell ⟨g,5,none⟩ (.slice E6 (k.entries.length+1) k6)).cell? ⟨g,4,none⟩=some (.map (some b)):=by rw [obj_cell aK];rfl
   clear aK
   clear ae bx ad a3 au a9
   refine hK.out _ _ ?_ (fun hHeld=>?_)
   · (try dsimp only);(refine ⟨by first | assumption | go_keep,by first | assumption | go_keep,by first | assumption | go_keep, ?_⟩;first | assumption | exact a4.out | exact obj_old a4.out _ | exact obj_far (by assumption) aj _)
   clear hK K
   try simp only [Act.put,sT,sZ,sS]
   refine wpAnyH_take (i:=23) (v:=?_) rfl (by kernel_rfl) (by kernel_rfl) (by kernel_rfl) (fun _ _ _ h=>h) (Or.inl ⟨by rfl, ?_⟩) (by assumption) ?_
   rotate_left
   · (intro w h;(try dsimp only at h);go_simp;try with_reducible rfl)
   try simp only [Act.put,sT,sZ,sS]
   refine wpAnyH_take (i:=24) (v:=?_) rfl (by kernel_rfl) (by kernel_rfl) (by kernel_rfl) (fun _ _ _ h=>h) (Or.inl ⟨by rfl, ?_⟩) (by assumption) ?_
   rotate_left
   · (intro w h;(try dsimp only at h);go_simp;try with_reducible rfl)
   try simp only [Act.put,sT,sZ,sS]
   refine wpAnyH_ready (rs:=[25]) (by kernel_rfl) (by simp) ?_
   refine AllReadyH.cons rfl (fun K hK=>?_) AllReadyH.nil
   go_simp
   refine hK.out _ _ ?_ (fun hHeld=>?_)
   · (try dsimp only);(refine ⟨by first | assumption | go_keep,by first | assumption | go_keep,by first | assumption | go_keep, ?_⟩;first | assumption | exact a4.out | exact obj_old a4.out _ | exact obj_far (by assumption) aj _)
   clear hK K
   try simp only [Act.put,sT,sZ,sS]
   refine wpAnyH_done (by kernel_rfl) ?_ _
   obtain ⟨es7,a7⟩:∃ es7,es7=k.entries++[⟨a,k.rows,PL⟩]:=⟨_,rfl⟩
   obtain ⟨n7,aL⟩:∃ n7,n7=es7.length:=⟨_,rfl⟩
   have a6:k.entries.length+1=n7:=by rw [aL,a7];simp
   rw [← a7] at aN
   have a9:Keeps W5 (W5.drew.alloc (.cells #[.int .i64 a,.int .i64 k.rows,.int .i64 PL] 78)):=(Keeps.drew W5).alloc _
   have ba:Touch (fun j=>blk (.slice E' k.entries.length c')=some j) W5 w6:=(Touch.of_below a9.below fun j hj h=>absurd hj (by omega)).grown bl.out fun j e _=>e
   obtain ⟨W7,aE⟩:∃ W7,W7=w6.setCell ⟨g,5,none⟩ (.slice E6 n7 k6):=⟨_,rfl⟩
   have ao:Touch (At g) w6 W7:=by rw [aE];exact (Touch.refl (At g) w6).set 5 _
   have bu:W7.heap[g]? = some (.cells #[.int .i64 k.frames,.int .i64 k.rows,.int .i64 k.number,.int .i64 k.since,.map (some b),.slice E6 n7 k6,.bool false] 82 (0,0)):=by rw [aE];exact obj_set aR.out 5 (.slice E6 n7 k6)
   have bi:=ao.obj bd.out ab
   have ad:=bn.out
   rw [a6] at ad
   have ar:=bj.out
   rw [a6] at ar
   have b5:W5.heap.size≤(W5.drew.alloc (.cells #[.int .i64 a,.int .i64 k.rows,.int .i64 PL] 78)).heap.size:=a9.size
   have bw:MapS w6 (fun j=>More S w j∧j≠g∧blk (.slice E6 n7 k6)≠some j) b k.ks k.vs:=by
    have h1:=(aP.out.mono (T:=fun j=>(S j∧j≠g∧blk (.slice E' k.entries.length c')≠some j)∧j<W5.heap.size) fun j hj h=>⟨h,hj⟩).touch ba fun j hj e=>hj.1.2.2 e
    refine h1.mono fun j _ h=>⟨.inl h.1.1,h.1.2.1,fun e=>?_⟩
    rcases ar with h2 | ⟨q,h2,h4⟩
    · exact h.1.2.2 (h2.symm.trans e)
    · have:=h.2
      have h3:=h2.symm.trans e
      simp only [Option.some.injEq] at h3
      omega
   have bE:=Hi (bw.touch ao fun j hj e=>hj.2.1 e)
   have ay:entCells es7=entCells k.entries++[.int .i64 a,.int .i64 k.rows,.int .i64 PL]:=by rw [a7];simp [entCells]
   have bQ:Hid (Loose W7 0 78 3 (.slice E6 n7 k6) n7 (entCells es7)):=Hi (by
    rw [ay]
    exact ad.keep ao fun j hj e=>ad.ne aR.out (by decide) (by rw [hj];exact congrArg some e))
   have bc:Hid (∀ j,blk (.slice E6 n7 k6)=some j→More S w j):=Hi fun j hj=>by
    rcases ar with h2 | ⟨q,h2,h4⟩
    · exact .inl (bA.out j (h2.symm.trans hj))
    · have h3:=h2.symm.trans hj
      simp only [Option.some.injEq] at h3
      exact .inr (by omega)
   have aX:Hid (∀ j,blk (.slice E6 n7 k6)=some j→More (Core w g) w j):=Hi fun j hj=>by
    rcases ar with h2 | ⟨q,h2,h4⟩
    · exact .inl (ah.out j (.inr (.inr (h2.symm.trans hj))))
    · have h3:=h2.symm.trans hj
      simp only [Option.some.injEq] at h3
      exact .inr (by omega)
   have bM:Hid (Touch (Core w g) w W7):=Hi ((aS.out.then (ba.mono fun j _ e=>ah.out j (.inr (.inr e)))).then (ao.mono fun j _ e=>by rw [show j=g from e];exact aG.out))
   have aF:=Hi bu
   have bU:=Hi bi
   have bK:=Hi aL
   rw [a6]
   rw [← aE]
   clear aE ba ao bu bi ad bw ay ar b5 a9 a7 bn bl bj aR bd z1 z2 z4 z5 y5 s1 s2 s4 a6
   clear c0 c1 c2 c3 c4 c5 c6 fz
   obtain ⟨W8,ac⟩:∃ W8,W8=W7.setCell ⟨g,0,none⟩ (.int .i64 (k.frames+1)):=⟨_,rfl⟩
   have aB:W8.heap[g]? = some (.cells #[.int .i64 (k.frames+1),.int .i64 k.rows,.int .i64 k.number,.int .i64 k.since,.map (some b),.slice E6 n7 k6,.bool false] 82 (0,0)):=by rw [ac];exact obj_set aF.out 0 (.int .i64 (k.frames+1))
   have ak:Touch (At g) W7 W8:=by rw [ac];exact (Touch.refl (At g) W7).set 0 _
   have aq:=ak.obj bU.out ab
   obtain ⟨c0,c1,c2,c3,c4,c5,c6,fz⟩:=wk_cells aF.out
   have c8:=obj_lt aF.out
   have bG:IntKind.i64.wrap (k.frames+1)=k.frames+1:=IntWalk.i64_in _ (by omega)
   have ce:IntKind.i64.wrap (k.rows+f.rows)=k.rows+f.rows:=IntWalk.i64_in _ (by omega)
   have bI:IntKind.i64.wrap (k.since+1)=k.since+1:=IntWalk.i64_in _ (by omega)
   have ai:=Hi aB
   have aQ:=Hi ak
   have aY:=Hi aq
   clear aB ak aq
   go_wp2_with fail
   rw [← ac]
   clear ac c0 c1 c2 c3 c4 c5 c6 fz
   obtain ⟨c0,c1,c2,c3,c4,c5,c6,fz⟩:=wk_cells ai.out
   have b4:=obj_lt ai.out
   obtain ⟨⟨d0,d1,d2,d3,d4,d5,d6,d7,d8,d9,d10⟩,_⟩:=cells11 aY.out
   go_region
   all_goals
    go_wp2
    go_ret
    have aw:∀ x y,Touch (At g) W7 ((W8.drew.setCell ⟨g,1,none⟩ x).setCell ⟨g,3,none⟩ y):=fun x y=>((aQ.out.drew).set 1 x).set 3 y
    have aA:((W8.drew.setCell ⟨g,1,none⟩ (.int .i64 (k.rows+f.rows))).setCell ⟨g,3,none⟩ (.int .i64 (k.since+1))).heap[g]? = some (.cells #[.int .i64 (k.frames+1),.int .i64 (k.rows+f.rows),.int .i64 k.number,.int .i64 (k.since+1),.map (some b),.slice E6 n7 k6,.bool false] 82 (0,0)):=obj_set (obj_set (show W8.drew.heap[g]? = _ from ai.out) 1 _) 3 _
    refine ⟨rfl, ?_,bM.out.then ((aw _ _).mono fun j _ e=>by rw [show j=g from e];exact aG.out),fun j hj=>by
     rcases (core_iff aA j).1 hj with h | h | h
     · exact .inl (ah.out j (.inl h))
     · exact .inl (ah.out j (.inr (.inl h)))
     · exact aX.out j h⟩
    rw [aN.out]
    have aL:=bK.out
    subst aL
    exact WkV.turn (S:=More S w) (k':={ k with frames:=k.frames+1,rows:=k.rows+f.rows,since:=k.since+1,closed:=false,entries:=es7 }) aF.out aA (.inl bz) aj bE.out bQ.out bc.out (aw _ _)
 · go_simp
   refine hK.out _ _ ?_ (fun hHeld=>?_)
   · (try dsimp only);(refine ⟨by first | assumption | go_keep,by first | assumption | go_keep,by first | assumption | go_keep, ?_⟩;first | assumption | exact a4.out | exact obj_old a4.out _ | exact obj_far (by assumption) aj _)
   clear hK K
   try simp only [Act.put,sT,sZ,sS]
   refine wpAnyH_ready (rs:=[4]) (by kernel_rfl) (by simp) ?_
   refine AllReadyH.cons rfl (fun K hK=>?_) AllReadyH.nil
   go_simp
   refine hK.out _ _ ?_ (fun hHeld=>?_)
   · (try dsimp only);(refine ⟨by first | assumption | go_keep,by first | assumption | go_keep,by first | assumption | go_keep, ?_⟩;first | assumption | exact a4.out | exact obj_old a4.out _ | exact obj_far (by assumption) aj _)
   clear hK K
   try simp only [Act.put,sT,sZ,sS]
   refine wpAnyH_ready (rs:=[22]) (by kernel_rfl) (by simp) ?_
   refine AllReadyH.cons rfl (fun K hK=>?_) AllReadyH.nil
   refine step_append_rows 0 (by rfl) _ _ 32 78 (.agg #[.int .i64 0,.int .i64 0,.int .i64 0]) 3 24 (by rfl) Tryz.underlying32 info_entry rfl (by omega) (.slice E' k.entries.length c') k.entries.length (entCells k.entries) (by rfl) (az.out.below (((Keeps.drew W5).alloc _).below)) (some ⟨W5.heap.size,0,none⟩) 1 1 [.int .i64 a,.int .i64 k.rows,.int .i64 PL] (by rfl) (by rfl) (RowAt.new_at W5.drew _ _ _ _ rfl _ rfl) (by simp [Value.oneCell']) (by simp only [maxLen];omega) (by omega) (Nat.zero_le _) ?_
   intro v6 w6 ad a3 au
   obtain ⟨E6,k6,rfl,_⟩:=ad.form
   have a9:Keeps W5 (W5.drew.alloc (.cells #[.int .i64 a,.int .i64 k.rows,.int .i64 PL] 78)):=(Keeps.drew W5).alloc _
   have ca:blk (.slice E' k.entries.length c')≠some b:=az.out.ne_map a4.out
   have bF:blk (.slice E' k.entries.length c')≠some g:=az.out.ne al.out (by decide)
   have cc:blk (.slice E' k.entries.length c')≠some w.heap.size:=az.out.ne aC.out (by decide)
   have bV:w6.heap[b]? = some (.map es clock):=(a3.block b (Nat.lt_of_lt_of_le br a9.size) (fun e=>ca e.symm)).trans (obj_old a4.out _)
   have ae:=(a3.block g (Nat.lt_of_lt_of_le b6 a9.size) (fun e=>bF e.symm)).trans (obj_old (show W5.drew.heap[g]? = _ from al.out) _)
   have bx:=(a3.block _ (Nat.lt_of_lt_of_le (obj_lt aC.out) a9.size) (fun e=>cc e.symm)).trans (obj_old (show W5.drew.heap[w.heap.size]? = _ from aC.out) _)
   have z1:w6.cell? ⟨g,1,none⟩=some (.int .i64 k.rows):=by rw [obj_cell ae];rfl
   have z2:w6.cell? ⟨g,2,none⟩=some (.int .i64 k.number):=by rw [obj_cell ae];rfl
   have z4:w6.cell? ⟨g,4,none⟩=some (.map (some b)):=by rw [obj_cell ae];rfl
   have z5:w6.cell? ⟨g,5,none⟩=some (.slice E' k.entries.length c'):=by rw [obj_cell ae];rfl
   have y5:=obj_frozen ae 5
   have aR:=Hi ae
   have bd:=Hi bx
   have bn:=Hi ad
   have bl:=Hi a3
   have bj:Hid (blk (.slice E6 (k.entries.length+1) k6)=blk (.slice E' k.entries.length c')∨∃ q,blk (.slice E6 (k.entries.length+1) k6)=some q∧W5.heap.size≤q):=Hi (au.imp id fun h=>⟨_,h,a9.size⟩)
   have aK:=obj_set ae 5 (.slice E6 (k.entries.length+1) k6)
   have s1:(w6.setCell ⟨g,5,none⟩ (.slice E6 (k.entries.length+1) k6)).cell? ⟨g,1,none⟩=some (.int .i64 k.rows):=by rw [obj_cell aK];rfl
   have s2:(w6.setCell ⟨g,5,none⟩ (.slice E6 (k.entries.length+1) k6)).cell? ⟨g,2,none⟩=some (.int .i64 k.number):=by rw [obj_cell aK];rfl
   have s4:(w6.setCell ⟨g,5,none⟩ (.slice E6 (k.entries.length+1) k6)).cell? ⟨g,4,none⟩=some (.map (some b)):=by rw [obj_cell aK];rfl
   clear aK
   clear ae bx ad a3 au a9
   refine hK.out _ _ ?_ (fun hHeld=>?_)
   · (try dsimp only);(refine ⟨by first | assumption | go_keep,by first | assumption | go_keep,by first | assumption | go_keep, ?_⟩;first | assumption | exact a4.out | exact obj_old a4.out _ | exact obj_far (by assumption) aj _)
   clear hK K
   try simp only [Act.put,sT,sZ,sS]
   refine wpAnyH_take (i:=23) (v:=?_) rfl (by kernel_rfl) (by kernel_rfl) (by kernel_rfl) (fun _ _ _ h=>h) (Or.inl ⟨by rfl, ?_⟩) (by assumption) ?_
   rotate_left
   · (intro w h;(try dsimp only at h);go_simp;try with_reducible rfl)
   try simp only [Act.put,sT,sZ,sS]
   refine wpAnyH_take (i:=24) (v:=?_) rfl (by kernel_rfl) (by kernel_rfl) (by kernel_rfl) (fun _ _ _ h=>h) (Or.inl ⟨by rfl, ?_⟩) (by assumption) ?_
   rotate_left
   · (intro w h;(try dsimp only at h);go_simp;try with_reducible rfl)
   try simp only [Act.put,sT,sZ,sS]
   refine wpAnyH_ready (rs:=[25]) (by kernel_rfl) (by simp) ?_
   refine AllReadyH.cons rfl (fun K hK=>?_) AllReadyH.nil
   go_simp
   refine hK.out _ _ ?_ (fun hHeld=>?_)
   · (try dsimp only);(refine ⟨by first | assumption | go_keep,by first | assumption | go_keep,by first | assumption | go_keep, ?_⟩;first | assumption | exact a4.out | exact obj_old a4.out _ | exact obj_far (by assumption) aj _)
   clear hK K
   try simp only [Act.put,sT,sZ,sS]
   refine wpAnyH_done (by kernel_rfl) ?_ _
   obtain ⟨es7,a7⟩:∃ es7,es7=k.entries++[⟨a,k.rows,PL⟩]:=⟨_,rfl⟩
   obtain ⟨n7,aL⟩:∃ n7,n7=es7.length:=⟨_,rfl⟩
   have a6:k.entries.length+1=n7:=by rw [aL,a7];simp
   rw [← a7] at aN
   have a9:Keeps W5 (W5.drew.alloc (.cells #[.int .i64 a,.int .i64 k.rows,.int .i64 PL] 78)):=(Keeps.drew W5).alloc _
   have ba:Touch (fun j=>blk (.slice E' k.entries.length c')=some j) W5 w6:=(Touch.of_below a9.below fun j hj h=>absurd hj (by omega)).grown bl.out fun j e _=>e
   obtain ⟨W7,aE⟩:∃ W7,W7=w6.setCell ⟨g,5,none⟩ (.slice E6 n7 k6):=⟨_,rfl⟩
   have ao:Touch (At g) w6 W7:=by rw [aE];exact (Touch.refl (At g) w6).set 5 _
   have bu:W7.heap[g]? = some (.cells #[.int .i64 k.frames,.int .i64 k.rows,.int .i64 k.number,.int .i64 k.since,.map (some b),.slice E6 n7 k6,.bool false] 82 (0,0)):=by rw [aE];exact obj_set aR.out 5 (.slice E6 n7 k6)
   have bi:=ao.obj bd.out ab
   have ad:=bn.out
   rw [a6] at ad
   have ar:=bj.out
   rw [a6] at ar
   have b5:W5.heap.size≤(W5.drew.alloc (.cells #[.int .i64 a,.int .i64 k.rows,.int .i64 PL] 78)).heap.size:=a9.size
   have bw:MapS w6 (fun j=>More S w j∧j≠g∧blk (.slice E6 n7 k6)≠some j) b k.ks k.vs:=by
    have h1:=(aP.out.mono (T:=fun j=>(S j∧j≠g∧blk (.slice E' k.entries.length c')≠some j)∧j<W5.heap.size) fun j hj h=>⟨h,hj⟩).touch ba fun j hj e=>hj.1.2.2 e
    refine h1.mono fun j _ h=>⟨.inl h.1.1,h.1.2.1,fun e=>?_⟩
    rcases ar with h2 | ⟨q,h2,h4⟩
    · exact h.1.2.2 (h2.symm.trans e)
    · have:=h.2
      have h3:=h2.symm.trans e
      simp only [Option.some.injEq] at h3
      omega
   have bE:=Hi (bw.touch ao fun j hj e=>hj.2.1 e)
   have ay:entCells es7=entCells k.entries++[.int .i64 a,.int .i64 k.rows,.int .i64 PL]:=by rw [a7];simp [entCells]
   have bQ:Hid (Loose W7 0 78 3 (.slice E6 n7 k6) n7 (entCells es7)):=Hi (by
    rw [ay]
    exact ad.keep ao fun j hj e=>ad.ne aR.out (by decide) (by rw [hj];exact congrArg some e))
   have bc:Hid (∀ j,blk (.slice E6 n7 k6)=some j→More S w j):=Hi fun j hj=>by
    rcases ar with h2 | ⟨q,h2,h4⟩
    · exact .inl (bA.out j (h2.symm.trans hj))
    · have h3:=h2.symm.trans hj
      simp only [Option.some.injEq] at h3
      exact .inr (by omega)
   have aX:Hid (∀ j,blk (.slice E6 n7 k6)=some j→More (Core w g) w j):=Hi fun j hj=>by
    rcases ar with h2 | ⟨q,h2,h4⟩
    · exact .inl (ah.out j (.inr (.inr (h2.symm.trans hj))))
    · have h3:=h2.symm.trans hj
      simp only [Option.some.injEq] at h3
      exact .inr (by omega)
   have bM:Hid (Touch (Core w g) w W7):=Hi ((aS.out.then (ba.mono fun j _ e=>ah.out j (.inr (.inr e)))).then (ao.mono fun j _ e=>by rw [show j=g from e];exact aG.out))
   have aF:=Hi bu
   have bU:=Hi bi
   have bK:=Hi aL
   rw [a6]
   rw [← aE]
   clear aE ba ao bu bi ad bw ay ar b5 a9 a7 bn bl bj aR bd z1 z2 z4 z5 y5 s1 s2 s4 a6
   clear c0 c1 c2 c3 c4 c5 c6 fz
   obtain ⟨W8,ac⟩:∃ W8,W8=W7.setCell ⟨g,0,none⟩ (.int .i64 (k.frames+1)):=⟨_,rfl⟩
   have aB:W8.heap[g]? = some (.cells #[.int .i64 (k.frames+1),.int .i64 k.rows,.int .i64 k.number,.int .i64 k.since,.map (some b),.slice E6 n7 k6,.bool false] 82 (0,0)):=by rw [ac];exact obj_set aF.out 0 (.int .i64 (k.frames+1))
   have ak:Touch (At g) W7 W8:=by rw [ac];exact (Touch.refl (At g) W7).set 0 _
   have aq:=ak.obj bU.out ab
   obtain ⟨c0,c1,c2,c3,c4,c5,c6,fz⟩:=wk_cells aF.out
   have c8:=obj_lt aF.out
   have bG:IntKind.i64.wrap (k.frames+1)=k.frames+1:=IntWalk.i64_in _ (by omega)
   have ce:IntKind.i64.wrap (k.rows+f.rows)=k.rows+f.rows:=IntWalk.i64_in _ (by omega)
   have bI:IntKind.i64.wrap (k.since+1)=k.since+1:=IntWalk.i64_in _ (by omega)
   have ai:=Hi aB
   have aQ:=Hi ak
   have aY:=Hi aq
   clear aB ak aq
   go_wp2_with fail
   rw [← ac]
   clear ac c0 c1 c2 c3 c4 c5 c6 fz
   obtain ⟨c0,c1,c2,c3,c4,c5,c6,fz⟩:=wk_cells ai.out
   have b4:=obj_lt ai.out
   obtain ⟨⟨d0,d1,d2,d3,d4,d5,d6,d7,d8,d9,d10⟩,_⟩:=cells11 aY.out
   go_region
   all_goals
    go_wp2
    go_ret
    have aw:∀ x y,Touch (At g) W7 ((W8.drew.setCell ⟨g,1,none⟩ x).setCell ⟨g,3,none⟩ y):=fun x y=>((aQ.out.drew).set 1 x).set 3 y
    have aA:((W8.drew.setCell ⟨g,1,none⟩ (.int .i64 (k.rows+f.rows))).setCell ⟨g,3,none⟩ (.int .i64 (k.since+1))).heap[g]? = some (.cells #[.int .i64 (k.frames+1),.int .i64 (k.rows+f.rows),.int .i64 k.number,.int .i64 (k.since+1),.map (some b),.slice E6 n7 k6,.bool false] 82 (0,0)):=obj_set (obj_set (show W8.drew.heap[g]? = _ from ai.out) 1 _) 3 _
    refine ⟨rfl, ?_,bM.out.then ((aw _ _).mono fun j _ e=>by rw [show j=g from e];exact aG.out),fun j hj=>by
     rcases (core_iff aA j).1 hj with h | h | h
     · exact .inl (ah.out j (.inl h))
     · exact .inl (ah.out j (.inr (.inl h)))
     · exact aX.out j h⟩
    rw [aN.out]
    have aL:=bK.out
    subst aL
    exact WkV.turn (S:=More S w) (k':={ k with frames:=k.frames+1,rows:=k.rows+f.rows,since:=k.since+1,closed:=false,entries:=es7 }) aF.out aA (.inl bz) aj bE.out bQ.out bc.out (aw _ _)
end
section
open Go.RowKit Go.BigFrame
theorem next_low (g:Nat) (S:Nat→Prop) (k:Wk) (A B E:Option Addr) (c d m:Nat) (f:Fr) (a:Int) (w:World) (hk:WkV w S g k) (aa:k.ok) (hf:FrS w (fun j=>j<w.heap.size∧¬S j) A B E f) (af:f.wf) (a8:∀ w',Touch S w w'→Tabs w'∧Table w') (ax:∀ j,S j→j<w.heap.size) :
 Calls Tryz.prog 13 #[.pointer (some ⟨g,0,none⟩),.agg (frCells A c B d E m f),.int .i64 a] w fun e w'=>e=.returned (.int .i64 (k.next f a).2)∧WkV w' (More S w) g (k.next f a).1∧Went w w' g:=by
 have quietly:∀ {e:Ending} {w':World} {v:Int},(e=.returned (.int .i64 v)∧Keeps w w')→e=.returned (.int .i64 v)∧WkV w' (More S w) g k∧Went w w' g:=fun h=>
  ⟨h.1,(hk.below h.2.below).mono fun j _ h=>.inl h,Went.of_keeps hk h.2⟩
 unfold Wk.next
 cases a1:outOf 1099511627776 a with
 | true=>exact (next_out g S k A B E c d m f a w hk aa hf af a8 ax a1).mono fun e w' h=>quietly h
 | false=>
   simp only [Bool.false_eq_true,if_false]
   cases hq:encF f with
   | error er=>exact (next_unencoded g S k A B E c d m f a w hk aa hf af a8 ax a1 er hq).mono fun e w' h=>quietly h
   | ok l=>
     cases am:k.follows f a with
     | false=>
       simp only [Bool.false_eq_true,if_false]
       exact (next_astray g S k A B E c d m f a w hk aa hf af a8 ax a1 l hq am).mono fun e w' h=>quietly h
     | true=>
       simp only [if_true]
       obtain ⟨h | h | h,_⟩:=enc_kind hq
       · exact next_schema g S k A B E c d m f a w hk aa hf af a8 ax a1 l hq am h
       · by_cases hm:k.frames.tmod 4=0∧k.entries.length<64
         · exact next_entry g S k A B E c d m f a w hk aa hf af a8 ax a1 l hq am h hm.1 hm.2
         · exact next_plain g S k A B E c d m f a w hk aa hf af a8 ax a1 l hq am h hm
       · exact next_index g S k A B E c d m f a w hk aa hf af a8 ax a1 l hq am h
theorem scanNext_went (g:Nat) (S:Nat→Prop) (k:Wk) (A B E:Option Addr) (c d m:Nat) (f:Fr) (a:Int) (w:World) (hk:WkV w S g k) (aa:k.ok) (hf:FrS w (fun j=>j<w.heap.size∧¬S j) A B E f) (af:f.wf) (a8:∀ w',Touch S w w'→Tabs w'∧Table w') :
 Calls Tryz.prog 13 #[.pointer (some ⟨g,0,none⟩),.agg (frCells A c B d E m f),.int .i64 a] w fun e w'=>e=.returned (.int .i64 (k.next f a).2)∧WkV w' (More S w) g (k.next f a).1∧Went w w' g:=
 (next_low g (fun j=>S j∧j<w.heap.size) k A B E c d m f a w hk.here aa (hf.mono fun j _ h=>⟨h.1,fun h2=>h.2 h2.1⟩) af (fun w' h=>a8 w' (h.mono fun _ _ h=>h.1)) fun j h=>h.2).mono fun e w' h=>
   ⟨h.1,h.2.1.mono fun j _ h=>h.elim (fun h=>.inl h.1) .inr,h.2.2⟩
theorem scanNext_calls (g:Nat) (S:Nat→Prop) (k:Wk) (A B E:Option Addr) (c d m:Nat) (f:Fr) (a:Int) (w:World) (hk:WkV w S g k) (aa:k.ok) (hf:FrS w (fun j=>j<w.heap.size∧¬S j) A B E f) (af:f.wf) (a8:∀ w',Touch S w w'→Tabs w'∧Table w') :
 Calls Tryz.prog 13 #[.pointer (some ⟨g,0,none⟩),.agg (frCells A c B d E m f),.int .i64 a] w fun e w'=>e=.returned (.int .i64 (k.next f a).2)∧WkV w' (More S w) g (k.next f a).1∧Touch S w w':=
 (scanNext_went g S k A B E c d m f a w hk aa hf af a8).mono fun e w' h=>⟨h.1,h.2.1,h.2.2.in hk⟩
end
end Go.Proofs.YtihodcnnappkbaaGreatDoor
