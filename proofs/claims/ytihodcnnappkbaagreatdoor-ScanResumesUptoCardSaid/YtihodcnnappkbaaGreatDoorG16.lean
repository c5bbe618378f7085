/-
  The walk of Next: what is refused. Condition: the walk stands for its plain walk; the frame reads, in blocks of its own; the tables are as laid, whatever is done in the walk's blocks. The walk of Next: an index frame is taken. Condition: the walk stands for its plain walk; the frame reads, in blocks of its own; the tables are as laid, whatever is done in the walk's blocks. The walk of Next: a schema frame is taken. Condition: the walk stands for its plain walk; the frame reads, in blocks of its own; the tables are as laid, whatever is done in the walk's blocks.
-/
import Derived.Test.YtihodcnnappkbaaGreatDoorG15
import Derived.Test.YtihodcnnappkbaaGreatDoorG7
import Derived.Test.YtihodcnnappkbaaGreatDoorG14
import Derived.Deep.RegionHeld3
import Derived.BigRegion
set_option linter.unusedVariables false
set_option linter.unusedSimpArgs false
set_option maxHeartbeats 4000000
set_option maxRecDepth 20000
namespace Go.Proofs.YtihodcnnappkbaaGreatDoor
open Go.RowKit Go.BigFrame
attribute [local go_sem] run_storeF
theorem next_out (g:Nat) (S:Nat→Prop) (k:Wk) (A B E:Option Addr) (c d m:Nat) (f:Fr) (a:Int) (w:World) (hk:WkV w S g k) (ai:k.ok) (hf:FrS w (fun j=>j<w.heap.size∧¬S j) A B E f) (a6:f.wf) (a4:∀ w',Touch S w w'→Tabs w'∧Table w') (ao:∀ j,S j→j<w.heap.size) (a2:outOf 1099511627776 a=true) :
 Calls Tryz.prog 13 #[.pointer (some ⟨g,0,none⟩),.agg (frCells A c B d E m f),.int .i64 a] w fun e w'=>e=.returned (.int .i64 143)∧Keeps w w':=by
 have az:=hk.lt
 obtain ⟨W1,a3⟩:∃ W1,W1=(w.alloc (.cells (frCells A c B d E m f) 36)).alloc (.cells #[.int .i64 a] 2):=⟨_,rfl⟩
 have af:Keeps w W1:=by rw [a3];exact ((Keeps.refl w).alloc _).alloc _
 have ab:W1.heap[w.heap.size]? = some (.cells (frCells A c B d E m f) 36 (0,0)):=by rw [a3];exact obj_old (obj_new w _) _
 have a9:RowAt W1 (some ⟨w.heap.size+1,0,none⟩) (i64s [a]):=by rw [a3];exact RowAt.new_at _ _ _ _ _ rfl _ (by simp)
 have a5:Calls Tryz.prog 41 #[.slice (some ⟨w.heap.size+1,0,none⟩) 1 1] W1 fun e w'=>e=.returned (.bool (!outOf 1099511627776 a))∧Keeps W1 w':=by
  have h:=large_calls (some ⟨w.heap.size+1,0,none⟩) 1 [a] W1 (by simp) a9
  have e:[a].any (outOf 1099511627776)=outOf 1099511627776 a:=by simp [List.any]
  rw [e] at h
  exact h
 have a0:∀ w2,Keeps w w2→Touch S w w2:=fun w2 a1=>Touch.of_below a1.below fun j hj h=>absurd hj (by omega)
 have ad:∀ w2,Keeps w w2→Calls Tryz.prog 27 #[.agg (frCells A c B d E m f)] w2 (FPost w2 (encF f)):=fun w2 a1=>
  encode_calls A B E c d m f w2 ((hf.later a1.below).mono fun j _ h=>Nat.lt_of_lt_of_le h.1 a1.size) a6 (a4 w2 (a0 w2 a1)).1 (a4 w2 (a0 w2 a1)).2
 rw [a2] at a5
 have ac:=Hi a5
 clear hk ai hf a6 a4 ao a9 a5 ad a0 ab a2
 unfold frCells at *
 generalize f.cols.length=n1 at *
 generalize f.block.length=n2 at *
 generalize f.ents.length=n3 at *
 go_enter Tryz.func13,Tryz.ntmps13
 go_wp2_with fail
 rw [← a3]
 clear a3
 refine ac.out.mono ?_
 rintro e w2 ⟨rfl,a1⟩
 go_wp2
 go_ret
 exact ⟨rfl,af.trans a1⟩
theorem next_unencoded (g:Nat) (S:Nat→Prop) (k:Wk) (A B E:Option Addr) (c d m:Nat) (f:Fr) (a:Int) (w:World) (hk:WkV w S g k) (ai:k.ok) (hf:FrS w (fun j=>j<w.heap.size∧¬S j) A B E f) (a6:f.wf) (a4:∀ w',Touch S w w'→Tabs w'∧Table w') (ao:∀ j,S j→j<w.heap.size) (a2:outOf 1099511627776 a=false) (er:Int) (hq:encF f=.error er) :
 Calls Tryz.prog 13 #[.pointer (some ⟨g,0,none⟩),.agg (frCells A c B d E m f),.int .i64 a] w fun e w'=>e=.returned (.int .i64 143)∧Keeps w w':=by
 have az:=hk.lt
 obtain ⟨W1,a3⟩:∃ W1,W1=(w.alloc (.cells (frCells A c B d E m f) 36)).alloc (.cells #[.int .i64 a] 2):=⟨_,rfl⟩
 have af:Keeps w W1:=by rw [a3];exact ((Keeps.refl w).alloc _).alloc _
 have ab:W1.heap[w.heap.size]? = some (.cells (frCells A c B d E m f) 36 (0,0)):=by rw [a3];exact obj_old (obj_new w _) _
 have a9:RowAt W1 (some ⟨w.heap.size+1,0,none⟩) (i64s [a]):=by rw [a3];exact RowAt.new_at _ _ _ _ _ rfl _ (by simp)
 have a5:Calls Tryz.prog 41 #[.slice (some ⟨w.heap.size+1,0,none⟩) 1 1] W1 fun e w'=>e=.returned (.bool (!outOf 1099511627776 a))∧Keeps W1 w':=by
  have h:=large_calls (some ⟨w.heap.size+1,0,none⟩) 1 [a] W1 (by simp) a9
  have e:[a].any (outOf 1099511627776)=outOf 1099511627776 a:=by simp [List.any]
  rw [e] at h
  exact h
 have a0:∀ w2,Keeps w w2→Touch S w w2:=fun w2 a1=>Touch.of_below a1.below fun j hj h=>absurd hj (by omega)
 have ad:∀ w2,Keeps w w2→Calls Tryz.prog 27 #[.agg (frCells A c B d E m f)] w2 (FPost w2 (encF f)):=fun w2 a1=>
  encode_calls A B E c d m f w2 ((hf.later a1.below).mono fun j _ h=>Nat.lt_of_lt_of_le h.1 a1.size) a6 (a4 w2 (a0 w2 a1)).1 (a4 w2 (a0 w2 a1)).2
 rw [a2] at a5
 have bh:=encF_nz hq
 unfold frCells at *
 have ac:=Hi a5
 have al:=Hi ad
 have a7:=Hi ab
 have an:=Hi af
 clear hk ai hf a6 a4 ao a9 a5 ad a0 ab af a2
 generalize f.cols.length=n1 at *
 generalize f.block.length=n2 at *
 generalize f.ents.length=n3 at *
 go_enter Tryz.func13,Tryz.ntmps13
 go_wp2_with fail
 rw [← a3]
 clear a3
 refine ac.out.mono ?_
 rintro e w2 ⟨rfl,a1⟩
 have a8:=(a1.below.block _ (obj_lt a7.out)).trans a7.out
 obtain ⟨⟨d0,d1,d2,d3,d4,d5,d6,d7,d8,d9,d10⟩,_⟩:=cells11 a8
 have aa:=Hi (an.out.trans a1)
 have ah:=Hi a8
 clear a1 a8 ac a7 an
 go_wp2_with fail
 refine (al.out w2 aa.out).mono ?_
 intro e w3 hp
 rw [hq] at hp
 obtain ⟨rfl,ae⟩:=hp
 have q0:(er != 0)=true:=by simpa using bh
 clear bh hq al
 go_wp2
 go_ret
 exact ⟨rfl,aa.out.trans ae⟩
theorem next_astray (g:Nat) (S:Nat→Prop) (k:Wk) (A B E:Option Addr) (c d m:Nat) (f:Fr) (a:Int) (w:World) (hk:WkV w S g k) (ai:k.ok) (hf:FrS w (fun j=>j<w.heap.size∧¬S j) A B E f) (a6:f.wf) (a4:∀ w',Touch S w w'→Tabs w'∧Table w') (ao:∀ j,S j→j<w.heap.size) (a2:outOf 1099511627776 a=false) (l:List UInt8) (hq:encF f=.ok l) (au:k.follows f a=false) :
 Calls Tryz.prog 13 #[.pointer (some ⟨g,0,none⟩),.agg (frCells A c B d E m f),.int .i64 a] w fun e w'=>e=.returned (.int .i64 143)∧Keeps w w':=by
 have az:=hk.lt
 obtain ⟨W1,a3⟩:∃ W1,W1=(w.alloc (.cells (frCells A c B d E m f) 36)).alloc (.cells #[.int .i64 a] 2):=⟨_,rfl⟩
 have af:Keeps w W1:=by rw [a3];exact ((Keeps.refl w).alloc _).alloc _
 have ab:W1.heap[w.heap.size]? = some (.cells (frCells A c B d E m f) 36 (0,0)):=by rw [a3];exact obj_old (obj_new w _) _
 have a9:RowAt W1 (some ⟨w.heap.size+1,0,none⟩) (i64s [a]):=by rw [a3];exact RowAt.new_at _ _ _ _ _ rfl _ (by simp)
 have a5:Calls Tryz.prog 41 #[.slice (some ⟨w.heap.size+1,0,none⟩) 1 1] W1 fun e w'=>e=.returned (.bool (!outOf 1099511627776 a))∧Keeps W1 w':=by
  have h:=large_calls (some ⟨w.heap.size+1,0,none⟩) 1 [a] W1 (by simp) a9
  have e:[a].any (outOf 1099511627776)=outOf 1099511627776 a:=by simp [List.any]
  rw [e] at h
  exact h
 have a0:∀ w2,Keeps w w2→Touch S w w2:=fun w2 a1=>Touch.of_below a1.below fun j hj h=>absurd hj (by omega)
 have ad:∀ w2,Keeps w w2→Calls Tryz.prog 27 #[.agg (frCells A c B d E m f)] w2 (FPost w2 (encF f)):=fun w2 a1=>
  encode_calls A B E c d m f w2 ((hf.later a1.below).mono fun j _ h=>Nat.lt_of_lt_of_le h.1 a1.size) a6 (a4 w2 (a0 w2 a1)).1 (a4 w2 (a0 w2 a1)).2
 obtain ⟨aJ,h0⟩:=enc_kind hq
 have ak:∀ w2,Keeps w w2→Calls Tryz.prog 42 #[.pointer (some ⟨g,0,none⟩),.agg (frCells A c B d E m f),.int .i64 a] w2 fun e w'=>e=.returned (.bool (k.follows f a))∧Keeps w2 w':=fun w2 a1=>
  follows_calls g S _ k A B E c d m f a w2 (hk.below a1.below) ai (hf.later a1.below) aJ
 rw [au] at ak
 rw [a2] at a5
 unfold frCells at *
 have ac:=Hi a5
 have al:=Hi ad
 have a7:=Hi ab
 have an:=Hi af
 have aL:=Hi ak
 clear hk ai hf a6 a4 ao a9 a5 ad a0 ab af a2 ak au
 generalize f.cols.length=n1 at *
 generalize f.block.length=n2 at *
 generalize f.ents.length=n3 at *
 go_enter Tryz.func13,Tryz.ntmps13
 go_wp2_with fail
 rw [← a3]
 clear a3
 refine ac.out.mono ?_
 rintro e w2 ⟨rfl,a1⟩
 have a8:=(a1.below.block _ (obj_lt a7.out)).trans a7.out
 obtain ⟨⟨d0,d1,d2,d3,d4,d5,d6,d7,d8,d9,d10⟩,_⟩:=cells11 a8
 have aa:=Hi (an.out.trans a1)
 have ah:=Hi a8
 clear a1 a8 ac a7 an
 go_wp2_with fail
 refine (al.out w2 aa.out).mono ?_
 intro e w3 hp
 rw [hq] at hp
 obtain ⟨v3,rfl,aF,ae⟩:=hp
 have am:=(ae.below.block _ (obj_lt ah.out)).trans ah.out
 clear d0 d1 d2 d3 d4 d5 d6 d7 d8 d9 d10 aF
 obtain ⟨⟨d0,d1,d2,d3,d4,d5,d6,d7,d8,d9,d10⟩,_⟩:=cells11 am
 have aw:=Hi (aa.out.trans ae)
 have ar:=Hi am
 clear ae am al aa ah hq
 go_wp2_with fail
 refine (aL.out w3 aw.out).mono ?_
 rintro e w4 ⟨rfl,aq⟩
 have ap:=Hi (aw.out.trans aq)
 go_wp2
 go_ret
 exact ⟨rfl,ap.out⟩
theorem next_index (g:Nat) (S:Nat→Prop) (k:Wk) (A B E:Option Addr) (c d m:Nat) (f:Fr) (a:Int) (w:World) (hk:WkV w S g k) (ai:k.ok) (hf:FrS w (fun j=>j<w.heap.size∧¬S j) A B E f) (a6:f.wf) (a4:∀ w',Touch S w w'→Tabs w'∧Table w') (ao:∀ j,S j→j<w.heap.size) (a2:outOf 1099511627776 a=false) (l:List UInt8) (hq:encF f=.ok l) (au:k.follows f a=true) (h3:f.kind=3) :
 Calls Tryz.prog 13 #[.pointer (some ⟨g,0,none⟩),.agg (frCells A c B d E m f),.int .i64 a] w fun e w'=>e=.returned (.int .i64 0)∧WkV w' (More S w) g (k.take f a)∧Went w w' g:=by
 have az:=hk.lt
 obtain ⟨W1,a3⟩:∃ W1,W1=(w.alloc (.cells (frCells A c B d E m f) 36)).alloc (.cells #[.int .i64 a] 2):=⟨_,rfl⟩
 have af:Keeps w W1:=by rw [a3];exact ((Keeps.refl w).alloc _).alloc _
 have ab:W1.heap[w.heap.size]? = some (.cells (frCells A c B d E m f) 36 (0,0)):=by rw [a3];exact obj_old (obj_new w _) _
 have a9:RowAt W1 (some ⟨w.heap.size+1,0,none⟩) (i64s [a]):=by rw [a3];exact RowAt.new_at _ _ _ _ _ rfl _ (by simp)
 have a5:Calls Tryz.prog 41 #[.slice (some ⟨w.heap.size+1,0,none⟩) 1 1] W1 fun e w'=>e=.returned (.bool (!outOf 1099511627776 a))∧Keeps W1 w':=by
  have h:=large_calls (some ⟨w.heap.size+1,0,none⟩) 1 [a] W1 (by simp) a9
  have e:[a].any (outOf 1099511627776)=outOf 1099511627776 a:=by simp [List.any]
  rw [e] at h
  exact h
 have a0:∀ w2,Keeps w w2→Touch S w w2:=fun w2 a1=>Touch.of_below a1.below fun j hj h=>absurd hj (by omega)
 have ad:∀ w2,Keeps w w2→Calls Tryz.prog 27 #[.agg (frCells A c B d E m f)] w2 (FPost w2 (encF f)):=fun w2 a1=>
  encode_calls A B E c d m f w2 ((hf.later a1.below).mono fun j _ h=>Nat.lt_of_lt_of_le h.1 a1.size) a6 (a4 w2 (a0 w2 a1)).1 (a4 w2 (a0 w2 a1)).2
 obtain ⟨aJ,h0⟩:=enc_kind hq
 have ak:∀ w2,Keeps w w2→Calls Tryz.prog 42 #[.pointer (some ⟨g,0,none⟩),.agg (frCells A c B d E m f),.int .i64 a] w2 fun e w'=>e=.returned (.bool (k.follows f a))∧Keeps w2 w':=fun w2 a1=>
  follows_calls g S _ k A B E c d m f a w2 (hk.below a1.below) ai (hf.later a1.below) aJ
 rw [au] at ak
 rw [a2] at a5
 unfold frCells at *
 have ac:=Hi a5
 have al:=Hi ad
 have a7:=Hi ab
 have an:=Hi af
 have aL:=Hi ak
 have aE:=Hi hk
 clear hk a9 a5 ad a0 ab af a2 ak au
 have av:k.take f a = { k with closed:=true }:=by unfold Wk.take;rw [if_neg (by omega),if_neg (by omega)]
 rw [av]
 clear ai hf a6 a4 ao av
 rw [h3] at *
 generalize f.cols.length=n1 at *
 generalize f.block.length=n2 at *
 generalize f.ents.length=n3 at *
 go_enter Tryz.func13,Tryz.ntmps13
 go_wp2_with fail
 rw [← a3]
 clear a3
 refine ac.out.mono ?_
 rintro e w2 ⟨rfl,a1⟩
 have a8:=(a1.below.block _ (obj_lt a7.out)).trans a7.out
 obtain ⟨⟨d0,d1,d2,d3,d4,d5,d6,d7,d8,d9,d10⟩,_⟩:=cells11 a8
 have aa:=Hi (an.out.trans a1)
 have ah:=Hi a8
 clear a1 a8 ac a7 an
 go_wp2_with fail
 refine (al.out w2 aa.out).mono ?_
 intro e w3 hp
 rw [hq] at hp
 obtain ⟨v3,rfl,aF,ae⟩:=hp
 have am:=(ae.below.block _ (obj_lt ah.out)).trans ah.out
 clear d0 d1 d2 d3 d4 d5 d6 d7 d8 d9 d10 aF
 obtain ⟨⟨d0,d1,d2,d3,d4,d5,d6,d7,d8,d9,d10⟩,_⟩:=cells11 am
 have aw:=Hi (aa.out.trans ae)
 have ar:=Hi am
 clear ae am al aa ah hq
 go_wp2_with fail
 refine (aL.out w3 aw.out).mono ?_
 rintro e w4 ⟨rfl,aq⟩
 have ap:=Hi (aw.out.trans aq)
 obtain ⟨b,E',c',ag,aS,aH,ay,aB,aC⟩:=aE.out.below ap.out.below
 have aA:=(aq.below.block _ (obj_lt ar.out)).trans ar.out
 have bz:=ay.lt
 have aZ:=obj_lt ag
 have aN:Hid (∀ j,(j=g∨j=b∨blk (.slice E' k.entries.length c')=some j)→Core w g j):=Hi fun j=>(core_iff ((ap.out.below.block g az).symm.trans ag) j).2
 have bi:Hid (∀ i,i<w.heap.size→Core w g i→S i):=Hi fun i _ h=>aE.out.core h
 have b4:Hid (Core w g g):=Hi (.inl rfl)
 clear d0 d1 d2 d3 d4 d5 d6 d7 d8 d9 d10
 obtain ⟨⟨d0,d1,d2,d3,d4,d5,d6,d7,d8,d9,d10⟩,_⟩:=cells11 aA
 obtain ⟨c0,c1,c2,c3,c4,c5,c6,fz⟩:=wk_cells ag
 have bC:¬g=w.heap.size:=by omega
 have aG:¬w.heap.size=g:=by omega
 have b6:=Hi ag
 have bt:=Hi ay
 have bH:=Hi aB
 have aT:=Hi aC
 have bx:Hid (Touch (Core w g) w w4):=Hi (Touch.of_below ap.out.below fun j hj h=>absurd hj (by omega))
 clear ag ay aB aC aq aA ar
 go_wp2
 go_ret
 have ht:∀ u,Touch (At g) w4 (w4.setCell ⟨g,6,none⟩ u):=fun u=>(Touch.refl (At g) w4).set 6 u
 have bJ:(w4.setCell ⟨g,6,none⟩ (.bool true)).heap[g]? = some (.cells #[.int .i64 k.frames,.int .i64 k.rows,.int .i64 k.number,.int .i64 k.since,.map (some b),.slice E' k.entries.length c',.bool true] 82 (0,0)):=obj_set b6.out 6 (.bool true)
 refine ⟨rfl, ?_,bx.out.then ((ht _).mono fun j _ e=>by rw [show j=g from e];exact b4.out),fun j hj=>.inl (aN.out j ((core_iff bJ j).1 hj))⟩
 have h:=WkV.turn (S:=S) (k':={ k with closed:=true }) b6.out (obj_set b6.out 6 (.bool true)) aS aH bt.out bH.out aT.out (ht _)
 exact h.mono fun j _ h=>.inl h
theorem next_schema (g:Nat) (S:Nat→Prop) (k:Wk) (A B E:Option Addr) (c d m:Nat) (f:Fr) (a:Int) (w:World) (hk:WkV w S g k) (ai:k.ok) (hf:FrS w (fun j=>j<w.heap.size∧¬S j) A B E f) (a6:f.wf) (a4:∀ w',Touch S w w'→Tabs w'∧Table w') (ao:∀ j,S j→j<w.heap.size) (a2:outOf 1099511627776 a=false) (l:List UInt8) (hq:encF f=.ok l) (au:k.follows f a=true) (h1:f.kind=1) :
 Calls Tryz.prog 13 #[.pointer (some ⟨g,0,none⟩),.agg (frCells A c B d E m f),.int .i64 a] w fun e w'=>e=.returned (.int .i64 0)∧WkV w' (More S w) g (k.take f a)∧Went w w' g:=by
 have az:=hk.lt
 obtain ⟨W1,a3⟩:∃ W1,W1=(w.alloc (.cells (frCells A c B d E m f) 36)).alloc (.cells #[.int .i64 a] 2):=⟨_,rfl⟩
 have af:Keeps w W1:=by rw [a3];exact ((Keeps.refl w).alloc _).alloc _
 have ab:W1.heap[w.heap.size]? = some (.cells (frCells A c B d E m f) 36 (0,0)):=by rw [a3];exact obj_old (obj_new w _) _
 have a9:RowAt W1 (some ⟨w.heap.size+1,0,none⟩) (i64s [a]):=by rw [a3];exact RowAt.new_at _ _ _ _ _ rfl _ (by simp)
 have a5:Calls Tryz.prog 41 #[.slice (some ⟨w.heap.size+1,0,none⟩) 1 1] W1 fun e w'=>e=.returned (.bool (!outOf 1099511627776 a))∧Keeps W1 w':=by
  have h:=large_calls (some ⟨w.heap.size+1,0,none⟩) 1 [a] W1 (by simp) a9
  have e:[a].any (outOf 1099511627776)=outOf 1099511627776 a:=by simp [List.any]
  rw [e] at h
  exact h
 have a0:∀ w2,Keeps w w2→Touch S w w2:=fun w2 a1=>Touch.of_below a1.below fun j hj h=>absurd hj (by omega)
 have ad:∀ w2,Keeps w w2→Calls Tryz.prog 27 #[.agg (frCells A c B d E m f)] w2 (FPost w2 (encF f)):=fun w2 a1=>
  encode_calls A B E c d m f w2 ((hf.later a1.below).mono fun j _ h=>Nat.lt_of_lt_of_le h.1 a1.size) a6 (a4 w2 (a0 w2 a1)).1 (a4 w2 (a0 w2 a1)).2
 obtain ⟨aJ,h0⟩:=enc_kind hq
 have ak:∀ w2,Keeps w w2→Calls Tryz.prog 42 #[.pointer (some ⟨g,0,none⟩),.agg (frCells A c B d E m f),.int .i64 a] w2 fun e w'=>e=.returned (.bool (k.follows f a))∧Keeps w2 w':=fun w2 a1=>
  follows_calls g S _ k A B E c d m f a w2 (hk.below a1.below) ai (hf.later a1.below) aJ
 rw [au] at ak
 rw [a2] at a5
 unfold frCells at *
 have ac:=Hi a5
 have al:=Hi ad
 have a7:=Hi ab
 have an:=Hi af
 have aL:=Hi ak
 have aE:=Hi hk
 clear hk a9 a5 ad a0 ab af a2 ak au
 have bk:=hf.sch
 have bd:=a6.dflt
 have bc:=a6.name
 have bs:=Hi a4
 have bv:=Hi ao
 have bF:=Hi bk
 have bw:=Hi bd
 have bE:=Hi bc
 obtain ⟨KT,aI⟩:∃ KT,KT=k.take f a:=⟨_,rfl⟩
 rw [← aI]
 unfold Wk.take at aI
 rw [if_pos h1] at aI
 have b8:=Hi aI
 clear ai hf a6 a4 ao aI bk bd bc h0
 rw [h1] at *
 generalize bA:f.cols.length=n1 at *
 generalize f.block.length=n2 at *
 generalize f.ents.length=n3 at *
 go_enter Tryz.func13,Tryz.ntmps13
 go_wp2_with fail
 rw [← a3]
 clear a3
 refine ac.out.mono ?_
 rintro e w2 ⟨rfl,a1⟩
 have a8:=(a1.below.block _ (obj_lt a7.out)).trans a7.out
 obtain ⟨⟨d0,d1,d2,d3,d4,d5,d6,d7,d8,d9,d10⟩,_⟩:=cells11 a8
 have aa:=Hi (an.out.trans a1)
 have ah:=Hi a8
 clear a1 a8 ac a7 an
 go_wp2_with fail
 refine (al.out w2 aa.out).mono ?_
 intro e w3 hp
 rw [hq] at hp
 obtain ⟨v3,rfl,aF,ae⟩:=hp
 have am:=(ae.below.block _ (obj_lt ah.out)).trans ah.out
 clear d0 d1 d2 d3 d4 d5 d6 d7 d8 d9 d10 aF
 obtain ⟨⟨d0,d1,d2,d3,d4,d5,d6,d7,d8,d9,d10⟩,_⟩:=cells11 am
 have aw:=Hi (aa.out.trans ae)
 have ar:=Hi am
 clear ae am al aa ah hq
 go_wp2_with fail
 refine (aL.out w3 aw.out).mono ?_
 rintro e w4 ⟨rfl,aq⟩
 have ap:=Hi (aw.out.trans aq)
 obtain ⟨b,E',c',ag,aS,aH,ay,aB,aC⟩:=aE.out.below ap.out.below
 have aA:=(aq.below.block _ (obj_lt ar.out)).trans ar.out
 have bz:=ay.lt
 have aZ:=obj_lt ag
 have aN:Hid (∀ j,(j=g∨j=b∨blk (.slice E' k.entries.length c')=some j)→Core w g j):=Hi fun j=>(core_iff ((ap.out.below.block g az).symm.trans ag) j).2
 have bi:Hid (∀ i,i<w.heap.size→Core w g i→S i):=Hi fun i _ h=>aE.out.core h
 have b4:Hid (Core w g g):=Hi (.inl rfl)
 clear d0 d1 d2 d3 d4 d5 d6 d7 d8 d9 d10
 obtain ⟨⟨d0,d1,d2,d3,d4,d5,d6,d7,d8,d9,d10⟩,_⟩:=cells11 aA
 obtain ⟨c0,c1,c2,c3,c4,c5,c6,fz⟩:=wk_cells ag
 have bC:¬g=w.heap.size:=by omega
 have aG:¬w.heap.size=g:=by omega
 obtain ⟨W5,aQ⟩:∃ W5,W5=((w4.setCell ⟨g,6,none⟩ (.bool false)).setCell ⟨g,2,none⟩ (.int .i64 f.number)).setCell ⟨g,3,none⟩ (.int .i64 0):=⟨_,rfl⟩
 have aD:Touch (At g) w4 W5:=by rw [aQ];exact (((Touch.refl (At g) w4).set 6 _).set 2 _).set 3 _
 have aY:W5.heap[g]? = some (.cells #[.int .i64 k.frames,.int .i64 k.rows,.int .i64 f.number,.int .i64 0,.map (some b),.slice E' k.entries.length c',.bool false] 82 (0,0)):=by rw [aQ];exact obj_set (obj_set (obj_set ag 6 (.bool false)) 2 (.int .i64 f.number)) 3 (.int .i64 0)
 have b9:=aD.obj aA aG
 have aO:MapS W5 (fun j=>S j∧j≠g∧blk (.slice E' k.entries.length c')≠some j) b k.ks k.vs:=ay.touch aD fun j hj e=>hj.2.1 e
 have bo:=aB.keep aD fun j hj e=>aB.ne ag (by decide) (by rw [hj];exact congrArg some e)
 have aV:Hid (Touch (Core w g) w W5):=Hi ((Touch.of_below ap.out.below fun j hj h=>absurd hj (by omega):Touch (Core w g) w w4).then (aD.mono fun j _ e=>by rw [show j=g from e];exact b4.out))
 have aK:Hid (Touch S w W5):=Hi (aV.out.mono bi.out)
 have aP:=copied_calls A c f.cols W5.drew (((bF.out.touch (F:=S) aK.out fun j hj=>hj.2).later (Keeps.drew W5).below).mono fun j hj _=>hj) bw.out bE.out fun w' bD=>(bs.out w' (aK.out.drew.then (Touch.of_below bD.below fun j hj h=>absurd hj (by simpa using h)))).1
 rw [bA] at aP
 obtain ⟨CC,b3⟩:∃ CC,CC=copyC f.cols:=⟨_,rfl⟩
 rw [← b3] at aP
 have b0:=Hi (show KT=_ from b3▸b8.out)
 have b2:=Hi aY
 have aW:=Hi b9
 have bf:=Hi aO
 have bm:=Hi bo
 have aT:=Hi aC
 have bI:=Hi aP
 have bp:=aV.out.size
 have bG:=obj_lt aY
 have bB:=aO.lt
 have bK:b<w.heap.size:=bv.out b aO.self.1
 clear ag ay aB aC aq aA ar aD aY b9 aO bo aP b8 b3
 go_wp2_with fail
 rw [← aQ]
 clear aQ c0 c1 c2 c3 c4 c5 c6 fz d0 d1 d2 d3 d4 d5 d6 d7 d8 d9 d10
 obtain ⟨c0,c1,c2,c3,c4,c5,c6,fz⟩:=wk_cells b2.out
 obtain ⟨⟨d0,d1,d2,d3,d4,d5,d6,d7,d8,d9,d10⟩,_⟩:=cells11 aW.out
 go_region_held3 (fun w'=>w'.cell? ⟨g,4,none⟩=some (.map (some b))∧w'.cell? ⟨w.heap.size,1,none⟩=some (.int .i64 f.number)∧w'.cell? ⟨w.heap.size,2,none⟩=some (.slice A n1 c)) (go_keep) (first
  | (go_simp;go_at_call 43;refine bI.out.mono ?_
     rintro e w6 ⟨A6,c6',rfl,bg,be⟩
     have aj:Keeps W5 w6:=(Keeps.drew W5).trans be
     have aX:=(aj.below.block _ (obj_lt b2.out)).trans b2.out
     have aR:=(aj.below.block _ (obj_lt aW.out)).trans aW.out
     have e4:w6.cell? ⟨g,4,none⟩=some (.map (some b)):=by rw [obj_cell aX];rfl
     have e1:w6.cell? ⟨w.heap.size,1,none⟩=some (.int .i64 f.number):=by rw [obj_cell aR];rfl
     have e2:w6.cell? ⟨w.heap.size,2,none⟩=some (.slice A n1 c):=by rw [obj_cell aR];rfl
     have bl:MapS w6 (fun j=>More S w j∧j≠g∧blk (.slice E' k.entries.length c')≠some j) b k.ks k.vs:=(bf.out.touch (F:=fun j=>W5.heap.size≤j∧False) (Touch.of_below aj.below fun j hj h=>absurd hj (by omega)) fun j _ h=>h.2).mono fun j _ h=>⟨.inl h.1,h.2⟩
     obtain ⟨w7,bu,aM,br,ax⟩:=bl.put f.number (.agg #[.slice A6 CC.length c6',.int .i64 a]) (CC,a) ⟨A6,c6',rfl,bg.mono fun j _ h=>by
      have h':W5.heap.size≤j:=h
      exact ⟨⟨.inr (by omega),by omega,fun e=>by have:=(bm.out.lt j e).2;omega⟩,by omega⟩⟩
     have b5:=aM.obj aX (fun e=>aH e.symm)
     have aU:=aM.obj aR (fun e=>by rw [At] at e;omega)
     have z4:w7.cell? ⟨g,4,none⟩=some (.map (some b)):=by rw [obj_cell b5];rfl
     have z1:w7.cell? ⟨w.heap.size,1,none⟩=some (.int .i64 f.number):=by rw [obj_cell aU];rfl
     have z2:w7.cell? ⟨w.heap.size,2,none⟩=some (.slice A n1 c):=by rw [obj_cell aU];rfl
     have b7:=Hi aj
     have b1:=Hi b5
     have ba:=Hi aM
     have bq:=Hi ax
     clear be aj aX aR bg bl b5 aU aM ax))
 all_goals
  go_wp2
  go_ret
  have hT:Touch (Core w g) w w7:=(aV.out.then (Touch.of_below b7.out.below fun j hj h=>absurd hj (by omega))).trans ba.out fun j hj e=>aN.out j (.inr (.inl e))
  refine ⟨rfl, ?_,hT,fun j hj=>.inl (aN.out j ((core_iff b1.out j).1 hj))⟩
  have bb:=bm.out.below b7.out.below
  obtain ⟨es,clock,bj,_⟩:=bf.out.ex
  have bn:=bb.keep ba.out fun j hj e=>bb.ne_map ((b7.out.below.block _ (obj_lt bj)).trans bj) (by rw [hj];exact congrArg some e)
  rw [b0.out]
  unfold Wk.put
  have ax:=bq.out
  simp only
  cases hp:keyPos f.number k.ks 0 with
  | some j=>
    rw [hp] at ax
    exact ⟨b,E',c',b1.out,.inl aS,aH,ax,bn,fun j hj=>.inl (aT.out j hj)⟩
  | none=>
    rw [hp] at ax
    exact ⟨b,E',c',b1.out,.inl aS,aH,ax,bn,fun j hj=>.inl (aT.out j hj)⟩
end Go.Proofs.YtihodcnnappkbaaGreatDoor
