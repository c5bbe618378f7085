/-
  The walk of Next: what is refused. Condition: the walk stands for its plain walk; the frame reads, in blocks of its own; the tables are as laid, whatever is done in the walk's blocks. The walk of Next: an index frame is taken. Condition: the walk stands for its plain walk; the frame reads, in blocks of its own; the tables are as laid, whatever is done in the walk's blocks. The walk of Next: a schema frame is taken. Condition: the walk stands for its plain walk; the frame reads, in blocks of its own; the tables are as laid, whatever is done in the walk's blocks.
-/
import Derived.Test.YtihodcnnappkbaaGreatDoorG15
import Derived.Test.YtihodcnnappkbaaGreatDoorG7
import Derived.Test.YtihodcnnappkbaaGreatDoorG14
import Derived.Deep.RegionHeld3
import Derived.BigRegion
namespace Go.Proofs.YtihodcnnappkbaaGreatDoor
open Go.RowKit Go.BigFrame
set_option linter.unusedVariables false
set_option linter.unusedSimpArgs false
attribute [local go_sem] run_storeF
set_option maxRecDepth 20000 in
set_option maxHeartbeats 4000000 in
theorem next_out (g:Nat) (S:Nat→Prop) (k:Wk) (A B E:Option Addr) (c d m:Nat) (f:Fr) (a:Int) (w:World) (hk:WkV w S g k) (ai:k.ok) (hf:FrS w (fun j=>j<w.heap.size∧¬S j) A B E f) (a6:f.wf) (a4:∀ w',Touch S w w'→Tabs w'∧Table w') (ao:∀ j,S j→j<w.heap.size) (a2:outOf 1099511627776 a=true) :
 Calls Tryz.prog 13 #[.pointer (some ⟨g,0,none⟩),.agg (frCells A c B d E m f),.int .i64 a] w fun e w'=>e=.returned (.int .i64 143)∧Keeps w w':=by
 have aA:=hk.lt
 obtain ⟨W1,a3⟩:∃ W1,W1=(w.alloc (.cells (frCells A c B d E m f) 36)).alloc (.cells #[.int .i64 a] 2):=⟨_,rfl⟩
 have ac:Keeps w W1:=by rw [a3];exact ((Keeps.refl w).alloc _).alloc _
 have ad:W1.heap[w.heap.size]? = some (.cells (frCells A c B d E m f) 36 (0,0)):=by rw [a3];exact obj_old (obj_new w _) _
 have aa:RowAt W1 (some ⟨w.heap.size+1,0,none⟩) (i64s [a]):=by rw [a3];exact RowAt.new_at _ _ _ _ _ rfl _ (by simp)
 have a5:Calls Tryz.prog 41 #[.slice (some ⟨w.heap.size+1,0,none⟩) 1 1] W1 fun e w'=>e=.returned (.bool (!outOf 1099511627776 a))∧Keeps W1 w':=by
  have h:=large_calls (some ⟨w.heap.size+1,0,none⟩) 1 [a] W1 (by simp) aa
  have e:[a].any (outOf 1099511627776)=outOf 1099511627776 a:=by simp [List.any]
  rw [e] at h
  exact h
 have a0:∀ w2,Keeps w w2→Touch S w w2:=fun w2 a1=>Touch.of_below a1.below fun j hj h=>absurd hj (by omega)
 have ab:∀ w2,Keeps w w2→Calls Tryz.prog 27 #[.agg (frCells A c B d E m f)] w2 (FPost w2 (encF f)):=fun w2 a1=>
  encode_calls A B E c d m f w2 ((hf.later a1.below).mono fun j _ h=>Nat.lt_of_lt_of_le h.1 a1.size) a6 (a4 w2 (a0 w2 a1)).1 (a4 w2 (a0 w2 a1)).2
 rw [a2] at a5
 have af:=Hi a5
 clear hk ai hf a6 a4 ao aa a5 ab a0 ad a2
 unfold frCells at *
 generalize f.cols.length=n1 at *
 generalize f.block.length=n2 at *
 generalize f.ents.length=n3 at *
 go_enter Tryz.func13,Tryz.ntmps13
 go_wp2_with fail
 rw [← a3]
 clear a3
 refine af.out.mono ?_
 rintro e w2 ⟨rfl,a1⟩
 go_wp2
 go_ret
 exact ⟨rfl,ac.trans a1⟩
set_option maxRecDepth 20000 in
set_option maxHeartbeats 4000000 in
theorem next_unencoded (g:Nat) (S:Nat→Prop) (k:Wk) (A B E:Option Addr) (c d m:Nat) (f:Fr) (a:Int) (w:World) (hk:WkV w S g k) (ai:k.ok) (hf:FrS w (fun j=>j<w.heap.size∧¬S j) A B E f) (a6:f.wf) (a4:∀ w',Touch S w w'→Tabs w'∧Table w') (ao:∀ j,S j→j<w.heap.size) (a2:outOf 1099511627776 a=false) (er:Int) (hq:encF f=.error er) :
 Calls Tryz.prog 13 #[.pointer (some ⟨g,0,none⟩),.agg (frCells A c B d E m f),.int .i64 a] w fun e w'=>e=.returned (.int .i64 143)∧Keeps w w':=by
 have aA:=hk.lt
 obtain ⟨W1,a3⟩:∃ W1,W1=(w.alloc (.cells (frCells A c B d E m f) 36)).alloc (.cells #[.int .i64 a] 2):=⟨_,rfl⟩
 have ac:Keeps w W1:=by rw [a3];exact ((Keeps.refl w).alloc _).alloc _
 have ad:W1.heap[w.heap.size]? = some (.cells (frCells A c B d E m f) 36 (0,0)):=by rw [a3];exact obj_old (obj_new w _) _
 have aa:RowAt W1 (some ⟨w.heap.size+1,0,none⟩) (i64s [a]):=by rw [a3];exact RowAt.new_at _ _ _ _ _ rfl _ (by simp)
 have a5:Calls Tryz.prog 41 #[.slice (some ⟨w.heap.size+1,0,none⟩) 1 1] W1 fun e w'=>e=.returned (.bool (!outOf 1099511627776 a))∧Keeps W1 w':=by
  have h:=large_calls (some ⟨w.heap.size+1,0,none⟩) 1 [a] W1 (by simp) aa
  have e:[a].any (outOf 1099511627776)=outOf 1099511627776 a:=by simp [List.any]
  rw [e] at h
  exact h
 have a0:∀ w2,Keeps w w2→Touch S w w2:=fun w2 a1=>Touch.of_below a1.below fun j hj h=>absurd hj (by omega)
 have ab:∀ w2,Keeps w w2→Calls Tryz.prog 27 #[.agg (frCells A c B d E m f)] w2 (FPost w2 (encF f)):=fun w2 a1=>
  encode_calls A B E c d m f w2 ((hf.later a1.below).mono fun j _ h=>Nat.lt_of_lt_of_le h.1 a1.size) a6 (a4 w2 (a0 w2 a1)).1 (a4 w2 (a0 w2 a1)).2
 rw [a2] at a5
 have bk:=encF_nz hq
 unfold frCells at *
 have af:=Hi a5
 have an:=Hi ab
 have a8:=Hi ad
 have am:=Hi ac
 clear hk ai hf a6 a4 ao aa a5 ab a0 ad ac a2
 generalize f.cols.length=n1 at *
 generalize f.block.length=n2 at *
 generalize f.ents.length=n3 at *
 go_enter Tryz.func13,Tryz.ntmps13
 go_wp2_with fail
 rw [← a3]
 clear a3
 refine af.out.mono ?_
 rintro e w2 ⟨rfl,a1⟩
 have a7:=(a1.below.block _ (obj_lt a8.out)).trans a8.out
 obtain ⟨⟨d0,d1,d2,d3,d4,d5,d6,d7,d8,d9,d10⟩,_⟩:=cells11 a7
 have a9:=Hi (am.out.trans a1)
 have ag:=Hi a7
 clear a1 a7 af a8 am
 go_wp2_with fail
 refine (an.out w2 a9.out).mono ?_
 intro e w3 hp
 rw [hq] at hp
 obtain ⟨rfl,ae⟩:=hp
 have q0:(er != 0)=true:=by simpa using bk
 clear bk hq an
 go_wp2
 go_ret
 exact ⟨rfl,a9.out.trans ae⟩
set_option maxRecDepth 20000 in
set_option maxHeartbeats 4000000 in
theorem next_astray (g:Nat) (S:Nat→Prop) (k:Wk) (A B E:Option Addr) (c d m:Nat) (f:Fr) (a:Int) (w:World) (hk:WkV w S g k) (ai:k.ok) (hf:FrS w (fun j=>j<w.heap.size∧¬S j) A B E f) (a6:f.wf) (a4:∀ w',Touch S w w'→Tabs w'∧Table w') (ao:∀ j,S j→j<w.heap.size) (a2:outOf 1099511627776 a=false) (l:List UInt8) (hq:encF f=.ok l) (ar:k.follows f a=false) :
 Calls Tryz.prog 13 #[.pointer (some ⟨g,0,none⟩),.agg (frCells A c B d E m f),.int .i64 a] w fun e w'=>e=.returned (.int .i64 143)∧Keeps w w':=by
 have aA:=hk.lt
 obtain ⟨W1,a3⟩:∃ W1,W1=(w.alloc (.cells (frCells A c B d E m f) 36)).alloc (.cells #[.int .i64 a] 2):=⟨_,rfl⟩
 have ac:Keeps w W1:=by rw [a3];exact ((Keeps.refl w).alloc _).alloc _
 have ad:W1.heap[w.heap.size]? = some (.cells (frCells A c B d E m f) 36 (0,0)):=by rw [a3];exact obj_old (obj_new w _) _
 have aa:RowAt W1 (some ⟨w.heap.size+1,0,none⟩) (i64s [a]):=by rw [a3];exact RowAt.new_at _ _ _ _ _ rfl _ (by simp)
 have a5:Calls Tryz.prog 41 #[.slice (some ⟨w.heap.size+1,0,none⟩) 1 1] W1 fun e w'=>e=.returned (.bool (!outOf 1099511627776 a))∧Keeps W1 w':=by
  have h:=large_calls (some ⟨w.heap.size+1,0,none⟩) 1 [a] W1 (by simp) aa
  have e:[a].any (outOf 1099511627776)=outOf 1099511627776 a:=by simp [List.any]
  rw [e] at h
  exact h
 have a0:∀ w2,Keeps w w2→Touch S w w2:=fun w2 a1=>Touch.of_below a1.below fun j hj h=>absurd hj (by omega)
 have ab:∀ w2,Keeps w w2→Calls Tryz.prog 27 #[.agg (frCells A c B d E m f)] w2 (FPost w2 (encF f)):=fun w2 a1=>
  encode_calls A B E c d m f w2 ((hf.later a1.below).mono fun j _ h=>Nat.lt_of_lt_of_le h.1 a1.size) a6 (a4 w2 (a0 w2 a1)).1 (a4 w2 (a0 w2 a1)).2
 obtain ⟨aE,h0⟩:=enc_kind hq
 have al:∀ w2,Keeps w w2→Calls Tryz.prog 42 #[.pointer (some ⟨g,0,none⟩),.agg (frCells A c B d E m f),.int .i64 a] w2 fun e w'=>e=.returned (.bool (k.follows f a))∧Keeps w2 w':=fun w2 a1=>
  follows_calls g S _ k A B E c d m f a w2 (hk.below a1.below) ai (hf.later a1.below) aE
 rw [ar] at al
 rw [a2] at a5
 unfold frCells at *
 have af:=Hi a5
 have an:=Hi ab
 have a8:=Hi ad
 have am:=Hi ac
 have aG:=Hi al
 clear hk ai hf a6 a4 ao aa a5 ab a0 ad ac a2 al ar
 generalize f.cols.length=n1 at *
 generalize f.block.length=n2 at *
 generalize f.ents.length=n3 at *
 go_enter Tryz.func13,Tryz.ntmps13
 go_wp2_with fail
 rw [← a3]
 clear a3
 refine af.out.mono ?_
 rintro e w2 ⟨rfl,a1⟩
 have a7:=(a1.below.block _ (obj_lt a8.out)).trans a8.out
 obtain ⟨⟨d0,d1,d2,d3,d4,d5,d6,d7,d8,d9,d10⟩,_⟩:=cells11 a7
 have a9:=Hi (am.out.trans a1)
 have ag:=Hi a7
 clear a1 a7 af a8 am
 go_wp2_with fail
 refine (an.out w2 a9.out).mono ?_
 intro e w3 hp
 rw [hq] at hp
 obtain ⟨v3,rfl,aL,ae⟩:=hp
 have aj:=(ae.below.block _ (obj_lt ag.out)).trans ag.out
 clear d0 d1 d2 d3 d4 d5 d6 d7 d8 d9 d10 aL
 obtain ⟨⟨d0,d1,d2,d3,d4,d5,d6,d7,d8,d9,d10⟩,_⟩:=cells11 aj
 have aw:=Hi (a9.out.trans ae)
 have av:=Hi aj
 clear ae aj an a9 ag hq
 go_wp2_with fail
 refine (aG.out w3 aw.out).mono ?_
 rintro e w4 ⟨rfl,ap⟩
 have aq:=Hi (aw.out.trans ap)
 go_wp2
 go_ret
 exact ⟨rfl,aq.out⟩
set_option maxRecDepth 20000 in
set_option maxHeartbeats 4000000 in
theorem next_index (g:Nat) (S:Nat→Prop) (k:Wk) (A B E:Option Addr) (c d m:Nat) (f:Fr) (a:Int) (w:World) (hk:WkV w S g k) (ai:k.ok) (hf:FrS w (fun j=>j<w.heap.size∧¬S j) A B E f) (a6:f.wf) (a4:∀ w',Touch S w w'→Tabs w'∧Table w') (ao:∀ j,S j→j<w.heap.size) (a2:outOf 1099511627776 a=false) (l:List UInt8) (hq:encF f=.ok l) (ar:k.follows f a=true) (h3:f.kind=3) :
 Calls Tryz.prog 13 #[.pointer (some ⟨g,0,none⟩),.agg (frCells A c B d E m f),.int .i64 a] w fun e w'=>e=.returned (.int .i64 0)∧WkV w' (More S w) g (k.take f a)∧Went w w' g:=by
 have aA:=hk.lt
 obtain ⟨W1,a3⟩:∃ W1,W1=(w.alloc (.cells (frCells A c B d E m f) 36)).alloc (.cells #[.int .i64 a] 2):=⟨_,rfl⟩
 have ac:Keeps w W1:=by rw [a3];exact ((Keeps.refl w).alloc _).alloc _
 have ad:W1.heap[w.heap.size]? = some (.cells (frCells A c B d E m f) 36 (0,0)):=by rw [a3];exact obj_old (obj_new w _) _
 have aa:RowAt W1 (some ⟨w.heap.size+1,0,none⟩) (i64s [a]):=by rw [a3];exact RowAt.new_at _ _ _ _ _ rfl _ (by simp)
 have a5:Calls Tryz.prog 41 #[.slice (some ⟨w.heap.size+1,0,none⟩) 1 1] W1 fun e w'=>e=.returned (.bool (!outOf 1099511627776 a))∧Keeps W1 w':=by
  have h:=large_calls (some ⟨w.heap.size+1,0,none⟩) 1 [a] W1 (by simp) aa
  have e:[a].any (outOf 1099511627776)=outOf 1099511627776 a:=by simp [List.any]
  rw [e] at h
  exact h
 have a0:∀ w2,Keeps w w2→Touch S w w2:=fun w2 a1=>Touch.of_below a1.below fun j hj h=>absurd hj (by omega)
 have ab:∀ w2,Keeps w w2→Calls Tryz.prog 27 #[.agg (frCells A c B d E m f)] w2 (FPost w2 (encF f)):=fun w2 a1=>
  encode_calls A B E c d m f w2 ((hf.later a1.below).mono fun j _ h=>Nat.lt_of_lt_of_le h.1 a1.size) a6 (a4 w2 (a0 w2 a1)).1 (a4 w2 (a0 w2 a1)).2
 obtain ⟨aE,h0⟩:=enc_kind hq
 have al:∀ w2,Keeps w w2→Calls Tryz.prog 42 #[.pointer (some ⟨g,0,none⟩),.agg (frCells A c B d E m f),.int .i64 a] w2 fun e w'=>e=.returned (.bool (k.follows f a))∧Keeps w2 w':=fun w2 a1=>
  follows_calls g S _ k A B E c d m f a w2 (hk.below a1.below) ai (hf.later a1.below) aE
 rw [ar] at al
 rw [a2] at a5
 unfold frCells at *
 have af:=Hi a5
 have an:=Hi ab
 have a8:=Hi ad
 have am:=Hi ac
 have aG:=Hi al
 have aH:=Hi hk
 clear hk aa a5 ab a0 ad ac a2 al ar
 have au:k.take f a = { k with closed:=true }:=by unfold Wk.take;rw [if_neg (by omega),if_neg (by omega)]
 rw [au]
 clear ai hf a6 a4 ao au
 rw [h3] at *
 generalize f.cols.length=n1 at *
 generalize f.block.length=n2 at *
 generalize f.ents.length=n3 at *
 go_enter Tryz.func13,Tryz.ntmps13
 go_wp2_with fail
 rw [← a3]
 clear a3
 refine af.out.mono ?_
 rintro e w2 ⟨rfl,a1⟩
 have a7:=(a1.below.block _ (obj_lt a8.out)).trans a8.out
 obtain ⟨⟨d0,d1,d2,d3,d4,d5,d6,d7,d8,d9,d10⟩,_⟩:=cells11 a7
 have a9:=Hi (am.out.trans a1)
 have ag:=Hi a7
 clear a1 a7 af a8 am
 go_wp2_with fail
 refine (an.out w2 a9.out).mono ?_
 intro e w3 hp
 rw [hq] at hp
 obtain ⟨v3,rfl,aL,ae⟩:=hp
 have aj:=(ae.below.block _ (obj_lt ag.out)).trans ag.out
 clear d0 d1 d2 d3 d4 d5 d6 d7 d8 d9 d10 aL
 obtain ⟨⟨d0,d1,d2,d3,d4,d5,d6,d7,d8,d9,d10⟩,_⟩:=cells11 aj
 have aw:=Hi (a9.out.trans ae)
 have av:=Hi aj
 clear ae aj an a9 ag hq
 go_wp2_with fail
 refine (aG.out w3 aw.out).mono ?_
 rintro e w4 ⟨rfl,ap⟩
 have aq:=Hi (aw.out.trans ap)
 obtain ⟨b,E',c',ah,aT,aC,ay,aB,aF⟩:=aH.out.below aq.out.below
 have az:=(ap.below.block _ (obj_lt av.out)).trans av.out
 have bI:=ay.lt
 have aY:=obj_lt ah
 have aP:Hid (∀ j,(j=g∨j=b∨blk (.slice E' k.entries.length c')=some j)→Core w g j):=Hi fun j=>(core_iff ((aq.out.below.block g aA).symm.trans ah) j).2
 have bd:Hid (∀ i,i<w.heap.size→Core w g i→S i):=Hi fun i _ h=>aH.out.core h
 have b6:Hid (Core w g g):=Hi (.inl rfl)
 clear d0 d1 d2 d3 d4 d5 d6 d7 d8 d9 d10
 obtain ⟨⟨d0,d1,d2,d3,d4,d5,d6,d7,d8,d9,d10⟩,_⟩:=cells11 az
 obtain ⟨c0,c1,c2,c3,c4,c5,c6,fz⟩:=wk_cells ah
 have bJ:¬g=w.heap.size:=by omega
 have aJ:¬w.heap.size=g:=by omega
 have b2:=Hi ah
 have bF:=Hi ay
 have bE:=Hi aB
 have aQ:=Hi aF
 have bD:Hid (Touch (Core w g) w w4):=Hi (Touch.of_below aq.out.below fun j hj h=>absurd hj (by omega))
 clear ah ay aB aF ap az av
 go_wp2
 go_ret
 have ht:∀ u,Touch (At g) w4 (w4.setCell ⟨g,6,none⟩ u):=fun u=>(Touch.refl (At g) w4).set 6 u
 have bG:(w4.setCell ⟨g,6,none⟩ (.bool true)).heap[g]? = some (.cells #[.int .i64 k.frames,.int .i64 k.rows,.int .i64 k.number,.int .i64 k.since,.map (some b),.slice E' k.entries.length c',.bool true] 82 (0,0)):=obj_set b2.out 6 (.bool true)
 refine ⟨rfl, ?_,bD.out.then ((ht _).mono fun j _ e=>by rw [show j=g from e];exact b6.out),fun j hj=>.inl (aP.out j ((core_iff bG j).1 hj))⟩
 have h:=WkV.turn (S:=S) (k':={ k with closed:=true }) b2.out (obj_set b2.out 6 (.bool true)) aT aC bF.out bE.out aQ.out (ht _)
 exact h.mono fun j _ h=>.inl h
set_option maxRecDepth 20000 in
set_option maxHeartbeats 4000000 in
theorem next_schema (g:Nat) (S:Nat→Prop) (k:Wk) (A B E:Option Addr) (c d m:Nat) (f:Fr) (a:Int) (w:World) (hk:WkV w S g k) (ai:k.ok) (hf:FrS w (fun j=>j<w.heap.size∧¬S j) A B E f) (a6:f.wf) (a4:∀ w',Touch S w w'→Tabs w'∧Table w') (ao:∀ j,S j→j<w.heap.size) (a2:outOf 1099511627776 a=false) (l:List UInt8) (hq:encF f=.ok l) (ar:k.follows f a=true) (h1:f.kind=1) :
 Calls Tryz.prog 13 #[.pointer (some ⟨g,0,none⟩),.agg (frCells A c B d E m f),.int .i64 a] w fun e w'=>e=.returned (.int .i64 0)∧WkV w' (More S w) g (k.take f a)∧Went w w' g:=by
 have aA:=hk.lt
 obtain ⟨W1,a3⟩:∃ W1,W1=(w.alloc (.cells (frCells A c B d E m f) 36)).alloc (.cells #[.int .i64 a] 2):=⟨_,rfl⟩
 have ac:Keeps w W1:=by rw [a3];exact ((Keeps.refl w).alloc _).alloc _
 have ad:W1.heap[w.heap.size]? = some (.cells (frCells A c B d E m f) 36 (0,0)):=by rw [a3];exact obj_old (obj_new w _) _
 have aa:RowAt W1 (some ⟨w.heap.size+1,0,none⟩) (i64s [a]):=by rw [a3];exact RowAt.new_at _ _ _ _ _ rfl _ (by simp)
 have a5:Calls Tryz.prog 41 #[.slice (some ⟨w.heap.size+1,0,none⟩) 1 1] W1 fun e w'=>e=.returned (.bool (!outOf 1099511627776 a))∧Keeps W1 w':=by
  have h:=large_calls (some ⟨w.heap.size+1,0,none⟩) 1 [a] W1 (by simp) aa
  have e:[a].any (outOf 1099511627776)=outOf 1099511627776 a:=by simp [List.any]
  rw [e] at h
  exact h
 have a0:∀ w2,Keeps w w2→Touch S w w2:=fun w2 a1=>Touch.of_below a1.below fun j hj h=>absurd hj (by omega)
 have ab:∀ w2,Keeps w w2→Calls Tryz.prog 27 #[.agg (frCells A c B d E m f)] w2 (FPost w2 (encF f)):=fun w2 a1=>
  encode_calls A B E c d m f w2 ((hf.later a1.below).mono fun j _ h=>Nat.lt_of_lt_of_le h.1 a1.size) a6 (a4 w2 (a0 w2 a1)).1 (a4 w2 (a0 w2 a1)).2
 obtain ⟨aE,h0⟩:=enc_kind hq
 have al:∀ w2,Keeps w w2→Calls Tryz.prog 42 #[.pointer (some ⟨g,0,none⟩),.agg (frCells A c B d E m f),.int .i64 a] w2 fun e w'=>e=.returned (.bool (k.follows f a))∧Keeps w2 w':=fun w2 a1=>
  follows_calls g S _ k A B E c d m f a w2 (hk.below a1.below) ai (hf.later a1.below) aE
 rw [ar] at al
 rw [a2] at a5
 unfold frCells at *
 have af:=Hi a5
 have an:=Hi ab
 have a8:=Hi ad
 have am:=Hi ac
 have aG:=Hi al
 have aH:=Hi hk
 clear hk aa a5 ab a0 ad ac a2 al ar
 have ba:=hf.sch
 have bj:=a6.dflt
 have bg:=a6.name
 have bC:=Hi a4
 have bv:=Hi ao
 have bz:=Hi ba
 have br:=Hi bj
 have bu:=Hi bg
 obtain ⟨KT,aI⟩:∃ KT,KT=k.take f a:=⟨_,rfl⟩
 rw [← aI]
 unfold Wk.take at aI
 rw [if_pos h1] at aI
 have bo:=Hi aI
 clear ai hf a6 a4 ao aI ba bj bg h0
 rw [h1] at *
 generalize bx:f.cols.length=n1 at *
 generalize f.block.length=n2 at *
 generalize f.ents.length=n3 at *
 go_enter Tryz.func13,Tryz.ntmps13
 go_wp2_with fail
 rw [← a3]
 clear a3
 refine af.out.mono ?_
 rintro e w2 ⟨rfl,a1⟩
 have a7:=(a1.below.block _ (obj_lt a8.out)).trans a8.out
 obtain ⟨⟨d0,d1,d2,d3,d4,d5,d6,d7,d8,d9,d10⟩,_⟩:=cells11 a7
 have a9:=Hi (am.out.trans a1)
 have ag:=Hi a7
 clear a1 a7 af a8 am
 go_wp2_with fail
 refine (an.out w2 a9.out).mono ?_
 intro e w3 hp
 rw [hq] at hp
 obtain ⟨v3,rfl,aL,ae⟩:=hp
 have aj:=(ae.below.block _ (obj_lt ag.out)).trans ag.out
 clear d0 d1 d2 d3 d4 d5 d6 d7 d8 d9 d10 aL
 obtain ⟨⟨d0,d1,d2,d3,d4,d5,d6,d7,d8,d9,d10⟩,_⟩:=cells11 aj
 have aw:=Hi (a9.out.trans ae)
 have av:=Hi aj
 clear ae aj an a9 ag hq
 go_wp2_with fail
 refine (aG.out w3 aw.out).mono ?_
 rintro e w4 ⟨rfl,ap⟩
 have aq:=Hi (aw.out.trans ap)
 obtain ⟨b,E',c',ah,aT,aC,ay,aB,aF⟩:=aH.out.below aq.out.below
 have az:=(ap.below.block _ (obj_lt av.out)).trans av.out
 have bI:=ay.lt
 have aY:=obj_lt ah
 have aP:Hid (∀ j,(j=g∨j=b∨blk (.slice E' k.entries.length c')=some j)→Core w g j):=Hi fun j=>(core_iff ((aq.out.below.block g aA).symm.trans ah) j).2
 have bd:Hid (∀ i,i<w.heap.size→Core w g i→S i):=Hi fun i _ h=>aH.out.core h
 have b6:Hid (Core w g g):=Hi (.inl rfl)
 clear d0 d1 d2 d3 d4 d5 d6 d7 d8 d9 d10
 obtain ⟨⟨d0,d1,d2,d3,d4,d5,d6,d7,d8,d9,d10⟩,_⟩:=cells11 az
 obtain ⟨c0,c1,c2,c3,c4,c5,c6,fz⟩:=wk_cells ah
 have bJ:¬g=w.heap.size:=by omega
 have aJ:¬w.heap.size=g:=by omega
 obtain ⟨W5,aN⟩:∃ W5,W5=((w4.setCell ⟨g,6,none⟩ (.bool false)).setCell ⟨g,2,none⟩ (.int .i64 f.number)).setCell ⟨g,3,none⟩ (.int .i64 0):=⟨_,rfl⟩
 have aD:Touch (At g) w4 W5:=by rw [aN];exact (((Touch.refl (At g) w4).set 6 _).set 2 _).set 3 _
 have b3:W5.heap[g]? = some (.cells #[.int .i64 k.frames,.int .i64 k.rows,.int .i64 f.number,.int .i64 0,.map (some b),.slice E' k.entries.length c',.bool false] 82 (0,0)):=by rw [aN];exact obj_set (obj_set (obj_set ah 6 (.bool false)) 2 (.int .i64 f.number)) 3 (.int .i64 0)
 have bn:=aD.obj az aJ
 have aS:MapS W5 (fun j=>S j∧j≠g∧blk (.slice E' k.entries.length c')≠some j) b k.ks k.vs:=ay.touch aD fun j hj e=>hj.2.1 e
 have b9:=aB.keep aD fun j hj e=>aB.ne ah (by decide) (by rw [hj];exact congrArg some e)
 have aW:Hid (Touch (Core w g) w W5):=Hi ((Touch.of_below aq.out.below fun j hj h=>absurd hj (by omega):Touch (Core w g) w w4).then (aD.mono fun j _ e=>by rw [show j=g from e];exact b6.out))
 have aK:Hid (Touch S w W5):=Hi (aW.out.mono bd.out)
 have aO:=copied_calls A c f.cols W5.drew (((bz.out.touch (F:=S) aK.out fun j hj=>hj.2).later (Keeps.drew W5).below).mono fun j hj _=>hj) br.out bu.out fun w' bB=>(bC.out w' (aK.out.drew.then (Touch.of_below bB.below fun j hj h=>absurd hj (by simpa using h)))).1
 rw [bx] at aO
 obtain ⟨CC,b7⟩:∃ CC,CC=copyC f.cols:=⟨_,rfl⟩
 rw [← b7] at aO
 have aZ:=Hi (show KT=_ from b7▸bo.out)
 have b0:=Hi b3
 have aU:=Hi bn
 have bf:=Hi aS
 have bm:=Hi b9
 have aQ:=Hi aF
 have bA:=Hi aO
 have bp:=aW.out.size
 have bq:=obj_lt b3
 have bt:=aS.lt
 have bK:b<w.heap.size:=bv.out b aS.self.1
 clear ah ay aB aF ap az av aD b3 bn aS b9 aO bo b7
 go_wp2_with fail
 rw [← aN]
 clear aN c0 c1 c2 c3 c4 c5 c6 fz d0 d1 d2 d3 d4 d5 d6 d7 d8 d9 d10
 obtain ⟨c0,c1,c2,c3,c4,c5,c6,fz⟩:=wk_cells b0.out
 obtain ⟨⟨d0,d1,d2,d3,d4,d5,d6,d7,d8,d9,d10⟩,_⟩:=cells11 aU.out
 go_region_held3 (fun w'=>w'.cell? ⟨g,4,none⟩=some (.map (some b))∧w'.cell? ⟨w.heap.size,1,none⟩=some (.int .i64 f.number)∧w'.cell? ⟨w.heap.size,2,none⟩=some (.slice A n1 c)) (go_keep) (first
  | (go_simp;go_at_call 43;refine bA.out.mono ?_
     rintro e w6 ⟨A6,c6',rfl,bl,bc⟩
     have ak:Keeps W5 w6:=(Keeps.drew W5).trans bc
     have aV:=(ak.below.block _ (obj_lt b0.out)).trans b0.out
     have aM:=(ak.below.block _ (obj_lt aU.out)).trans aU.out
     have e4:w6.cell? ⟨g,4,none⟩=some (.map (some b)):=by rw [obj_cell aV];rfl
     have e1:w6.cell? ⟨w.heap.size,1,none⟩=some (.int .i64 f.number):=by rw [obj_cell aM];rfl
     have e2:w6.cell? ⟨w.heap.size,2,none⟩=some (.slice A n1 c):=by rw [obj_cell aM];rfl
     have bh:MapS w6 (fun j=>More S w j∧j≠g∧blk (.slice E' k.entries.length c')≠some j) b k.ks k.vs:=(bf.out.touch (F:=fun j=>W5.heap.size≤j∧False) (Touch.of_below ak.below fun j hj h=>absurd hj (by omega)) fun j _ h=>h.2).mono fun j _ h=>⟨.inl h.1,h.2⟩
     obtain ⟨w7,bs,aR,bH,ax⟩:=bh.put f.number (.agg #[.slice A6 CC.length c6',.int .i64 a]) (CC,a) ⟨A6,c6',rfl,bl.mono fun j _ h=>by
      have h':W5.heap.size≤j:=h
      exact ⟨⟨.inr (by omega),by omega,fun e=>by have:=(bm.out.lt j e).2;omega⟩,by omega⟩⟩
     have aX:=aR.obj aV (fun e=>aC e.symm)
     have b1:=aR.obj aM (fun e=>by rw [At] at e;omega)
     have z4:w7.cell? ⟨g,4,none⟩=some (.map (some b)):=by rw [obj_cell aX];rfl
     have z1:w7.cell? ⟨w.heap.size,1,none⟩=some (.int .i64 f.number):=by rw [obj_cell b1];rfl
     have z2:w7.cell? ⟨w.heap.size,2,none⟩=some (.slice A n1 c):=by rw [obj_cell b1];rfl
     have b5:=Hi ak
     have b4:=Hi aX
     have bb:=Hi aR
     have bw:=Hi ax
     clear bc ak aV aM bl bh aX b1 aR ax))
 all_goals
  go_wp2
  go_ret
  have hT:Touch (Core w g) w w7:=(aW.out.then (Touch.of_below b5.out.below fun j hj h=>absurd hj (by omega))).trans bb.out fun j hj e=>aP.out j (.inr (.inl e))
  refine ⟨rfl, ?_,hT,fun j hj=>.inl (aP.out j ((core_iff b4.out j).1 hj))⟩
  have bi:=bm.out.below b5.out.below
  obtain ⟨es,clock,be,_⟩:=bf.out.ex
  have b8:=bi.keep bb.out fun j hj e=>bi.ne_map ((b5.out.below.block _ (obj_lt be)).trans be) (by rw [hj];exact congrArg some e)
  rw [aZ.out]
  unfold Wk.put
  have ax:=bw.out
  simp only
  cases hp:keyPos f.number k.ks 0 with
  | some j=>
    rw [hp] at ax
    exact ⟨b,E',c',b4.out,.inl aT,aC,ax,b8,fun j hj=>.inl (aQ.out j hj)⟩
  | none=>
    rw [hp] at ax
    exact ⟨b,E',c',b4.out,.inl aT,aC,ax,b8,fun j hj=>.inl (aQ.out j hj)⟩
end Go.Proofs.YtihodcnnappkbaaGreatDoor
