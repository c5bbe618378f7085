/-
  The walk of Next: what is refused. Condition: the walk stands for its plain walk; the frame reads, in blocks of its own; the tables are as laid, whatever is done in the walk's blocks. The walk of Next: an index frame is taken. Condition: the walk stands for its plain walk; the frame reads, in blocks of its own; the tables are as laid, whatever is done in the walk's blocks. The walk of Next: a schema frame is taken. Condition: the walk stands for its plain walk; the frame reads, in blocks of its own; the tables are as laid, whatever is done in the walk's blocks.
-/
import Derived.Test.YtihodcnnappkbaaGreatDoorG15
import Derived.Test.YtihodcnnappkbaaGreatDoorG7
import Derived.Test.YtihodcnnappkbaaGreatDoorG14
import Derived.Deep.RegionHeld3
import Derived.BigRegion
namespace Go.Proofs.YtihodcnnappkbaaGreatDoor
open Go.RowKit Go.BigFrame
set_option linter.unusedVariables false
set_option linter.unusedSimpArgs false
attribute [local go_sem] run_storeF
set_option maxRecDepth 20000 in
set_option maxHeartbeats 4000000 in
theorem next_out (g:Nat) (S:Nat→Prop) (k:Wk) (A B E:Option Addr) (c d m:Nat) (f:Fr) (a:Int) (w:World) (hk:WkV w S g k) (hok:k.ok) (hf:FrS w (fun j=>j<w.heap.size∧¬S j) A B E f) (hfw:f.wf) (hTT:∀ w',Touch S w w'→Tabs w'∧Table w') (hSl:∀ j,S j→j<w.heap.size) (hout:outOf 1099511627776 a=true) :
 Calls Tryz.prog 13 #[.pointer (some ⟨g,0,none⟩),.agg (frCells A c B d E m f),.int .i64 a] w fun e w'=>e=.returned (.int .i64 143)∧Keeps w w':=by
 have hgl:=hk.lt
 obtain ⟨W1,hW1⟩:∃ W1,W1=(w.alloc (.cells (frCells A c B d E m f) 36)).alloc (.cells #[.int .i64 a] 2):=⟨_,rfl⟩
 have hk1:Keeps w W1:=by rw [hW1];exact ((Keeps.refl w).alloc _).alloc _
 have hb1:W1.heap[w.heap.size]? = some (.cells (frCells A c B d E m f) 36 (0,0)):=by rw [hW1];exact obj_old (obj_new w _) _
 have hr1:RowAt W1 (some ⟨w.heap.size+1,0,none⟩) (i64s [a]):=by rw [hW1];exact RowAt.new_at _ _ _ _ _ rfl _ (by simp)
 have hlg:Calls Tryz.prog 41 #[.slice (some ⟨w.heap.size+1,0,none⟩) 1 1] W1 fun e w'=>e=.returned (.bool (!outOf 1099511627776 a))∧Keeps W1 w':=by
  have h:=large_calls (some ⟨w.heap.size+1,0,none⟩) 1 [a] W1 (by simp) hr1
  have e:[a].any (outOf 1099511627776)=outOf 1099511627776 a:=by simp [List.any]
  rw [e] at h
  exact h
 have hquiet:∀ w2,Keeps w w2→Touch S w w2:=fun w2 hk2=>Touch.of_below hk2.below fun j hj h=>absurd hj (by omega)
 have hen:∀ w2,Keeps w w2→Calls Tryz.prog 27 #[.agg (frCells A c B d E m f)] w2 (FPost w2 (encF f)):=fun w2 hk2=>
  encode_calls A B E c d m f w2 ((hf.later hk2.below).mono fun j _ h=>Nat.lt_of_lt_of_le h.1 hk2.size) hfw (hTT w2 (hquiet w2 hk2)).1 (hTT w2 (hquiet w2 hk2)).2
 rw [hout] at hlg
 have HLG:=Hi hlg
 clear hk hok hf hfw hTT hSl hr1 hlg hen hquiet hb1 hout
 unfold frCells at *
 generalize f.cols.length=n1 at *
 generalize f.block.length=n2 at *
 generalize f.ents.length=n3 at *
 go_enter Tryz.func13,Tryz.ntmps13
 go_wp2_with fail
 rw [← hW1]
 clear hW1
 refine HLG.out.mono ?_
 rintro e w2 ⟨rfl,hk2⟩
 go_wp2
 go_ret
 exact ⟨rfl,hk1.trans hk2⟩
set_option maxRecDepth 20000 in
set_option maxHeartbeats 4000000 in
theorem next_unencoded (g:Nat) (S:Nat→Prop) (k:Wk) (A B E:Option Addr) (c d m:Nat) (f:Fr) (a:Int) (w:World) (hk:WkV w S g k) (hok:k.ok) (hf:FrS w (fun j=>j<w.heap.size∧¬S j) A B E f) (hfw:f.wf) (hTT:∀ w',Touch S w w'→Tabs w'∧Table w') (hSl:∀ j,S j→j<w.heap.size) (hout:outOf 1099511627776 a=false) (er:Int) (hq:encF f=.error er) :
 Calls Tryz.prog 13 #[.pointer (some ⟨g,0,none⟩),.agg (frCells A c B d E m f),.int .i64 a] w fun e w'=>e=.returned (.int .i64 143)∧Keeps w w':=by
 have hgl:=hk.lt
 obtain ⟨W1,hW1⟩:∃ W1,W1=(w.alloc (.cells (frCells A c B d E m f) 36)).alloc (.cells #[.int .i64 a] 2):=⟨_,rfl⟩
 have hk1:Keeps w W1:=by rw [hW1];exact ((Keeps.refl w).alloc _).alloc _
 have hb1:W1.heap[w.heap.size]? = some (.cells (frCells A c B d E m f) 36 (0,0)):=by rw [hW1];exact obj_old (obj_new w _) _
 have hr1:RowAt W1 (some ⟨w.heap.size+1,0,none⟩) (i64s [a]):=by rw [hW1];exact RowAt.new_at _ _ _ _ _ rfl _ (by simp)
 have hlg:Calls Tryz.prog 41 #[.slice (some ⟨w.heap.size+1,0,none⟩) 1 1] W1 fun e w'=>e=.returned (.bool (!outOf 1099511627776 a))∧Keeps W1 w':=by
  have h:=large_calls (some ⟨w.heap.size+1,0,none⟩) 1 [a] W1 (by simp) hr1
  have e:[a].any (outOf 1099511627776)=outOf 1099511627776 a:=by simp [List.any]
  rw [e] at h
  exact h
 have hquiet:∀ w2,Keeps w w2→Touch S w w2:=fun w2 hk2=>Touch.of_below hk2.below fun j hj h=>absurd hj (by omega)
 have hen:∀ w2,Keeps w w2→Calls Tryz.prog 27 #[.agg (frCells A c B d E m f)] w2 (FPost w2 (encF f)):=fun w2 hk2=>
  encode_calls A B E c d m f w2 ((hf.later hk2.below).mono fun j _ h=>Nat.lt_of_lt_of_le h.1 hk2.size) hfw (hTT w2 (hquiet w2 hk2)).1 (hTT w2 (hquiet w2 hk2)).2
 rw [hout] at hlg
 have her:=encF_nz hq
 unfold frCells at *
 have HLG:=Hi hlg
 have HEN:=Hi hen
 have HB1:=Hi hb1
 have HK1:=Hi hk1
 clear hk hok hf hfw hTT hSl hr1 hlg hen hquiet hb1 hk1 hout
 generalize f.cols.length=n1 at *
 generalize f.block.length=n2 at *
 generalize f.ents.length=n3 at *
 go_enter Tryz.func13,Tryz.ntmps13
 go_wp2_with fail
 rw [← hW1]
 clear hW1
 refine HLG.out.mono ?_
 rintro e w2 ⟨rfl,hk2⟩
 have hb2:=(hk2.below.block _ (obj_lt HB1.out)).trans HB1.out
 obtain ⟨⟨d0,d1,d2,d3,d4,d5,d6,d7,d8,d9,d10⟩,_⟩:=cells11 hb2
 have HK2:=Hi (HK1.out.trans hk2)
 have HB2:=Hi hb2
 clear hk2 hb2 HLG HB1 HK1
 go_wp2_with fail
 refine (HEN.out w2 HK2.out).mono ?_
 intro e w3 hp
 rw [hq] at hp
 obtain ⟨rfl,hk3⟩:=hp
 have q0:(er != 0)=true:=by simpa using her
 clear her hq HEN
 go_wp2
 go_ret
 exact ⟨rfl,HK2.out.trans hk3⟩
set_option maxRecDepth 20000 in
set_option maxHeartbeats 4000000 in
theorem next_astray (g:Nat) (S:Nat→Prop) (k:Wk) (A B E:Option Addr) (c d m:Nat) (f:Fr) (a:Int) (w:World) (hk:WkV w S g k) (hok:k.ok) (hf:FrS w (fun j=>j<w.heap.size∧¬S j) A B E f) (hfw:f.wf) (hTT:∀ w',Touch S w w'→Tabs w'∧Table w') (hSl:∀ j,S j→j<w.heap.size) (hout:outOf 1099511627776 a=false) (l:List UInt8) (hq:encF f=.ok l) (hfl:k.follows f a=false) :
 Calls Tryz.prog 13 #[.pointer (some ⟨g,0,none⟩),.agg (frCells A c B d E m f),.int .i64 a] w fun e w'=>e=.returned (.int .i64 143)∧Keeps w w':=by
 have hgl:=hk.lt
 obtain ⟨W1,hW1⟩:∃ W1,W1=(w.alloc (.cells (frCells A c B d E m f) 36)).alloc (.cells #[.int .i64 a] 2):=⟨_,rfl⟩
 have hk1:Keeps w W1:=by rw [hW1];exact ((Keeps.refl w).alloc _).alloc _
 have hb1:W1.heap[w.heap.size]? = some (.cells (frCells A c B d E m f) 36 (0,0)):=by rw [hW1];exact obj_old (obj_new w _) _
 have hr1:RowAt W1 (some ⟨w.heap.size+1,0,none⟩) (i64s [a]):=by rw [hW1];exact RowAt.new_at _ _ _ _ _ rfl _ (by simp)
 have hlg:Calls Tryz.prog 41 #[.slice (some ⟨w.heap.size+1,0,none⟩) 1 1] W1 fun e w'=>e=.returned (.bool (!outOf 1099511627776 a))∧Keeps W1 w':=by
  have h:=large_calls (some ⟨w.heap.size+1,0,none⟩) 1 [a] W1 (by simp) hr1
  have e:[a].any (outOf 1099511627776)=outOf 1099511627776 a:=by simp [List.any]
  rw [e] at h
  exact h
 have hquiet:∀ w2,Keeps w w2→Touch S w w2:=fun w2 hk2=>Touch.of_below hk2.below fun j hj h=>absurd hj (by omega)
 have hen:∀ w2,Keeps w w2→Calls Tryz.prog 27 #[.agg (frCells A c B d E m f)] w2 (FPost w2 (encF f)):=fun w2 hk2=>
  encode_calls A B E c d m f w2 ((hf.later hk2.below).mono fun j _ h=>Nat.lt_of_lt_of_le h.1 hk2.size) hfw (hTT w2 (hquiet w2 hk2)).1 (hTT w2 (hquiet w2 hk2)).2
 obtain ⟨hkd,h0⟩:=enc_kind hq
 have hfo:∀ w2,Keeps w w2→Calls Tryz.prog 42 #[.pointer (some ⟨g,0,none⟩),.agg (frCells A c B d E m f),.int .i64 a] w2 fun e w'=>e=.returned (.bool (k.follows f a))∧Keeps w2 w':=fun w2 hk2=>
  follows_calls g S _ k A B E c d m f a w2 (hk.below hk2.below) hok (hf.later hk2.below) hkd
 rw [hfl] at hfo
 rw [hout] at hlg
 unfold frCells at *
 have HLG:=Hi hlg
 have HEN:=Hi hen
 have HB1:=Hi hb1
 have HK1:=Hi hk1
 have HFO:=Hi hfo
 clear hk hok hf hfw hTT hSl hr1 hlg hen hquiet hb1 hk1 hout hfo hfl
 generalize f.cols.length=n1 at *
 generalize f.block.length=n2 at *
 generalize f.ents.length=n3 at *
 go_enter Tryz.func13,Tryz.ntmps13
 go_wp2_with fail
 rw [← hW1]
 clear hW1
 refine HLG.out.mono ?_
 rintro e w2 ⟨rfl,hk2⟩
 have hb2:=(hk2.below.block _ (obj_lt HB1.out)).trans HB1.out
 obtain ⟨⟨d0,d1,d2,d3,d4,d5,d6,d7,d8,d9,d10⟩,_⟩:=cells11 hb2
 have HK2:=Hi (HK1.out.trans hk2)
 have HB2:=Hi hb2
 clear hk2 hb2 HLG HB1 HK1
 go_wp2_with fail
 refine (HEN.out w2 HK2.out).mono ?_
 intro e w3 hp
 rw [hq] at hp
 obtain ⟨v3,rfl,ho3,hk3⟩:=hp
 have hb3:=(hk3.below.block _ (obj_lt HB2.out)).trans HB2.out
 clear d0 d1 d2 d3 d4 d5 d6 d7 d8 d9 d10 ho3
 obtain ⟨⟨d0,d1,d2,d3,d4,d5,d6,d7,d8,d9,d10⟩,_⟩:=cells11 hb3
 have HK3:=Hi (HK2.out.trans hk3)
 have HB3:=Hi hb3
 clear hk3 hb3 HEN HK2 HB2 hq
 go_wp2_with fail
 refine (HFO.out w3 HK3.out).mono ?_
 rintro e w4 ⟨rfl,hk4⟩
 have HK4:=Hi (HK3.out.trans hk4)
 go_wp2
 go_ret
 exact ⟨rfl,HK4.out⟩
set_option maxRecDepth 20000 in
set_option maxHeartbeats 4000000 in
theorem next_index (g:Nat) (S:Nat→Prop) (k:Wk) (A B E:Option Addr) (c d m:Nat) (f:Fr) (a:Int) (w:World) (hk:WkV w S g k) (hok:k.ok) (hf:FrS w (fun j=>j<w.heap.size∧¬S j) A B E f) (hfw:f.wf) (hTT:∀ w',Touch S w w'→Tabs w'∧Table w') (hSl:∀ j,S j→j<w.heap.size) (hout:outOf 1099511627776 a=false) (l:List UInt8) (hq:encF f=.ok l) (hfl:k.follows f a=true) (h3:f.kind=3) :
 Calls Tryz.prog 13 #[.pointer (some ⟨g,0,none⟩),.agg (frCells A c B d E m f),.int .i64 a] w fun e w'=>e=.returned (.int .i64 0)∧WkV w' (More S w) g (k.take f a)∧Went w w' g:=by
 have hgl:=hk.lt
 obtain ⟨W1,hW1⟩:∃ W1,W1=(w.alloc (.cells (frCells A c B d E m f) 36)).alloc (.cells #[.int .i64 a] 2):=⟨_,rfl⟩
 have hk1:Keeps w W1:=by rw [hW1];exact ((Keeps.refl w).alloc _).alloc _
 have hb1:W1.heap[w.heap.size]? = some (.cells (frCells A c B d E m f) 36 (0,0)):=by rw [hW1];exact obj_old (obj_new w _) _
 have hr1:RowAt W1 (some ⟨w.heap.size+1,0,none⟩) (i64s [a]):=by rw [hW1];exact RowAt.new_at _ _ _ _ _ rfl _ (by simp)
 have hlg:Calls Tryz.prog 41 #[.slice (some ⟨w.heap.size+1,0,none⟩) 1 1] W1 fun e w'=>e=.returned (.bool (!outOf 1099511627776 a))∧Keeps W1 w':=by
  have h:=large_calls (some ⟨w.heap.size+1,0,none⟩) 1 [a] W1 (by simp) hr1
  have e:[a].any (outOf 1099511627776)=outOf 1099511627776 a:=by simp [List.any]
  rw [e] at h
  exact h
 have hquiet:∀ w2,Keeps w w2→Touch S w w2:=fun w2 hk2=>Touch.of_below hk2.below fun j hj h=>absurd hj (by omega)
 have hen:∀ w2,Keeps w w2→Calls Tryz.prog 27 #[.agg (frCells A c B d E m f)] w2 (FPost w2 (encF f)):=fun w2 hk2=>
  encode_calls A B E c d m f w2 ((hf.later hk2.below).mono fun j _ h=>Nat.lt_of_lt_of_le h.1 hk2.size) hfw (hTT w2 (hquiet w2 hk2)).1 (hTT w2 (hquiet w2 hk2)).2
 obtain ⟨hkd,h0⟩:=enc_kind hq
 have hfo:∀ w2,Keeps w w2→Calls Tryz.prog 42 #[.pointer (some ⟨g,0,none⟩),.agg (frCells A c B d E m f),.int .i64 a] w2 fun e w'=>e=.returned (.bool (k.follows f a))∧Keeps w2 w':=fun w2 hk2=>
  follows_calls g S _ k A B E c d m f a w2 (hk.below hk2.below) hok (hf.later hk2.below) hkd
 rw [hfl] at hfo
 rw [hout] at hlg
 unfold frCells at *
 have HLG:=Hi hlg
 have HEN:=Hi hen
 have HB1:=Hi hb1
 have HK1:=Hi hk1
 have HFO:=Hi hfo
 have HWK:=Hi hk
 clear hk hr1 hlg hen hquiet hb1 hk1 hout hfo hfl
 have htake:k.take f a = { k with closed:=true }:=by unfold Wk.take;rw [if_neg (by omega),if_neg (by omega)]
 rw [htake]
 clear hok hf hfw hTT hSl htake
 rw [h3] at *
 generalize f.cols.length=n1 at *
 generalize f.block.length=n2 at *
 generalize f.ents.length=n3 at *
 go_enter Tryz.func13,Tryz.ntmps13
 go_wp2_with fail
 rw [← hW1]
 clear hW1
 refine HLG.out.mono ?_
 rintro e w2 ⟨rfl,hk2⟩
 have hb2:=(hk2.below.block _ (obj_lt HB1.out)).trans HB1.out
 obtain ⟨⟨d0,d1,d2,d3,d4,d5,d6,d7,d8,d9,d10⟩,_⟩:=cells11 hb2
 have HK2:=Hi (HK1.out.trans hk2)
 have HB2:=Hi hb2
 clear hk2 hb2 HLG HB1 HK1
 go_wp2_with fail
 refine (HEN.out w2 HK2.out).mono ?_
 intro e w3 hp
 rw [hq] at hp
 obtain ⟨v3,rfl,ho3,hk3⟩:=hp
 have hb3:=(hk3.below.block _ (obj_lt HB2.out)).trans HB2.out
 clear d0 d1 d2 d3 d4 d5 d6 d7 d8 d9 d10 ho3
 obtain ⟨⟨d0,d1,d2,d3,d4,d5,d6,d7,d8,d9,d10⟩,_⟩:=cells11 hb3
 have HK3:=Hi (HK2.out.trans hk3)
 have HB3:=Hi hb3
 clear hk3 hb3 HEN HK2 HB2 hq
 go_wp2_with fail
 refine (HFO.out w3 HK3.out).mono ?_
 rintro e w4 ⟨rfl,hk4⟩
 have HK4:=Hi (HK3.out.trans hk4)
 obtain ⟨b,E',c',hg4,hSg,hbg,hm4,hE4,hES⟩:=HWK.out.below HK4.out.below
 have hb4:=(hk4.below.block _ (obj_lt HB3.out)).trans HB3.out
 have hbl:=hm4.lt
 have hgl4:=obj_lt hg4
 have HCO:Hid (∀ j,(j=g∨j=b∨blk (.slice E' k.entries.length c')=some j)→Core w g j):=Hi fun j=>(core_iff ((HK4.out.below.block g hgl).symm.trans hg4) j).2
 have HCS:Hid (∀ i,i<w.heap.size→Core w g i→S i):=Hi fun i _ h=>HWK.out.core h
 have HCG:Hid (Core w g g):=Hi (.inl rfl)
 clear d0 d1 d2 d3 d4 d5 d6 d7 d8 d9 d10
 obtain ⟨⟨d0,d1,d2,d3,d4,d5,d6,d7,d8,d9,d10⟩,_⟩:=cells11 hb4
 obtain ⟨c0,c1,c2,c3,c4,c5,c6,fz⟩:=wk_cells hg4
 have hne:¬g=w.heap.size:=by omega
 have hne2:¬w.heap.size=g:=by omega
 have HG4:=Hi hg4
 have HM4:=Hi hm4
 have HE4:=Hi hE4
 have HES:=Hi hES
 have HT4:Hid (Touch (Core w g) w w4):=Hi (Touch.of_below HK4.out.below fun j hj h=>absurd hj (by omega))
 clear hg4 hm4 hE4 hES hk4 hb4 HB3
 go_wp2
 go_ret
 have ht:∀ u,Touch (At g) w4 (w4.setCell ⟨g,6,none⟩ u):=fun u=>(Touch.refl (At g) w4).set 6 u
 have hg9:(w4.setCell ⟨g,6,none⟩ (.bool true)).heap[g]? = some (.cells #[.int .i64 k.frames,.int .i64 k.rows,.int .i64 k.number,.int .i64 k.since,.map (some b),.slice E' k.entries.length c',.bool true] 82 (0,0)):=obj_set HG4.out 6 (.bool true)
 refine ⟨rfl,?_,HT4.out.then ((ht _).mono fun j _ e=>by rw [show j=g from e];exact HCG.out),fun j hj=>.inl (HCO.out j ((core_iff hg9 j).1 hj))⟩
 have h:=WkV.turn (S:=S) (k':={ k with closed:=true }) HG4.out (obj_set HG4.out 6 (.bool true)) hSg hbg HM4.out HE4.out HES.out (ht _)
 exact h.mono fun j _ h=>.inl h
set_option maxRecDepth 20000 in
set_option maxHeartbeats 4000000 in
theorem next_schema (g:Nat) (S:Nat→Prop) (k:Wk) (A B E:Option Addr) (c d m:Nat) (f:Fr) (a:Int) (w:World) (hk:WkV w S g k) (hok:k.ok) (hf:FrS w (fun j=>j<w.heap.size∧¬S j) A B E f) (hfw:f.wf) (hTT:∀ w',Touch S w w'→Tabs w'∧Table w') (hSl:∀ j,S j→j<w.heap.size) (hout:outOf 1099511627776 a=false) (l:List UInt8) (hq:encF f=.ok l) (hfl:k.follows f a=true) (h1:f.kind=1) :
 Calls Tryz.prog 13 #[.pointer (some ⟨g,0,none⟩),.agg (frCells A c B d E m f),.int .i64 a] w fun e w'=>e=.returned (.int .i64 0)∧WkV w' (More S w) g (k.take f a)∧Went w w' g:=by
 have hgl:=hk.lt
 obtain ⟨W1,hW1⟩:∃ W1,W1=(w.alloc (.cells (frCells A c B d E m f) 36)).alloc (.cells #[.int .i64 a] 2):=⟨_,rfl⟩
 have hk1:Keeps w W1:=by rw [hW1];exact ((Keeps.refl w).alloc _).alloc _
 have hb1:W1.heap[w.heap.size]? = some (.cells (frCells A c B d E m f) 36 (0,0)):=by rw [hW1];exact obj_old (obj_new w _) _
 have hr1:RowAt W1 (some ⟨w.heap.size+1,0,none⟩) (i64s [a]):=by rw [hW1];exact RowAt.new_at _ _ _ _ _ rfl _ (by simp)
 have hlg:Calls Tryz.prog 41 #[.slice (some ⟨w.heap.size+1,0,none⟩) 1 1] W1 fun e w'=>e=.returned (.bool (!outOf 1099511627776 a))∧Keeps W1 w':=by
  have h:=large_calls (some ⟨w.heap.size+1,0,none⟩) 1 [a] W1 (by simp) hr1
  have e:[a].any (outOf 1099511627776)=outOf 1099511627776 a:=by simp [List.any]
  rw [e] at h
  exact h
 have hquiet:∀ w2,Keeps w w2→Touch S w w2:=fun w2 hk2=>Touch.of_below hk2.below fun j hj h=>absurd hj (by omega)
 have hen:∀ w2,Keeps w w2→Calls Tryz.prog 27 #[.agg (frCells A c B d E m f)] w2 (FPost w2 (encF f)):=fun w2 hk2=>
  encode_calls A B E c d m f w2 ((hf.later hk2.below).mono fun j _ h=>Nat.lt_of_lt_of_le h.1 hk2.size) hfw (hTT w2 (hquiet w2 hk2)).1 (hTT w2 (hquiet w2 hk2)).2
 obtain ⟨hkd,h0⟩:=enc_kind hq
 have hfo:∀ w2,Keeps w w2→Calls Tryz.prog 42 #[.pointer (some ⟨g,0,none⟩),.agg (frCells A c B d E m f),.int .i64 a] w2 fun e w'=>e=.returned (.bool (k.follows f a))∧Keeps w2 w':=fun w2 hk2=>
  follows_calls g S _ k A B E c d m f a w2 (hk.below hk2.below) hok (hf.later hk2.below) hkd
 rw [hfl] at hfo
 rw [hout] at hlg
 unfold frCells at *
 have HLG:=Hi hlg
 have HEN:=Hi hen
 have HB1:=Hi hb1
 have HK1:=Hi hk1
 have HFO:=Hi hfo
 have HWK:=Hi hk
 clear hk hr1 hlg hen hquiet hb1 hk1 hout hfo hfl
 have hfs:=hf.sch
 have hcw:=hfw.dflt
 have hcn:=hfw.name
 have HTT:=Hi hTT
 have HSL:=Hi hSl
 have HFS:=Hi hfs
 have HCW:=Hi hcw
 have HCN:=Hi hcn
 obtain ⟨KT,hKT⟩:∃ KT,KT=k.take f a:=⟨_,rfl⟩
 rw [← hKT]
 unfold Wk.take at hKT
 rw [if_pos h1] at hKT
 have HKT:=Hi hKT
 clear hok hf hfw hTT hSl hKT hfs hcw hcn h0
 rw [h1] at *
 generalize hn1:f.cols.length=n1 at *
 generalize f.block.length=n2 at *
 generalize f.ents.length=n3 at *
 go_enter Tryz.func13,Tryz.ntmps13
 go_wp2_with fail
 rw [← hW1]
 clear hW1
 refine HLG.out.mono ?_
 rintro e w2 ⟨rfl,hk2⟩
 have hb2:=(hk2.below.block _ (obj_lt HB1.out)).trans HB1.out
 obtain ⟨⟨d0,d1,d2,d3,d4,d5,d6,d7,d8,d9,d10⟩,_⟩:=cells11 hb2
 have HK2:=Hi (HK1.out.trans hk2)
 have HB2:=Hi hb2
 clear hk2 hb2 HLG HB1 HK1
 go_wp2_with fail
 refine (HEN.out w2 HK2.out).mono ?_
 intro e w3 hp
 rw [hq] at hp
 obtain ⟨v3,rfl,ho3,hk3⟩:=hp
 have hb3:=(hk3.below.block _ (obj_lt HB2.out)).trans HB2.out
 clear d0 d1 d2 d3 d4 d5 d6 d7 d8 d9 d10 ho3
 obtain ⟨⟨d0,d1,d2,d3,d4,d5,d6,d7,d8,d9,d10⟩,_⟩:=cells11 hb3
 have HK3:=Hi (HK2.out.trans hk3)
 have HB3:=Hi hb3
 clear hk3 hb3 HEN HK2 HB2 hq
 go_wp2_with fail
 refine (HFO.out w3 HK3.out).mono ?_
 rintro e w4 ⟨rfl,hk4⟩
 have HK4:=Hi (HK3.out.trans hk4)
 obtain ⟨b,E',c',hg4,hSg,hbg,hm4,hE4,hES⟩:=HWK.out.below HK4.out.below
 have hb4:=(hk4.below.block _ (obj_lt HB3.out)).trans HB3.out
 have hbl:=hm4.lt
 have hgl4:=obj_lt hg4
 have HCO:Hid (∀ j,(j=g∨j=b∨blk (.slice E' k.entries.length c')=some j)→Core w g j):=Hi fun j=>(core_iff ((HK4.out.below.block g hgl).symm.trans hg4) j).2
 have HCS:Hid (∀ i,i<w.heap.size→Core w g i→S i):=Hi fun i _ h=>HWK.out.core h
 have HCG:Hid (Core w g g):=Hi (.inl rfl)
 clear d0 d1 d2 d3 d4 d5 d6 d7 d8 d9 d10
 obtain ⟨⟨d0,d1,d2,d3,d4,d5,d6,d7,d8,d9,d10⟩,_⟩:=cells11 hb4
 obtain ⟨c0,c1,c2,c3,c4,c5,c6,fz⟩:=wk_cells hg4
 have hne:¬g=w.heap.size:=by omega
 have hne2:¬w.heap.size=g:=by omega
 obtain ⟨W5,hW5⟩:∃ W5,W5=((w4.setCell ⟨g,6,none⟩ (.bool false)).setCell ⟨g,2,none⟩ (.int .i64 f.number)).setCell ⟨g,3,none⟩ (.int .i64 0):=⟨_,rfl⟩
 have ht5:Touch (At g) w4 W5:=by rw [hW5];exact (((Touch.refl (At g) w4).set 6 _).set 2 _).set 3 _
 have hg5:W5.heap[g]? = some (.cells #[.int .i64 k.frames,.int .i64 k.rows,.int .i64 f.number,.int .i64 0,.map (some b),.slice E' k.entries.length c',.bool false] 82 (0,0)):=by rw [hW5];exact obj_set (obj_set (obj_set hg4 6 (.bool false)) 2 (.int .i64 f.number)) 3 (.int .i64 0)
 have hb5:=ht5.obj hb4 hne2
 have hm5:MapS W5 (fun j=>S j∧j≠g∧blk (.slice E' k.entries.length c')≠some j) b k.ks k.vs:=hm4.touch ht5 fun j hj e=>hj.2.1 e
 have hE5:=hE4.keep ht5 fun j hj e=>hE4.ne hg4 (by decide) (by rw [hj];exact congrArg some e)
 have HT5:Hid (Touch (Core w g) w W5):=Hi ((Touch.of_below HK4.out.below fun j hj h=>absurd hj (by omega):Touch (Core w g) w w4).then (ht5.mono fun j _ e=>by rw [show j=g from e];exact HCG.out))
 have HT5S:Hid (Touch S w W5):=Hi (HT5.out.mono HCS.out)
 have hcp:=copied_calls A c f.cols W5.drew (((HFS.out.touch (F:=S) HT5S.out fun j hj=>hj.2).later (Keeps.drew W5).below).mono fun j hj _=>hj) HCW.out HCN.out fun w' hk'=>(HTT.out w' (HT5S.out.drew.then (Touch.of_below hk'.below fun j hj h=>absurd hj (by simpa using h)))).1
 rw [hn1] at hcp
 obtain ⟨CC,hCC⟩:∃ CC,CC=copyC f.cols:=⟨_,rfl⟩
 rw [← hCC] at hcp
 have HKT2:=Hi (show KT=_ from hCC▸HKT.out)
 have HG5:=Hi hg5
 have HB5:=Hi hb5
 have HM5:=Hi hm5
 have HE5:=Hi hE5
 have HES:=Hi hES
 have HCP:=Hi hcp
 have hsz5:=HT5.out.size
 have hgl5:=obj_lt hg5
 have hbl5:=hm5.lt
 have hbw:b<w.heap.size:=HSL.out b hm5.self.1
 clear hg4 hm4 hE4 hES hk4 hb4 HB3 ht5 hg5 hb5 hm5 hE5 hcp HKT hCC
 go_wp2_with fail
 rw [← hW5]
 clear hW5 c0 c1 c2 c3 c4 c5 c6 fz d0 d1 d2 d3 d4 d5 d6 d7 d8 d9 d10
 obtain ⟨c0,c1,c2,c3,c4,c5,c6,fz⟩:=wk_cells HG5.out
 obtain ⟨⟨d0,d1,d2,d3,d4,d5,d6,d7,d8,d9,d10⟩,_⟩:=cells11 HB5.out
 go_region_held3 (fun w'=>w'.cell? ⟨g,4,none⟩=some (.map (some b))∧w'.cell? ⟨w.heap.size,1,none⟩=some (.int .i64 f.number)∧w'.cell? ⟨w.heap.size,2,none⟩=some (.slice A n1 c)) (go_keep) (first
  | (go_simp;go_at_call 43;refine HCP.out.mono ?_
     rintro e w6 ⟨A6,c6',rfl,hs6,hk6⟩
     have hk56:Keeps W5 w6:=(Keeps.drew W5).trans hk6
     have hg6:=(hk56.below.block _ (obj_lt HG5.out)).trans HG5.out
     have hb6:=(hk56.below.block _ (obj_lt HB5.out)).trans HB5.out
     have e4:w6.cell? ⟨g,4,none⟩=some (.map (some b)):=by rw [obj_cell hg6];rfl
     have e1:w6.cell? ⟨w.heap.size,1,none⟩=some (.int .i64 f.number):=by rw [obj_cell hb6];rfl
     have e2:w6.cell? ⟨w.heap.size,2,none⟩=some (.slice A n1 c):=by rw [obj_cell hb6];rfl
     have hm6:MapS w6 (fun j=>More S w j∧j≠g∧blk (.slice E' k.entries.length c')≠some j) b k.ks k.vs:=(HM5.out.touch (F:=fun j=>W5.heap.size≤j∧False) (Touch.of_below hk56.below fun j hj h=>absurd hj (by omega)) fun j _ h=>h.2).mono fun j _ h=>⟨.inl h.1,h.2⟩
     obtain ⟨w7,hput,ht7,hsz7,hm7⟩:=hm6.put f.number (.agg #[.slice A6 CC.length c6',.int .i64 a]) (CC,a) ⟨A6,c6',rfl,hs6.mono fun j _ h=>by
      have h':W5.heap.size≤j:=h
      exact ⟨⟨.inr (by omega),by omega,fun e=>by have:=(HE5.out.lt j e).2;omega⟩,by omega⟩⟩
     have hg7:=ht7.obj hg6 (fun e=>hbg e.symm)
     have hb7:=ht7.obj hb6 (fun e=>by rw [At] at e;omega)
     have z4:w7.cell? ⟨g,4,none⟩=some (.map (some b)):=by rw [obj_cell hg7];rfl
     have z1:w7.cell? ⟨w.heap.size,1,none⟩=some (.int .i64 f.number):=by rw [obj_cell hb7];rfl
     have z2:w7.cell? ⟨w.heap.size,2,none⟩=some (.slice A n1 c):=by rw [obj_cell hb7];rfl
     have HK6:=Hi hk56
     have HG7:=Hi hg7
     have HT7:=Hi ht7
     have HM7:=Hi hm7
     clear hk6 hk56 hg6 hb6 hs6 hm6 hg7 hb7 ht7 hm7))
 all_goals
  go_wp2
  go_ret
  have hT:Touch (Core w g) w w7:=(HT5.out.then (Touch.of_below HK6.out.below fun j hj h=>absurd hj (by omega))).trans HT7.out fun j hj e=>HCO.out j (.inr (.inl e))
  refine ⟨rfl,?_,hT,fun j hj=>.inl (HCO.out j ((core_iff HG7.out j).1 hj))⟩
  have hE6:=HE5.out.below HK6.out.below
  obtain ⟨es,clock,hmo,_⟩:=HM5.out.ex
  have hE7:=hE6.keep HT7.out fun j hj e=>hE6.ne_map ((HK6.out.below.block _ (obj_lt hmo)).trans hmo) (by rw [hj];exact congrArg some e)
  rw [HKT2.out]
  unfold Wk.put
  have hm7:=HM7.out
  simp only
  cases hp:keyPos f.number k.ks 0 with
  | some j=>
    rw [hp] at hm7
    exact ⟨b,E',c',HG7.out,.inl hSg,hbg,hm7,hE7,fun j hj=>.inl (HES.out j hj)⟩
  | none=>
    rw [hp] at hm7
    exact ⟨b,E',c',HG7.out,.inl hSg,hbg,hm7,hE7,fun j hj=>.inl (HES.out j hj)⟩
end Go.Proofs.YtihodcnnappkbaaGreatDoor
