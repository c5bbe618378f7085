/-
  The walk of Next: a data frame is taken. Condition: the walk stands for its plain walk; the frame reads, in blocks of its own; the tables are as laid, whatever is done in the walk's blocks. The walk of Next. Condition: the walk stands for its plain walk; the frame reads, in blocks of its own; the tables are as laid, whatever is done in the walk's blocks.
-/
import Derived.Test.YtihodcnnappkbaaGreatDoorG15
import Derived.Test.YtihodcnnappkbaaGreatDoorG7
import Derived.Test.YtihodcnnappkbaaGreatDoorG14
import Derived.Deep.RegionHeld3
import Derived.BigRegion
import Derived.Test.YtihodcnnappkbaaGreatDoorG16
namespace Go.Proofs.YtihodcnnappkbaaGreatDoor
open Go.RowKit Go.BigFrame
set_option linter.unusedVariables false
set_option linter.unusedSimpArgs false
attribute [local go_sem] run_storeF
set_option maxRecDepth 20000 in
set_option maxHeartbeats 4000000 in
theorem next_plain (g:Nat) (S:Nat→Prop) (k:Wk) (A B E:Option Addr) (c d m:Nat) (f:Fr) (a:Int) (w:World) (hk:WkV w S g k) (hok:k.ok) (hf:FrS w (fun j=>j<w.heap.size∧¬S j) A B E f) (hfw:f.wf) (hTT:∀ w',Touch S w w'→Tabs w'∧Table w') (hSl:∀ j,S j→j<w.heap.size) (hout:outOf 1099511627776 a=false) (l:List UInt8) (hq:encF f=.ok l) (hfl:k.follows f a=true) (h2:f.kind=2) (hno:¬(k.frames.tmod 4=0∧k.entries.length<64)) :
 Calls Tryz.prog 13 #[.pointer (some ⟨g,0,none⟩),.agg (frCells A c B d E m f),.int .i64 a] w fun e w'=>e=.returned (.int .i64 0)∧WkV w' (More S w) g (k.take f a)∧Went w w' g:=by
 have hgl:=hk.lt
 obtain ⟨W1,hW1⟩:∃ W1,W1=(w.alloc (.cells (frCells A c B d E m f) 36)).alloc (.cells #[.int .i64 a] 2):=⟨_,rfl⟩
 have hk1:Keeps w W1:=by rw [hW1];exact ((Keeps.refl w).alloc _).alloc _
 have hb1:W1.heap[w.heap.size]? = some (.cells (frCells A c B d E m f) 36 (0,0)):=by rw [hW1];exact obj_old (obj_new w _) _
 have hr1:RowAt W1 (some ⟨w.heap.size+1,0,none⟩) (i64s [a]):=by rw [hW1];exact RowAt.new_at _ _ _ _ _ rfl _ (by simp)
 have hlg:Calls Tryz.prog 41 #[.slice (some ⟨w.heap.size+1,0,none⟩) 1 1] W1 fun e w'=>e=.returned (.bool (!outOf 1099511627776 a))∧Keeps W1 w':=by
  have h:=large_calls (some ⟨w.heap.size+1,0,none⟩) 1 [a] W1 (by simp) hr1
  have e:[a].any (outOf 1099511627776)=outOf 1099511627776 a:=by simp [List.any]
  rw [e] at h
  exact h
 have hquiet:∀ w2,Keeps w w2→Touch S w w2:=fun w2 hk2=>Touch.of_below hk2.below fun j hj h=>absurd hj (by omega)
 have hen:∀ w2,Keeps w w2→Calls Tryz.prog 27 #[.agg (frCells A c B d E m f)] w2 (FPost w2 (encF f)):=fun w2 hk2=>
  encode_calls A B E c d m f w2 ((hf.later hk2.below).mono fun j _ h=>Nat.lt_of_lt_of_le h.1 hk2.size) hfw (hTT w2 (hquiet w2 hk2)).1 (hTT w2 (hquiet w2 hk2)).2
 obtain ⟨hkd,h0⟩:=enc_kind hq
 have hfo:∀ w2,Keeps w w2→Calls Tryz.prog 42 #[.pointer (some ⟨g,0,none⟩),.agg (frCells A c B d E m f),.int .i64 a] w2 fun e w'=>e=.returned (.bool (k.follows f a))∧Keeps w2 w':=fun w2 hk2=>
  follows_calls g S _ k A B E c d m f a w2 (hk.below hk2.below) hok (hf.later hk2.below) hkd
 rw [hfl] at hfo
 have h0':=h0
 unfold frWrong at h0'
 rw [if_neg (by omega),if_pos h2] at h0'
 obtain ⟨nn,ns,nt,nr,hn,hs,ht,hr,hnn,hns,hnt,hnr,hnr2⟩:=datWrong_no h0'
 have hfl2:=hfl
 unfold Wk.follows at hfl2
 rw [if_neg (by omega),if_pos h2] at hfl2
 simp only [Bool.and_eq_true,decide_eq_true_eq] at hfl2
 have q1:0≤k.frames∧k.frames<1099511627776:=by omega
 have q2:0≤k.rows∧k.rows<1099511627776:=by omega
 have q3:1≤f.rows∧f.rows≤64:=by omega
 have q4:0≤k.since∧k.since≤k.frames:=hok.sn
 rw [hout] at hlg
 unfold frCells at *
 have HLG:=Hi hlg
 have HEN:=Hi hen
 have HB1:=Hi hb1
 have HK1:=Hi hk1
 have HFO:=Hi hfo
 have HWK:=Hi hk
 clear hk hr1 hlg hen hquiet hb1 hk1 hout hfo hfl
 obtain ⟨KT,hKT⟩:∃ KT,KT=k.take f a:=⟨_,rfl⟩
 rw [← hKT]
 unfold Wk.take at hKT
 rw [if_neg (by omega),if_pos h2] at hKT
 rw [if_neg hno] at hKT
 have HKT:=Hi hKT
 clear hok hf hfw hTT hSl hKT h0 h0' hfl2 hn hs ht hr hnn hns hnt hnr hnr2
 rw [h2] at *
 generalize f.cols.length=n1 at *
 generalize f.block.length=n2 at *
 generalize f.ents.length=n3 at *
 go_enter Tryz.func13,Tryz.ntmps13
 go_wp2_with fail
 rw [← hW1]
 clear hW1
 refine HLG.out.mono ?_
 rintro e w2 ⟨rfl,hk2⟩
 have hb2:=(hk2.below.block _ (obj_lt HB1.out)).trans HB1.out
 obtain ⟨⟨d0,d1,d2,d3,d4,d5,d6,d7,d8,d9,d10⟩,_⟩:=cells11 hb2
 have HK2:=Hi (HK1.out.trans hk2)
 have HB2:=Hi hb2
 clear hk2 hb2 HLG HB1 HK1
 go_wp2_with fail
 refine (HEN.out w2 HK2.out).mono ?_
 intro e w3 hp
 rw [hq] at hp
 obtain ⟨v3,rfl,ho3,hk3⟩:=hp
 have hb3:=(hk3.below.block _ (obj_lt HB2.out)).trans HB2.out
 clear d0 d1 d2 d3 d4 d5 d6 d7 d8 d9 d10 ho3
 obtain ⟨⟨d0,d1,d2,d3,d4,d5,d6,d7,d8,d9,d10⟩,_⟩:=cells11 hb3
 have HK3:=Hi (HK2.out.trans hk3)
 have HB3:=Hi hb3
 clear hk3 hb3 HEN HK2 HB2 hq
 go_wp2_with fail
 refine (HFO.out w3 HK3.out).mono ?_
 rintro e w4 ⟨rfl,hk4⟩
 have HK4:=Hi (HK3.out.trans hk4)
 obtain ⟨b,E',c',hg4,hSg,hbg,hm4,hE4,hES⟩:=HWK.out.below HK4.out.below
 have hb4:=(hk4.below.block _ (obj_lt HB3.out)).trans HB3.out
 have hbl:=hm4.lt
 have hgl4:=obj_lt hg4
 have HCO:Hid (∀ j,(j=g∨j=b∨blk (.slice E' k.entries.length c')=some j)→Core w g j):=Hi fun j=>(core_iff ((HK4.out.below.block g hgl).symm.trans hg4) j).2
 have HCS:Hid (∀ i,i<w.heap.size→Core w g i→S i):=Hi fun i _ h=>HWK.out.core h
 have HCG:Hid (Core w g g):=Hi (.inl rfl)
 clear d0 d1 d2 d3 d4 d5 d6 d7 d8 d9 d10
 obtain ⟨⟨d0,d1,d2,d3,d4,d5,d6,d7,d8,d9,d10⟩,_⟩:=cells11 hb4
 obtain ⟨c0,c1,c2,c3,c4,c5,c6,fz⟩:=wk_cells hg4
 have hne:¬g=w.heap.size:=by omega
 have hne2:¬w.heap.size=g:=by omega
 have HG4:=Hi hg4
 have HM4:=Hi hm4
 have HE4:=Hi hE4
 have HES:=Hi hES
 have HB4:=Hi hb4
 have HT4:Hid (Touch (Core w g) w w4):=Hi (Touch.of_below HK4.out.below fun j hj h=>absurd hj (by omega))
 obtain ⟨W5,hW5⟩:∃ W5,W5=w4.setCell ⟨g,6,none⟩ (.bool false):=⟨_,rfl⟩
 have ht5:Touch (At g) w4 W5:=by rw [hW5];exact (Touch.refl (At g) w4).set 6 _
 have hg5:W5.heap[g]? = some (.cells #[.int .i64 k.frames,.int .i64 k.rows,.int .i64 k.number,.int .i64 k.since,.map (some b),.slice E' k.entries.length c',.bool false] 82 (0,0)):=by rw [hW5];exact obj_set hg4 6 (.bool false)
 have hb5:=ht5.obj hb4 hne2
 have hm5:MapS W5 (fun j=>S j∧j≠g∧blk (.slice E' k.entries.length c')≠some j) b k.ks k.vs:=hm4.touch ht5 fun j hj e=>hj.2.1 e
 have hE5:=hE4.keep ht5 fun j hj e=>hE4.ne hg4 (by decide) (by rw [hj];exact congrArg some e)
 have HT5:Hid (Touch (Core w g) w W5):=Hi (HT4.out.then (ht5.mono fun j _ e=>by rw [show j=g from e];exact HCG.out))
 have HG5:=Hi hg5
 have HB5:=Hi hb5
 have HM5:=Hi hm5
 have HE5:=Hi hE5
 have hsz5:=HT5.out.size
 have hgl5:=obj_lt hg5
 clear hg4 hm4 hE4 hES hk4 hb4 HB3 ht5 hg5 hb5 hm5 hE5 HG4 HM4 HE4 HB4
 by_cases hm:k.frames.tmod 4=0
 case pos=>
  have hm2:k.frames % 4=0:=by rw [← Int.tmod_eq_emod_of_nonneg q1.1];exact hm
  have hlt:¬(k.entries.length:Int)<64:=by omega
  clear hno
  obtain ⟨W8,hW8⟩:∃ W8,W8=W5.setCell ⟨g,0,none⟩ (.int .i64 (k.frames+1)):=⟨_,rfl⟩
  have hg8:W8.heap[g]? = some (.cells #[.int .i64 (k.frames+1),.int .i64 k.rows,.int .i64 k.number,.int .i64 k.since,.map (some b),.slice E' k.entries.length c',.bool false] 82 (0,0)):=by rw [hW8];exact obj_set HG5.out 0 (.int .i64 (k.frames+1))
  have ht8:Touch (At g) W5 W8:=by rw [hW8];exact (Touch.refl (At g) W5).set 0 _
  have hb8:=ht8.obj HB5.out hne2
  obtain ⟨c0,c1,c2,c3,c4,c5,c6,fz⟩:=wk_cells HG5.out
  have hgl55:=obj_lt HG5.out
  have hw1:IntKind.i64.wrap (k.frames+1)=k.frames+1:=IntWalk.i64_in _ (by omega)
  have hw2:IntKind.i64.wrap (k.rows+f.rows)=k.rows+f.rows:=IntWalk.i64_in _ (by omega)
  have hw3:IntKind.i64.wrap (k.since+1)=k.since+1:=IntWalk.i64_in _ (by omega)
  have HG8:=Hi hg8
  have HT8:=Hi ht8
  have HB8:=Hi hb8
  clear hg8 ht8 hb8
  go_wp2_with fail
  rw [← hW5,← hW8]
  clear hW8 c0 c1 c2 c3 c4 c5 c6 fz
  obtain ⟨c0,c1,c2,c3,c4,c5,c6,fz⟩:=wk_cells HG8.out
  have hgl8:=obj_lt HG8.out
  obtain ⟨⟨d0,d1,d2,d3,d4,d5,d6,d7,d8,d9,d10⟩,_⟩:=cells11 HB8.out
  go_region
  all_goals
   go_wp2
   go_ret
   have ht9:∀ x y,Touch (At g) W5 ((W8.drew.setCell ⟨g,1,none⟩ x).setCell ⟨g,3,none⟩ y):=fun x y=>((HT8.out.drew).set 1 x).set 3 y
   have hg9:((W8.drew.setCell ⟨g,1,none⟩ (.int .i64 (k.rows+f.rows))).setCell ⟨g,3,none⟩ (.int .i64 (k.since+1))).heap[g]? = some (.cells #[.int .i64 (k.frames+1),.int .i64 (k.rows+f.rows),.int .i64 k.number,.int .i64 (k.since+1),.map (some b),.slice E' k.entries.length c',.bool false] 82 (0,0)):=obj_set (obj_set (show W8.drew.heap[g]? = _ from HG8.out) 1 _) 3 _
   refine ⟨rfl,?_,HT5.out.then ((ht9 _ _).mono fun j _ e=>by rw [show j=g from e];exact HCG.out),fun j hj=>by
    rcases (core_iff hg9 j).1 hj with h | h | h
    · exact .inl (HCO.out j (.inl h))
    · exact .inl (HCO.out j (.inr (.inl h)))
    · exact .inl (HCO.out j (.inr (.inr h)))⟩
   rw [HKT.out]
   exact WkV.turn (S:=More S w) (k':={ k with frames:=k.frames+1,rows:=k.rows+f.rows,since:=k.since+1,closed:=false,entries:=k.entries }) HG5.out hg9 (.inl hSg) hbg (HM5.out.mono fun j _ h=>⟨.inl h.1,h.2⟩) HE5.out (fun j hj=>.inl (HES.out j hj)) (ht9 _ _)
 case neg=>
  have hm2:¬k.frames % 4=0:=by rw [← Int.tmod_eq_emod_of_nonneg q1.1];exact hm
  have qm:(k.frames % 4==0)=false:=by simpa using hm2
  clear hno
  obtain ⟨W8,hW8⟩:∃ W8,W8=W5.setCell ⟨g,0,none⟩ (.int .i64 (k.frames+1)):=⟨_,rfl⟩
  have hg8:W8.heap[g]? = some (.cells #[.int .i64 (k.frames+1),.int .i64 k.rows,.int .i64 k.number,.int .i64 k.since,.map (some b),.slice E' k.entries.length c',.bool false] 82 (0,0)):=by rw [hW8];exact obj_set HG5.out 0 (.int .i64 (k.frames+1))
  have ht8:Touch (At g) W5 W8:=by rw [hW8];exact (Touch.refl (At g) W5).set 0 _
  have hb8:=ht8.obj HB5.out hne2
  obtain ⟨c0,c1,c2,c3,c4,c5,c6,fz⟩:=wk_cells HG5.out
  have hgl55:=obj_lt HG5.out
  have hw1:IntKind.i64.wrap (k.frames+1)=k.frames+1:=IntWalk.i64_in _ (by omega)
  have hw2:IntKind.i64.wrap (k.rows+f.rows)=k.rows+f.rows:=IntWalk.i64_in _ (by omega)
  have hw3:IntKind.i64.wrap (k.since+1)=k.since+1:=IntWalk.i64_in _ (by omega)
  have HG8:=Hi hg8
  have HT8:=Hi ht8
  have HB8:=Hi hb8
  clear hg8 ht8 hb8
  go_wp2_with fail
  rw [← hW5,← hW8]
  clear hW8 c0 c1 c2 c3 c4 c5 c6 fz
  obtain ⟨c0,c1,c2,c3,c4,c5,c6,fz⟩:=wk_cells HG8.out
  have hgl8:=obj_lt HG8.out
  obtain ⟨⟨d0,d1,d2,d3,d4,d5,d6,d7,d8,d9,d10⟩,_⟩:=cells11 HB8.out
  go_region
  all_goals
   go_wp2
   go_ret
   have ht9:∀ x y,Touch (At g) W5 ((W8.drew.setCell ⟨g,1,none⟩ x).setCell ⟨g,3,none⟩ y):=fun x y=>((HT8.out.drew).set 1 x).set 3 y
   have hg9:((W8.drew.setCell ⟨g,1,none⟩ (.int .i64 (k.rows+f.rows))).setCell ⟨g,3,none⟩ (.int .i64 (k.since+1))).heap[g]? = some (.cells #[.int .i64 (k.frames+1),.int .i64 (k.rows+f.rows),.int .i64 k.number,.int .i64 (k.since+1),.map (some b),.slice E' k.entries.length c',.bool false] 82 (0,0)):=obj_set (obj_set (show W8.drew.heap[g]? = _ from HG8.out) 1 _) 3 _
   refine ⟨rfl,?_,HT5.out.then ((ht9 _ _).mono fun j _ e=>by rw [show j=g from e];exact HCG.out),fun j hj=>by
    rcases (core_iff hg9 j).1 hj with h | h | h
    · exact .inl (HCO.out j (.inl h))
    · exact .inl (HCO.out j (.inr (.inl h)))
    · exact .inl (HCO.out j (.inr (.inr h)))⟩
   rw [HKT.out]
   exact WkV.turn (S:=More S w) (k':={ k with frames:=k.frames+1,rows:=k.rows+f.rows,since:=k.since+1,closed:=false,entries:=k.entries }) HG5.out hg9 (.inl hSg) hbg (HM5.out.mono fun j _ h=>⟨.inl h.1,h.2⟩) HE5.out (fun j hj=>.inl (HES.out j hj)) (ht9 _ _)
set_option maxRecDepth 20000 in
set_option maxHeartbeats 4000000 in
theorem next_entry (g:Nat) (S:Nat→Prop) (k:Wk) (A B E:Option Addr) (c d m:Nat) (f:Fr) (a:Int) (w:World) (hk:WkV w S g k) (hok:k.ok) (hf:FrS w (fun j=>j<w.heap.size∧¬S j) A B E f) (hfw:f.wf) (hTT:∀ w',Touch S w w'→Tabs w'∧Table w') (hSl:∀ j,S j→j<w.heap.size) (hout:outOf 1099511627776 a=false) (l:List UInt8) (hq:encF f=.ok l) (hfl:k.follows f a=true) (h2:f.kind=2) (hm:k.frames.tmod 4=0) (hlt:k.entries.length<64) :
 Calls Tryz.prog 13 #[.pointer (some ⟨g,0,none⟩),.agg (frCells A c B d E m f),.int .i64 a] w fun e w'=>e=.returned (.int .i64 0)∧WkV w' (More S w) g (k.take f a)∧Went w w' g:=by
 have hgl:=hk.lt
 obtain ⟨W1,hW1⟩:∃ W1,W1=(w.alloc (.cells (frCells A c B d E m f) 36)).alloc (.cells #[.int .i64 a] 2):=⟨_,rfl⟩
 have hk1:Keeps w W1:=by rw [hW1];exact ((Keeps.refl w).alloc _).alloc _
 have hb1:W1.heap[w.heap.size]? = some (.cells (frCells A c B d E m f) 36 (0,0)):=by rw [hW1];exact obj_old (obj_new w _) _
 have hr1:RowAt W1 (some ⟨w.heap.size+1,0,none⟩) (i64s [a]):=by rw [hW1];exact RowAt.new_at _ _ _ _ _ rfl _ (by simp)
 have hlg:Calls Tryz.prog 41 #[.slice (some ⟨w.heap.size+1,0,none⟩) 1 1] W1 fun e w'=>e=.returned (.bool (!outOf 1099511627776 a))∧Keeps W1 w':=by
  have h:=large_calls (some ⟨w.heap.size+1,0,none⟩) 1 [a] W1 (by simp) hr1
  have e:[a].any (outOf 1099511627776)=outOf 1099511627776 a:=by simp [List.any]
  rw [e] at h
  exact h
 have hquiet:∀ w2,Keeps w w2→Touch S w w2:=fun w2 hk2=>Touch.of_below hk2.below fun j hj h=>absurd hj (by omega)
 have hen:∀ w2,Keeps w w2→Calls Tryz.prog 27 #[.agg (frCells A c B d E m f)] w2 (FPost w2 (encF f)):=fun w2 hk2=>
  encode_calls A B E c d m f w2 ((hf.later hk2.below).mono fun j _ h=>Nat.lt_of_lt_of_le h.1 hk2.size) hfw (hTT w2 (hquiet w2 hk2)).1 (hTT w2 (hquiet w2 hk2)).2
 obtain ⟨hkd,h0⟩:=enc_kind hq
 have hfo:∀ w2,Keeps w w2→Calls Tryz.prog 42 #[.pointer (some ⟨g,0,none⟩),.agg (frCells A c B d E m f),.int .i64 a] w2 fun e w'=>e=.returned (.bool (k.follows f a))∧Keeps w2 w':=fun w2 hk2=>
  follows_calls g S _ k A B E c d m f a w2 (hk.below hk2.below) hok (hf.later hk2.below) hkd
 rw [hfl] at hfo
 have h0':=h0
 unfold frWrong at h0'
 rw [if_neg (by omega),if_pos h2] at h0'
 obtain ⟨nn,ns,nt,nr,hn,hs,ht,hr,hnn,hns,hnt,hnr,hnr2⟩:=datWrong_no h0'
 have hfl2:=hfl
 unfold Wk.follows at hfl2
 rw [if_neg (by omega),if_pos h2] at hfl2
 simp only [Bool.and_eq_true,decide_eq_true_eq] at hfl2
 have q1:0≤k.frames∧k.frames<1099511627776:=by omega
 have q2:0≤k.rows∧k.rows<1099511627776:=by omega
 have q3:1≤f.rows∧f.rows≤64:=by omega
 have q4:0≤k.since∧k.since≤k.frames:=hok.sn
 rw [hout] at hlg
 unfold frCells at *
 have HLG:=Hi hlg
 have HEN:=Hi hen
 have HB1:=Hi hb1
 have HK1:=Hi hk1
 have HFO:=Hi hfo
 have HWK:=Hi hk
 clear hk hr1 hlg hen hquiet hb1 hk1 hout hfo hfl
 obtain ⟨KT,hKT⟩:∃ KT,KT=k.take f a:=⟨_,rfl⟩
 rw [← hKT]
 unfold Wk.take at hKT
 rw [if_neg (by omega),if_pos h2] at hKT
 rw [if_pos ⟨hm,hlt⟩] at hKT
 have HKT:=Hi hKT
 clear hok hf hfw hTT hSl hKT h0 h0' hfl2 hn hs ht hr hnn hns hnt hnr hnr2
 rw [h2] at *
 generalize f.cols.length=n1 at *
 generalize f.block.length=n2 at *
 generalize f.ents.length=n3 at *
 go_enter Tryz.func13,Tryz.ntmps13
 go_wp2_with fail
 rw [← hW1]
 clear hW1
 refine HLG.out.mono ?_
 rintro e w2 ⟨rfl,hk2⟩
 have hb2:=(hk2.below.block _ (obj_lt HB1.out)).trans HB1.out
 obtain ⟨⟨d0,d1,d2,d3,d4,d5,d6,d7,d8,d9,d10⟩,_⟩:=cells11 hb2
 have HK2:=Hi (HK1.out.trans hk2)
 have HB2:=Hi hb2
 clear hk2 hb2 HLG HB1 HK1
 go_wp2_with fail
 refine (HEN.out w2 HK2.out).mono ?_
 intro e w3 hp
 rw [hq] at hp
 obtain ⟨v3,rfl,ho3,hk3⟩:=hp
 have hb3:=(hk3.below.block _ (obj_lt HB2.out)).trans HB2.out
 clear d0 d1 d2 d3 d4 d5 d6 d7 d8 d9 d10 ho3
 obtain ⟨⟨d0,d1,d2,d3,d4,d5,d6,d7,d8,d9,d10⟩,_⟩:=cells11 hb3
 have HK3:=Hi (HK2.out.trans hk3)
 have HB3:=Hi hb3
 clear hk3 hb3 HEN HK2 HB2 hq
 go_wp2_with fail
 refine (HFO.out w3 HK3.out).mono ?_
 rintro e w4 ⟨rfl,hk4⟩
 have HK4:=Hi (HK3.out.trans hk4)
 obtain ⟨b,E',c',hg4,hSg,hbg,hm4,hE4,hES⟩:=HWK.out.below HK4.out.below
 have hb4:=(hk4.below.block _ (obj_lt HB3.out)).trans HB3.out
 have hbl:=hm4.lt
 have hgl4:=obj_lt hg4
 have HCO:Hid (∀ j,(j=g∨j=b∨blk (.slice E' k.entries.length c')=some j)→Core w g j):=Hi fun j=>(core_iff ((HK4.out.below.block g hgl).symm.trans hg4) j).2
 have HCS:Hid (∀ i,i<w.heap.size→Core w g i→S i):=Hi fun i _ h=>HWK.out.core h
 have HCG:Hid (Core w g g):=Hi (.inl rfl)
 clear d0 d1 d2 d3 d4 d5 d6 d7 d8 d9 d10
 obtain ⟨⟨d0,d1,d2,d3,d4,d5,d6,d7,d8,d9,d10⟩,_⟩:=cells11 hb4
 obtain ⟨c0,c1,c2,c3,c4,c5,c6,fz⟩:=wk_cells hg4
 have hne:¬g=w.heap.size:=by omega
 have hne2:¬w.heap.size=g:=by omega
 have HG4:=Hi hg4
 have HM4:=Hi hm4
 have HE4:=Hi hE4
 have HES:=Hi hES
 have HB4:=Hi hb4
 have HT4:Hid (Touch (Core w g) w w4):=Hi (Touch.of_below HK4.out.below fun j hj h=>absurd hj (by omega))
 obtain ⟨W5,hW5⟩:∃ W5,W5=w4.setCell ⟨g,6,none⟩ (.bool false):=⟨_,rfl⟩
 have ht5:Touch (At g) w4 W5:=by rw [hW5];exact (Touch.refl (At g) w4).set 6 _
 have hg5:W5.heap[g]? = some (.cells #[.int .i64 k.frames,.int .i64 k.rows,.int .i64 k.number,.int .i64 k.since,.map (some b),.slice E' k.entries.length c',.bool false] 82 (0,0)):=by rw [hW5];exact obj_set hg4 6 (.bool false)
 have hb5:=ht5.obj hb4 hne2
 have hm5:MapS W5 (fun j=>S j∧j≠g∧blk (.slice E' k.entries.length c')≠some j) b k.ks k.vs:=hm4.touch ht5 fun j hj e=>hj.2.1 e
 have hE5:=hE4.keep ht5 fun j hj e=>hE4.ne hg4 (by decide) (by rw [hj];exact congrArg some e)
 have HT5:Hid (Touch (Core w g) w W5):=Hi (HT4.out.then (ht5.mono fun j _ e=>by rw [show j=g from e];exact HCG.out))
 have HG5:=Hi hg5
 have HB5:=Hi hb5
 have HM5:=Hi hm5
 have HE5:=Hi hE5
 have hsz5:=HT5.out.size
 have hgl5:=obj_lt hg5
 clear hg4 hm4 hE4 hES hk4 hb4 HB3 ht5 hg5 hb5 hm5 hE5 HG4 HM4 HE4 HB4
 obtain ⟨Q,u,hsch,hlook⟩:=HM5.out.told k.number
 obtain ⟨es,clock,hmo,_⟩:=HM5.out.ex
 obtain ⟨PL,hPL⟩:∃ PL,PL=placeOf (k.at k.number):=⟨_,rfl⟩
 rw [← hPL] at HKT
 obtain ⟨ol,HL⟩:∃ ol:Nat,∀ W:World,W.heap[b]? = some (.map es clock)→(Instr.lookup 80 (.map (some b)) (.int .i64 k.number) false).run Tryz.prog W=.ok (.agg #[.slice Q ol u,.int .i64 PL]) W:=⟨_,fun W hW=>by rw [hPL];exact hlook W (hW.trans hmo.symm) false⟩
 have HMO:=Hi hmo
 have hbl5:=HM5.out.lt
 have hlt2:(k.entries.length:Int)<64:=by omega
 have hm2:k.frames % 4=0:=by rw [← Int.tmod_eq_emod_of_nonneg q1.1];exact hm
 have hfd:∀ X:World,(Instr.field 90 (.agg #[.slice Q ol u,.int .i64 PL]) 1).run Tryz.prog X=.ok (.int .i64 PL) X:=fun X=>by kernel_rfl
 have hgb:¬g=b:=fun e=>hbg e.symm
 clear hsch hlook hmo hPL
 go_wp2_with fail
 rw [← hW5]
 clear hW5 c0 c1 c2 c3 c4 c5 c6 fz d0 d1 d2 d3 d4 d5 d6 d7 d8 d9 d10
 obtain ⟨c0,c1,c2,c3,c4,c5,c6,fz⟩:=wk_cells HG5.out
 refine wp_region_held_drew (S:=fun w'=>w'.cell? ⟨g,1,none⟩=some (.int .i64 k.rows)∧w'.cell? ⟨g,2,none⟩=some (.int .i64 k.number)∧w'.cell? ⟨g,4,none⟩=some (.map (some b))∧w'.heap[b]? = some (.map es clock)) (by kernel_rfl) ?_ (fun hHeld=>?_)
 · (try dsimp only);(refine ⟨by first | assumption | go_keep,by first | assumption | go_keep,by first | assumption | go_keep,?_⟩;first | assumption | exact HMO.out | exact obj_old HMO.out _ | exact obj_far (by assumption) hbg _)
 refine wpAnyH_take (i:=0) (v:=?_) rfl (by kernel_rfl) (by kernel_rfl) (by kernel_rfl) (fun _ _ _ h=>h) (Or.inl ⟨by rfl,?_⟩) (by assumption) ?_
 rotate_left
 · (intro w hSw;(try dsimp only at hSw);go_simp;try with_reducible rfl)
 try simp only [Act.put,List.setIfInBounds_toArray,List.set_cons_zero,List.set_cons_succ]
 refine wpAnyH_take (i:=1) (v:=?_) rfl (by kernel_rfl) (by kernel_rfl) (by kernel_rfl) (fun _ _ _ h=>h) (Or.inl ⟨by rfl,?_⟩) (by assumption) ?_
 rotate_left
 · (intro w hSw;(try dsimp only at hSw);go_simp;try with_reducible rfl)
 try simp only [Act.put,List.setIfInBounds_toArray,List.set_cons_zero,List.set_cons_succ]
 refine wpAnyH_take (i:=2) (v:=?_) rfl (by kernel_rfl) (by kernel_rfl) (by kernel_rfl) (fun _ _ _ h=>h) (Or.inl ⟨by rfl,?_⟩) (by assumption) ?_
 rotate_left
 · (intro w hSw;(try dsimp only at hSw);go_simp;try with_reducible rfl)
 try simp only [Act.put,List.setIfInBounds_toArray,List.set_cons_zero,List.set_cons_succ]
 refine wpAnyH_take (i:=3) (v:=?_) rfl (by kernel_rfl) (by kernel_rfl) (by kernel_rfl) (fun _ _ _ h=>h) (Or.inl ⟨by rfl,?_⟩) (by assumption) ?_
 rotate_left
 · (intro w hSw;(try dsimp only at hSw);go_simp;try with_reducible rfl)
 try simp only [Act.put,List.setIfInBounds_toArray,List.set_cons_zero,List.set_cons_succ]
 refine wpAnyH_take (i:=5) (v:=?_) rfl (by kernel_rfl) (by kernel_rfl) (by kernel_rfl) (fun _ _ _ h=>h) (Or.inl ⟨by rfl,?_⟩) (by assumption) ?_
 rotate_left
 · (intro w hSw;(try dsimp only at hSw);go_simp;try with_reducible rfl)
 try simp only [Act.put,List.setIfInBounds_toArray,List.set_cons_zero,List.set_cons_succ]
 refine wpAnyH_take (i:=6) (v:=?_) rfl (by kernel_rfl) (by kernel_rfl) (by kernel_rfl) (fun _ _ _ h=>h) (Or.inl ⟨by rfl,?_⟩) (by assumption) ?_
 rotate_left
 · (intro w hSw;(try dsimp only at hSw);go_simp;try with_reducible rfl)
 try simp only [Act.put,List.setIfInBounds_toArray,List.set_cons_zero,List.set_cons_succ]
 refine wpAnyH_take (i:=7) (v:=?_) rfl (by kernel_rfl) (by kernel_rfl) (by kernel_rfl) (fun _ _ _ h=>h) (Or.inl ⟨by rfl,?_⟩) (by assumption) ?_
 rotate_left
 · (intro w hSw;(try dsimp only at hSw);go_simp;try with_reducible rfl)
 try simp only [Act.put,List.setIfInBounds_toArray,List.set_cons_zero,List.set_cons_succ]
 refine wpAnyH_take (i:=8) (v:=?_) rfl (by kernel_rfl) (by kernel_rfl) (by kernel_rfl) (fun _ _ _ h=>h) (Or.inl ⟨by rfl,?_⟩) (by assumption) ?_
 rotate_left
 · (intro w hSw;(try dsimp only at hSw);go_simp;try with_reducible rfl)
 try simp only [Act.put,List.setIfInBounds_toArray,List.set_cons_zero,List.set_cons_succ]
 refine wpAnyH_take (i:=9) (v:=?_) rfl (by kernel_rfl) (by kernel_rfl) (by kernel_rfl) (fun _ _ _ h=>h) (Or.inl ⟨by rfl,?_⟩) (by assumption) ?_
 rotate_left
 · (intro w hSw;(try dsimp only at hSw);go_simp;try with_reducible rfl)
 try simp only [Act.put,List.setIfInBounds_toArray,List.set_cons_zero,List.set_cons_succ]
 refine wpAnyH_take (i:=10) (v:=?_) rfl (by kernel_rfl) (by kernel_rfl) (by kernel_rfl) (fun _ _ _ h=>h) (Or.inl ⟨by rfl,?_⟩) (by assumption) ?_
 rotate_left
 · (intro w hSw;(try dsimp only at hSw);go_simp;try with_reducible rfl)
 try simp only [Act.put,List.setIfInBounds_toArray,List.set_cons_zero,List.set_cons_succ]
 refine wpAnyH_take (i:=11) (v:=?_) rfl (by kernel_rfl) (by kernel_rfl) (by kernel_rfl) (fun _ _ _ h=>h) (Or.inl ⟨by rfl,?_⟩) (by assumption) ?_
 rotate_left
 · (intro w hSw;(try dsimp only at hSw);go_simp;try with_reducible rfl)
 try simp only [Act.put,List.setIfInBounds_toArray,List.set_cons_zero,List.set_cons_succ]
 refine wpAnyH_take (i:=12) (v:=?_) rfl (by kernel_rfl) (by kernel_rfl) (by kernel_rfl) (fun _ _ _ h=>h) (Or.inl ⟨by rfl,?_⟩) (by assumption) ?_
 rotate_left
 · (intro w hSw;(try dsimp only at hSw);go_simp;try with_reducible rfl)
 try simp only [Act.put,List.setIfInBounds_toArray,List.set_cons_zero,List.set_cons_succ]
 refine wpAnyH_take (i:=13) (v:=?_) rfl (by kernel_rfl) (by kernel_rfl) (by kernel_rfl) (fun _ _ _ h=>h) (Or.inl ⟨by rfl,?_⟩) (by assumption) ?_
 rotate_left
 · (intro w hSw;(try dsimp only at hSw);go_simp;try with_reducible rfl)
 try simp only [Act.put,List.setIfInBounds_toArray,List.set_cons_zero,List.set_cons_succ]
 refine wpAnyH_take (i:=14) (v:=?_) rfl (by kernel_rfl) (by kernel_rfl) (by kernel_rfl) (fun _ _ _ h=>h) (Or.inl ⟨by rfl,?_⟩) (by assumption) ?_
 rotate_left
 · (intro w hSw;(try dsimp only at hSw);go_simp;try with_reducible rfl)
 try simp only [Act.put,List.setIfInBounds_toArray,List.set_cons_zero,List.set_cons_succ]
 refine wpAnyH_take (i:=15) (v:=?_) rfl (by kernel_rfl) (by kernel_rfl) (by kernel_rfl) (fun _ _ _ h=>h) (Or.inl ⟨by rfl,?_⟩) (by assumption) ?_
 rotate_left
 · (intro w hSw;(try dsimp only at hSw);go_simp;try with_reducible rfl)
 try simp only [Act.put,List.setIfInBounds_toArray,List.set_cons_zero,List.set_cons_succ]
 refine wpAnyH_take (i:=16) (v:=?_) rfl (by kernel_rfl) (by kernel_rfl) (by kernel_rfl) (fun _ _ _ h=>h) (Or.inl ⟨by rfl,?_⟩) (by assumption) ?_
 rotate_left
 · (intro w hSw;(try dsimp only at hSw);go_simp;try with_reducible rfl)
 try simp only [Act.put,List.setIfInBounds_toArray,List.set_cons_zero,List.set_cons_succ]
 refine wpAnyH_take (i:=17) (v:=?_) rfl (by kernel_rfl) (by kernel_rfl) (by kernel_rfl) (fun _ _ _ h=>h) (Or.inl ⟨by rfl,?_⟩) (by assumption) ?_
 rotate_left
 · (intro w hSw;(try dsimp only at hSw);go_simp;try with_reducible rfl)
 try simp only [Act.put,List.setIfInBounds_toArray,List.set_cons_zero,List.set_cons_succ]
 refine wpAnyH_take (i:=18) (v:=?_) rfl (by kernel_rfl) (by kernel_rfl) (by kernel_rfl) (fun _ _ _ h=>h) (Or.inl ⟨by rfl,?_⟩) (by assumption) ?_
 rotate_left
 · (intro w hSw;(try dsimp only at hSw);go_simp;try with_reducible rfl)
 try simp only [Act.put,List.setIfInBounds_toArray,List.set_cons_zero,List.set_cons_succ]
 refine wpAnyH_take (i:=19) (v:=?_) rfl (by kernel_rfl) (by kernel_rfl) (by kernel_rfl) (fun _ _ _ h=>h) (Or.inl ⟨by rfl,?_⟩) (by assumption) ?_
 rotate_left
 · (intro w hSw;(try dsimp only at hSw);go_simp;try with_reducible rfl)
 try simp only [Act.put,List.setIfInBounds_toArray,List.set_cons_zero,List.set_cons_succ]
 refine wpAnyH_take (i:=20) (v:=?_) rfl (by kernel_rfl) (by kernel_rfl) (by kernel_rfl) (fun _ _ _ h=>h) (Or.inl ⟨by rfl,?_⟩) (by assumption) ?_
 rotate_left
 · (intro w hSw;(try dsimp only at hSw);go_simp;try with_reducible rfl)
 try simp only [Act.put,List.setIfInBounds_toArray,List.set_cons_zero,List.set_cons_succ]
 refine wpAnyH_ready (rs:=[4,21]) (by kernel_rfl) (by simp) ?_
 refine AllReadyH.cons rfl (fun K hK=>?_) (AllReadyH.cons rfl (fun K hK=>?_) AllReadyH.nil)
 · go_simp
   refine hK.out _ _ ?_ (fun hHeld=>?_)
   · (try dsimp only);(refine ⟨by first | assumption | go_keep,by first | assumption | go_keep,by first | assumption | go_keep,?_⟩;first | assumption | exact HMO.out | exact obj_old HMO.out _ | exact obj_far (by assumption) hbg _)
   clear hK K
   try simp only [Act.put,List.setIfInBounds_toArray,List.set_cons_zero,List.set_cons_succ]
   refine wpAnyH_ready (rs:=[21]) (by kernel_rfl) (by simp) ?_
   refine AllReadyH.cons rfl (fun K hK=>?_) AllReadyH.nil
   go_simp
   refine hK.out _ _ ?_ (fun hHeld=>?_)
   · (try dsimp only);(refine ⟨by first | assumption | go_keep,by first | assumption | go_keep,by first | assumption | go_keep,?_⟩;first | assumption | exact HMO.out | exact obj_old HMO.out _ | exact obj_far (by assumption) hbg _)
   clear hK K
   try simp only [Act.put,List.setIfInBounds_toArray,List.set_cons_zero,List.set_cons_succ]
   refine wpAnyH_ready (rs:=[22]) (by kernel_rfl) (by simp) ?_
   refine AllReadyH.cons rfl (fun K hK=>?_) AllReadyH.nil
   refine step_append_rows 0 (by rfl) _ _ 32 78 (.agg #[.int .i64 0,.int .i64 0,.int .i64 0]) 3 24 (by rfl) Tryz.underlying32 info_entry rfl (by omega) (.slice E' k.entries.length c') k.entries.length (entCells k.entries) (by rfl) (HE5.out.below (((Keeps.drew W5).alloc _).below)) (some ⟨W5.heap.size,0,none⟩) 1 1 [.int .i64 a,.int .i64 k.rows,.int .i64 PL] (by rfl) (by rfl) (RowAt.new_at W5.drew _ _ _ _ rfl _ rfl) (by simp [Value.oneCell']) (by simp only [maxLen];omega) (by omega) (Nat.zero_le _) ?_
   intro v6 w6 hl6 hgr6 hat6
   obtain ⟨E6,k6,rfl,_⟩:=hl6.form
   have hka:Keeps W5 (W5.drew.alloc (.cells #[.int .i64 a,.int .i64 k.rows,.int .i64 PL] 78)):=(Keeps.drew W5).alloc _
   have hnb:blk (.slice E' k.entries.length c')≠some b:=HE5.out.ne_map HMO.out
   have hng:blk (.slice E' k.entries.length c')≠some g:=HE5.out.ne HG5.out (by decide)
   have hnf:blk (.slice E' k.entries.length c')≠some w.heap.size:=HE5.out.ne HB5.out (by decide)
   have hmo6:w6.heap[b]? = some (.map es clock):=(hgr6.block b (Nat.lt_of_lt_of_le hbl5 hka.size) (fun e=>hnb e.symm)).trans (obj_old HMO.out _)
   have hg6:=(hgr6.block g (Nat.lt_of_lt_of_le hgl5 hka.size) (fun e=>hng e.symm)).trans (obj_old (show W5.drew.heap[g]? = _ from HG5.out) _)
   have hb6:=(hgr6.block _ (Nat.lt_of_lt_of_le (obj_lt HB5.out) hka.size) (fun e=>hnf e.symm)).trans (obj_old (show W5.drew.heap[w.heap.size]? = _ from HB5.out) _)
   have z1:w6.cell? ⟨g,1,none⟩=some (.int .i64 k.rows):=by rw [obj_cell hg6];rfl
   have z2:w6.cell? ⟨g,2,none⟩=some (.int .i64 k.number):=by rw [obj_cell hg6];rfl
   have z4:w6.cell? ⟨g,4,none⟩=some (.map (some b)):=by rw [obj_cell hg6];rfl
   have z5:w6.cell? ⟨g,5,none⟩=some (.slice E' k.entries.length c'):=by rw [obj_cell hg6];rfl
   have y5:=obj_frozen hg6 5
   have HG6:=Hi hg6
   have HB6:=Hi hb6
   have HL6:=Hi hl6
   have HGR:=Hi hgr6
   have HAT:Hid (blk (.slice E6 (k.entries.length+1) k6)=blk (.slice E' k.entries.length c')∨∃ q,blk (.slice E6 (k.entries.length+1) k6)=some q∧W5.heap.size≤q):=Hi (hat6.imp id fun h=>⟨_,h,hka.size⟩)
   have hgs:=obj_set hg6 5 (.slice E6 (k.entries.length+1) k6)
   have s1:(w6.setCell ⟨g,5,none⟩ (.slice E6 (k.entries.length+1) k6)).cell? ⟨g,1,none⟩=some (.int .i64 k.rows):=by rw [obj_cell hgs];rfl
   have s2:(w6.setCell ⟨g,5,none⟩ (.slice E6 (k.entries.length+1) k6)).cell? ⟨g,2,none⟩=some (.int .i64 k.number):=by rw [obj_cell hgs];rfl
   have s4:(w6.setCell ⟨g,5,none⟩ (.slice E6 (k.entries.length+1) k6)).cell? ⟨g,4,none⟩=some (.map (some b)):=by rw [obj_cell hgs];rfl
   clear hgs
   clear hg6 hb6 hl6 hgr6 hat6 hka
   refine hK.out _ _ ?_ (fun hHeld=>?_)
   · (try dsimp only);(refine ⟨by first | assumption | go_keep,by first | assumption | go_keep,by first | assumption | go_keep,?_⟩;first | assumption | exact HMO.out | exact obj_old HMO.out _ | exact obj_far (by assumption) hbg _)
   clear hK K
   try simp only [Act.put,List.setIfInBounds_toArray,List.set_cons_zero,List.set_cons_succ]
   refine wpAnyH_take (i:=23) (v:=?_) rfl (by kernel_rfl) (by kernel_rfl) (by kernel_rfl) (fun _ _ _ h=>h) (Or.inl ⟨by rfl,?_⟩) (by assumption) ?_
   rotate_left
   · (intro w hSw;(try dsimp only at hSw);go_simp;try with_reducible rfl)
   try simp only [Act.put,List.setIfInBounds_toArray,List.set_cons_zero,List.set_cons_succ]
   refine wpAnyH_take (i:=24) (v:=?_) rfl (by kernel_rfl) (by kernel_rfl) (by kernel_rfl) (fun _ _ _ h=>h) (Or.inl ⟨by rfl,?_⟩) (by assumption) ?_
   rotate_left
   · (intro w hSw;(try dsimp only at hSw);go_simp;try with_reducible rfl)
   try simp only [Act.put,List.setIfInBounds_toArray,List.set_cons_zero,List.set_cons_succ]
   refine wpAnyH_ready (rs:=[25]) (by kernel_rfl) (by simp) ?_
   refine AllReadyH.cons rfl (fun K hK=>?_) AllReadyH.nil
   go_simp
   refine hK.out _ _ ?_ (fun hHeld=>?_)
   · (try dsimp only);(refine ⟨by first | assumption | go_keep,by first | assumption | go_keep,by first | assumption | go_keep,?_⟩;first | assumption | exact HMO.out | exact obj_old HMO.out _ | exact obj_far (by assumption) hbg _)
   clear hK K
   try simp only [Act.put,List.setIfInBounds_toArray,List.set_cons_zero,List.set_cons_succ]
   refine wpAnyH_done (by kernel_rfl) ?_ _
   obtain ⟨es7,hes7⟩:∃ es7,es7=k.entries++[⟨a,k.rows,PL⟩]:=⟨_,rfl⟩
   obtain ⟨n7,hn7⟩:∃ n7,n7=es7.length:=⟨_,rfl⟩
   have hn71:k.entries.length+1=n7:=by rw [hn7,hes7];simp
   rw [← hes7] at HKT
   have hka:Keeps W5 (W5.drew.alloc (.cells #[.int .i64 a,.int .i64 k.rows,.int .i64 PL] 78)):=(Keeps.drew W5).alloc _
   have ht6:Touch (fun j=>blk (.slice E' k.entries.length c')=some j) W5 w6:=(Touch.of_below hka.below fun j hj h=>absurd hj (by omega)).grown HGR.out fun j e _=>e
   obtain ⟨W7,hW7⟩:∃ W7,W7=w6.setCell ⟨g,5,none⟩ (.slice E6 n7 k6):=⟨_,rfl⟩
   have ht7:Touch (At g) w6 W7:=by rw [hW7];exact (Touch.refl (At g) w6).set 5 _
   have hg7:W7.heap[g]? = some (.cells #[.int .i64 k.frames,.int .i64 k.rows,.int .i64 k.number,.int .i64 k.since,.map (some b),.slice E6 n7 k6,.bool false] 82 (0,0)):=by rw [hW7];exact obj_set HG6.out 5 (.slice E6 n7 k6)
   have hb7:=ht7.obj HB6.out hne2
   have hl6:=HL6.out
   rw [hn71] at hl6
   have hat:=HAT.out
   rw [hn71] at hat
   have hsz6:W5.heap.size≤(W5.drew.alloc (.cells #[.int .i64 a,.int .i64 k.rows,.int .i64 PL] 78)).heap.size:=hka.size
   have hm6:MapS w6 (fun j=>More S w j∧j≠g∧blk (.slice E6 n7 k6)≠some j) b k.ks k.vs:=by
    have h1:=(HM5.out.mono (T:=fun j=>(S j∧j≠g∧blk (.slice E' k.entries.length c')≠some j)∧j<W5.heap.size) fun j hj h=>⟨h,hj⟩).touch ht6 fun j hj e=>hj.1.2.2 e
    refine h1.mono fun j _ h=>⟨.inl h.1.1,h.1.2.1,fun e=>?_⟩
    rcases hat with h2 | ⟨q,h2,h4⟩
    · exact h.1.2.2 (h2.symm.trans e)
    · have:=h.2
      have h3:=h2.symm.trans e
      simp only [Option.some.injEq] at h3
      omega
   have HM7:=Hi (hm6.touch ht7 fun j hj e=>hj.2.1 e)
   have hent:entCells es7=entCells k.entries++[.int .i64 a,.int .i64 k.rows,.int .i64 PL]:=by rw [hes7];simp [entCells]
   have HE7:Hid (Loose W7 0 78 3 (.slice E6 n7 k6) n7 (entCells es7)):=Hi (by
    rw [hent]
    exact hl6.keep ht7 fun j hj e=>hl6.ne HG6.out (by decide) (by rw [hj];exact congrArg some e))
   have HES7:Hid (∀ j,blk (.slice E6 n7 k6)=some j→More S w j):=Hi fun j hj=>by
    rcases hat with h2 | ⟨q,h2,h4⟩
    · exact .inl (HES.out j (h2.symm.trans hj))
    · have h3:=h2.symm.trans hj
      simp only [Option.some.injEq] at h3
      exact .inr (by omega)
   have HEC7:Hid (∀ j,blk (.slice E6 n7 k6)=some j→More (Core w g) w j):=Hi fun j hj=>by
    rcases hat with h2 | ⟨q,h2,h4⟩
    · exact .inl (HCO.out j (.inr (.inr (h2.symm.trans hj))))
    · have h3:=h2.symm.trans hj
      simp only [Option.some.injEq] at h3
      exact .inr (by omega)
   have HT7:Hid (Touch (Core w g) w W7):=Hi ((HT5.out.then (ht6.mono fun j _ e=>HCO.out j (.inr (.inr e)))).then (ht7.mono fun j _ e=>by rw [show j=g from e];exact HCG.out))
   have HG7:=Hi hg7
   have HB7:=Hi hb7
   have HN7:=Hi hn7
   rw [hn71]
   rw [← hW7]
   clear hW7 ht6 ht7 hg7 hb7 hl6 hm6 hent hat hsz6 hka hes7 HL6 HGR HAT HG6 HB6 z1 z2 z4 z5 y5 s1 s2 s4 hn71
   clear c0 c1 c2 c3 c4 c5 c6 fz
   obtain ⟨W8,hW8⟩:∃ W8,W8=W7.setCell ⟨g,0,none⟩ (.int .i64 (k.frames+1)):=⟨_,rfl⟩
   have hg8:W8.heap[g]? = some (.cells #[.int .i64 (k.frames+1),.int .i64 k.rows,.int .i64 k.number,.int .i64 k.since,.map (some b),.slice E6 n7 k6,.bool false] 82 (0,0)):=by rw [hW8];exact obj_set HG7.out 0 (.int .i64 (k.frames+1))
   have ht8:Touch (At g) W7 W8:=by rw [hW8];exact (Touch.refl (At g) W7).set 0 _
   have hb8:=ht8.obj HB7.out hne2
   obtain ⟨c0,c1,c2,c3,c4,c5,c6,fz⟩:=wk_cells HG7.out
   have hgl7:=obj_lt HG7.out
   have hw1:IntKind.i64.wrap (k.frames+1)=k.frames+1:=IntWalk.i64_in _ (by omega)
   have hw2:IntKind.i64.wrap (k.rows+f.rows)=k.rows+f.rows:=IntWalk.i64_in _ (by omega)
   have hw3:IntKind.i64.wrap (k.since+1)=k.since+1:=IntWalk.i64_in _ (by omega)
   have HG8:=Hi hg8
   have HT8:=Hi ht8
   have HB8:=Hi hb8
   clear hg8 ht8 hb8
   go_wp2_with fail
   rw [← hW8]
   clear hW8 c0 c1 c2 c3 c4 c5 c6 fz
   obtain ⟨c0,c1,c2,c3,c4,c5,c6,fz⟩:=wk_cells HG8.out
   have hgl8:=obj_lt HG8.out
   obtain ⟨⟨d0,d1,d2,d3,d4,d5,d6,d7,d8,d9,d10⟩,_⟩:=cells11 HB8.out
   go_region
   all_goals
    go_wp2
    go_ret
    have ht9:∀ x y,Touch (At g) W7 ((W8.drew.setCell ⟨g,1,none⟩ x).setCell ⟨g,3,none⟩ y):=fun x y=>((HT8.out.drew).set 1 x).set 3 y
    have hg9:((W8.drew.setCell ⟨g,1,none⟩ (.int .i64 (k.rows+f.rows))).setCell ⟨g,3,none⟩ (.int .i64 (k.since+1))).heap[g]? = some (.cells #[.int .i64 (k.frames+1),.int .i64 (k.rows+f.rows),.int .i64 k.number,.int .i64 (k.since+1),.map (some b),.slice E6 n7 k6,.bool false] 82 (0,0)):=obj_set (obj_set (show W8.drew.heap[g]? = _ from HG8.out) 1 _) 3 _
    refine ⟨rfl,?_,HT7.out.then ((ht9 _ _).mono fun j _ e=>by rw [show j=g from e];exact HCG.out),fun j hj=>by
     rcases (core_iff hg9 j).1 hj with h | h | h
     · exact .inl (HCO.out j (.inl h))
     · exact .inl (HCO.out j (.inr (.inl h)))
     · exact HEC7.out j h⟩
    rw [HKT.out]
    have hn7:=HN7.out
    subst hn7
    exact WkV.turn (S:=More S w) (k':={ k with frames:=k.frames+1,rows:=k.rows+f.rows,since:=k.since+1,closed:=false,entries:=es7 }) HG7.out hg9 (.inl hSg) hbg HM7.out HE7.out HES7.out (ht9 _ _)
 · go_simp
   refine hK.out _ _ ?_ (fun hHeld=>?_)
   · (try dsimp only);(refine ⟨by first | assumption | go_keep,by first | assumption | go_keep,by first | assumption | go_keep,?_⟩;first | assumption | exact HMO.out | exact obj_old HMO.out _ | exact obj_far (by assumption) hbg _)
   clear hK K
   try simp only [Act.put,List.setIfInBounds_toArray,List.set_cons_zero,List.set_cons_succ]
   refine wpAnyH_ready (rs:=[4]) (by kernel_rfl) (by simp) ?_
   refine AllReadyH.cons rfl (fun K hK=>?_) AllReadyH.nil
   go_simp
   refine hK.out _ _ ?_ (fun hHeld=>?_)
   · (try dsimp only);(refine ⟨by first | assumption | go_keep,by first | assumption | go_keep,by first | assumption | go_keep,?_⟩;first | assumption | exact HMO.out | exact obj_old HMO.out _ | exact obj_far (by assumption) hbg _)
   clear hK K
   try simp only [Act.put,List.setIfInBounds_toArray,List.set_cons_zero,List.set_cons_succ]
   refine wpAnyH_ready (rs:=[22]) (by kernel_rfl) (by simp) ?_
   refine AllReadyH.cons rfl (fun K hK=>?_) AllReadyH.nil
   refine step_append_rows 0 (by rfl) _ _ 32 78 (.agg #[.int .i64 0,.int .i64 0,.int .i64 0]) 3 24 (by rfl) Tryz.underlying32 info_entry rfl (by omega) (.slice E' k.entries.length c') k.entries.length (entCells k.entries) (by rfl) (HE5.out.below (((Keeps.drew W5).alloc _).below)) (some ⟨W5.heap.size,0,none⟩) 1 1 [.int .i64 a,.int .i64 k.rows,.int .i64 PL] (by rfl) (by rfl) (RowAt.new_at W5.drew _ _ _ _ rfl _ rfl) (by simp [Value.oneCell']) (by simp only [maxLen];omega) (by omega) (Nat.zero_le _) ?_
   intro v6 w6 hl6 hgr6 hat6
   obtain ⟨E6,k6,rfl,_⟩:=hl6.form
   have hka:Keeps W5 (W5.drew.alloc (.cells #[.int .i64 a,.int .i64 k.rows,.int .i64 PL] 78)):=(Keeps.drew W5).alloc _
   have hnb:blk (.slice E' k.entries.length c')≠some b:=HE5.out.ne_map HMO.out
   have hng:blk (.slice E' k.entries.length c')≠some g:=HE5.out.ne HG5.out (by decide)
   have hnf:blk (.slice E' k.entries.length c')≠some w.heap.size:=HE5.out.ne HB5.out (by decide)
   have hmo6:w6.heap[b]? = some (.map es clock):=(hgr6.block b (Nat.lt_of_lt_of_le hbl5 hka.size) (fun e=>hnb e.symm)).trans (obj_old HMO.out _)
   have hg6:=(hgr6.block g (Nat.lt_of_lt_of_le hgl5 hka.size) (fun e=>hng e.symm)).trans (obj_old (show W5.drew.heap[g]? = _ from HG5.out) _)
   have hb6:=(hgr6.block _ (Nat.lt_of_lt_of_le (obj_lt HB5.out) hka.size) (fun e=>hnf e.symm)).trans (obj_old (show W5.drew.heap[w.heap.size]? = _ from HB5.out) _)
   have z1:w6.cell? ⟨g,1,none⟩=some (.int .i64 k.rows):=by rw [obj_cell hg6];rfl
   have z2:w6.cell? ⟨g,2,none⟩=some (.int .i64 k.number):=by rw [obj_cell hg6];rfl
   have z4:w6.cell? ⟨g,4,none⟩=some (.map (some b)):=by rw [obj_cell hg6];rfl
   have z5:w6.cell? ⟨g,5,none⟩=some (.slice E' k.entries.length c'):=by rw [obj_cell hg6];rfl
   have y5:=obj_frozen hg6 5
   have HG6:=Hi hg6
   have HB6:=Hi hb6
   have HL6:=Hi hl6
   have HGR:=Hi hgr6
   have HAT:Hid (blk (.slice E6 (k.entries.length+1) k6)=blk (.slice E' k.entries.length c')∨∃ q,blk (.slice E6 (k.entries.length+1) k6)=some q∧W5.heap.size≤q):=Hi (hat6.imp id fun h=>⟨_,h,hka.size⟩)
   have hgs:=obj_set hg6 5 (.slice E6 (k.entries.length+1) k6)
   have s1:(w6.setCell ⟨g,5,none⟩ (.slice E6 (k.entries.length+1) k6)).cell? ⟨g,1,none⟩=some (.int .i64 k.rows):=by rw [obj_cell hgs];rfl
   have s2:(w6.setCell ⟨g,5,none⟩ (.slice E6 (k.entries.length+1) k6)).cell? ⟨g,2,none⟩=some (.int .i64 k.number):=by rw [obj_cell hgs];rfl
   have s4:(w6.setCell ⟨g,5,none⟩ (.slice E6 (k.entries.length+1) k6)).cell? ⟨g,4,none⟩=some (.map (some b)):=by rw [obj_cell hgs];rfl
   clear hgs
   clear hg6 hb6 hl6 hgr6 hat6 hka
   refine hK.out _ _ ?_ (fun hHeld=>?_)
   · (try dsimp only);(refine ⟨by first | assumption | go_keep,by first | assumption | go_keep,by first | assumption | go_keep,?_⟩;first | assumption | exact HMO.out | exact obj_old HMO.out _ | exact obj_far (by assumption) hbg _)
   clear hK K
   try simp only [Act.put,List.setIfInBounds_toArray,List.set_cons_zero,List.set_cons_succ]
   refine wpAnyH_take (i:=23) (v:=?_) rfl (by kernel_rfl) (by kernel_rfl) (by kernel_rfl) (fun _ _ _ h=>h) (Or.inl ⟨by rfl,?_⟩) (by assumption) ?_
   rotate_left
   · (intro w hSw;(try dsimp only at hSw);go_simp;try with_reducible rfl)
   try simp only [Act.put,List.setIfInBounds_toArray,List.set_cons_zero,List.set_cons_succ]
   refine wpAnyH_take (i:=24) (v:=?_) rfl (by kernel_rfl) (by kernel_rfl) (by kernel_rfl) (fun _ _ _ h=>h) (Or.inl ⟨by rfl,?_⟩) (by assumption) ?_
   rotate_left
   · (intro w hSw;(try dsimp only at hSw);go_simp;try with_reducible rfl)
   try simp only [Act.put,List.setIfInBounds_toArray,List.set_cons_zero,List.set_cons_succ]
   refine wpAnyH_ready (rs:=[25]) (by kernel_rfl) (by simp) ?_
   refine AllReadyH.cons rfl (fun K hK=>?_) AllReadyH.nil
   go_simp
   refine hK.out _ _ ?_ (fun hHeld=>?_)
   · (try dsimp only);(refine ⟨by first | assumption | go_keep,by first | assumption | go_keep,by first | assumption | go_keep,?_⟩;first | assumption | exact HMO.out | exact obj_old HMO.out _ | exact obj_far (by assumption) hbg _)
   clear hK K
   try simp only [Act.put,List.setIfInBounds_toArray,List.set_cons_zero,List.set_cons_succ]
   refine wpAnyH_done (by kernel_rfl) ?_ _
   obtain ⟨es7,hes7⟩:∃ es7,es7=k.entries++[⟨a,k.rows,PL⟩]:=⟨_,rfl⟩
   obtain ⟨n7,hn7⟩:∃ n7,n7=es7.length:=⟨_,rfl⟩
   have hn71:k.entries.length+1=n7:=by rw [hn7,hes7];simp
   rw [← hes7] at HKT
   have hka:Keeps W5 (W5.drew.alloc (.cells #[.int .i64 a,.int .i64 k.rows,.int .i64 PL] 78)):=(Keeps.drew W5).alloc _
   have ht6:Touch (fun j=>blk (.slice E' k.entries.length c')=some j) W5 w6:=(Touch.of_below hka.below fun j hj h=>absurd hj (by omega)).grown HGR.out fun j e _=>e
   obtain ⟨W7,hW7⟩:∃ W7,W7=w6.setCell ⟨g,5,none⟩ (.slice E6 n7 k6):=⟨_,rfl⟩
   have ht7:Touch (At g) w6 W7:=by rw [hW7];exact (Touch.refl (At g) w6).set 5 _
   have hg7:W7.heap[g]? = some (.cells #[.int .i64 k.frames,.int .i64 k.rows,.int .i64 k.number,.int .i64 k.since,.map (some b),.slice E6 n7 k6,.bool false] 82 (0,0)):=by rw [hW7];exact obj_set HG6.out 5 (.slice E6 n7 k6)
   have hb7:=ht7.obj HB6.out hne2
   have hl6:=HL6.out
   rw [hn71] at hl6
   have hat:=HAT.out
   rw [hn71] at hat
   have hsz6:W5.heap.size≤(W5.drew.alloc (.cells #[.int .i64 a,.int .i64 k.rows,.int .i64 PL] 78)).heap.size:=hka.size
   have hm6:MapS w6 (fun j=>More S w j∧j≠g∧blk (.slice E6 n7 k6)≠some j) b k.ks k.vs:=by
    have h1:=(HM5.out.mono (T:=fun j=>(S j∧j≠g∧blk (.slice E' k.entries.length c')≠some j)∧j<W5.heap.size) fun j hj h=>⟨h,hj⟩).touch ht6 fun j hj e=>hj.1.2.2 e
    refine h1.mono fun j _ h=>⟨.inl h.1.1,h.1.2.1,fun e=>?_⟩
    rcases hat with h2 | ⟨q,h2,h4⟩
    · exact h.1.2.2 (h2.symm.trans e)
    · have:=h.2
      have h3:=h2.symm.trans e
      simp only [Option.some.injEq] at h3
      omega
   have HM7:=Hi (hm6.touch ht7 fun j hj e=>hj.2.1 e)
   have hent:entCells es7=entCells k.entries++[.int .i64 a,.int .i64 k.rows,.int .i64 PL]:=by rw [hes7];simp [entCells]
   have HE7:Hid (Loose W7 0 78 3 (.slice E6 n7 k6) n7 (entCells es7)):=Hi (by
    rw [hent]
    exact hl6.keep ht7 fun j hj e=>hl6.ne HG6.out (by decide) (by rw [hj];exact congrArg some e))
   have HES7:Hid (∀ j,blk (.slice E6 n7 k6)=some j→More S w j):=Hi fun j hj=>by
    rcases hat with h2 | ⟨q,h2,h4⟩
    · exact .inl (HES.out j (h2.symm.trans hj))
    · have h3:=h2.symm.trans hj
      simp only [Option.some.injEq] at h3
      exact .inr (by omega)
   have HEC7:Hid (∀ j,blk (.slice E6 n7 k6)=some j→More (Core w g) w j):=Hi fun j hj=>by
    rcases hat with h2 | ⟨q,h2,h4⟩
    · exact .inl (HCO.out j (.inr (.inr (h2.symm.trans hj))))
    · have h3:=h2.symm.trans hj
      simp only [Option.some.injEq] at h3
      exact .inr (by omega)
   have HT7:Hid (Touch (Core w g) w W7):=Hi ((HT5.out.then (ht6.mono fun j _ e=>HCO.out j (.inr (.inr e)))).then (ht7.mono fun j _ e=>by rw [show j=g from e];exact HCG.out))
   have HG7:=Hi hg7
   have HB7:=Hi hb7
   have HN7:=Hi hn7
   rw [hn71]
   rw [← hW7]
   clear hW7 ht6 ht7 hg7 hb7 hl6 hm6 hent hat hsz6 hka hes7 HL6 HGR HAT HG6 HB6 z1 z2 z4 z5 y5 s1 s2 s4 hn71
   clear c0 c1 c2 c3 c4 c5 c6 fz
   obtain ⟨W8,hW8⟩:∃ W8,W8=W7.setCell ⟨g,0,none⟩ (.int .i64 (k.frames+1)):=⟨_,rfl⟩
   have hg8:W8.heap[g]? = some (.cells #[.int .i64 (k.frames+1),.int .i64 k.rows,.int .i64 k.number,.int .i64 k.since,.map (some b),.slice E6 n7 k6,.bool false] 82 (0,0)):=by rw [hW8];exact obj_set HG7.out 0 (.int .i64 (k.frames+1))
   have ht8:Touch (At g) W7 W8:=by rw [hW8];exact (Touch.refl (At g) W7).set 0 _
   have hb8:=ht8.obj HB7.out hne2
   obtain ⟨c0,c1,c2,c3,c4,c5,c6,fz⟩:=wk_cells HG7.out
   have hgl7:=obj_lt HG7.out
   have hw1:IntKind.i64.wrap (k.frames+1)=k.frames+1:=IntWalk.i64_in _ (by omega)
   have hw2:IntKind.i64.wrap (k.rows+f.rows)=k.rows+f.rows:=IntWalk.i64_in _ (by omega)
   have hw3:IntKind.i64.wrap (k.since+1)=k.since+1:=IntWalk.i64_in _ (by omega)
   have HG8:=Hi hg8
   have HT8:=Hi ht8
   have HB8:=Hi hb8
   clear hg8 ht8 hb8
   go_wp2_with fail
   rw [← hW8]
   clear hW8 c0 c1 c2 c3 c4 c5 c6 fz
   obtain ⟨c0,c1,c2,c3,c4,c5,c6,fz⟩:=wk_cells HG8.out
   have hgl8:=obj_lt HG8.out
   obtain ⟨⟨d0,d1,d2,d3,d4,d5,d6,d7,d8,d9,d10⟩,_⟩:=cells11 HB8.out
   go_region
   all_goals
    go_wp2
    go_ret
    have ht9:∀ x y,Touch (At g) W7 ((W8.drew.setCell ⟨g,1,none⟩ x).setCell ⟨g,3,none⟩ y):=fun x y=>((HT8.out.drew).set 1 x).set 3 y
    have hg9:((W8.drew.setCell ⟨g,1,none⟩ (.int .i64 (k.rows+f.rows))).setCell ⟨g,3,none⟩ (.int .i64 (k.since+1))).heap[g]? = some (.cells #[.int .i64 (k.frames+1),.int .i64 (k.rows+f.rows),.int .i64 k.number,.int .i64 (k.since+1),.map (some b),.slice E6 n7 k6,.bool false] 82 (0,0)):=obj_set (obj_set (show W8.drew.heap[g]? = _ from HG8.out) 1 _) 3 _
    refine ⟨rfl,?_,HT7.out.then ((ht9 _ _).mono fun j _ e=>by rw [show j=g from e];exact HCG.out),fun j hj=>by
     rcases (core_iff hg9 j).1 hj with h | h | h
     · exact .inl (HCO.out j (.inl h))
     · exact .inl (HCO.out j (.inr (.inl h)))
     · exact HEC7.out j h⟩
    rw [HKT.out]
    have hn7:=HN7.out
    subst hn7
    exact WkV.turn (S:=More S w) (k':={ k with frames:=k.frames+1,rows:=k.rows+f.rows,since:=k.since+1,closed:=false,entries:=es7 }) HG7.out hg9 (.inl hSg) hbg HM7.out HE7.out HES7.out (ht9 _ _)
end Go.Proofs.YtihodcnnappkbaaGreatDoor
namespace Go.Proofs.YtihodcnnappkbaaGreatDoor
open Go.RowKit Go.BigFrame
set_option linter.unusedVariables false
set_option linter.unusedSimpArgs false
theorem next_low (g:Nat) (S:Nat→Prop) (k:Wk) (A B E:Option Addr) (c d m:Nat) (f:Fr) (a:Int) (w:World) (hk:WkV w S g k) (hok:k.ok) (hf:FrS w (fun j=>j<w.heap.size∧¬S j) A B E f) (hfw:f.wf) (hTT:∀ w',Touch S w w'→Tabs w'∧Table w') (hSl:∀ j,S j→j<w.heap.size) :
 Calls Tryz.prog 13 #[.pointer (some ⟨g,0,none⟩),.agg (frCells A c B d E m f),.int .i64 a] w fun e w'=>e=.returned (.int .i64 (k.next f a).2)∧WkV w' (More S w) g (k.next f a).1∧Went w w' g:=by
 have quietly:∀ {e:Ending} {w':World} {v:Int},(e=.returned (.int .i64 v)∧Keeps w w')→e=.returned (.int .i64 v)∧WkV w' (More S w) g k∧Went w w' g:=fun h=>
  ⟨h.1,(hk.below h.2.below).mono fun j _ h=>.inl h,Went.of_keeps hk h.2⟩
 unfold Wk.next
 cases hout:outOf 1099511627776 a with
 | true=>exact (next_out g S k A B E c d m f a w hk hok hf hfw hTT hSl hout).mono fun e w' h=>quietly h
 | false=>
   simp only [Bool.false_eq_true,if_false]
   cases hq:encF f with
   | error er=>exact (next_unencoded g S k A B E c d m f a w hk hok hf hfw hTT hSl hout er hq).mono fun e w' h=>quietly h
   | ok l=>
     cases hfl:k.follows f a with
     | false=>
       simp only [Bool.false_eq_true,if_false]
       exact (next_astray g S k A B E c d m f a w hk hok hf hfw hTT hSl hout l hq hfl).mono fun e w' h=>quietly h
     | true=>
       simp only [if_true]
       obtain ⟨h | h | h,_⟩:=enc_kind hq
       · exact next_schema g S k A B E c d m f a w hk hok hf hfw hTT hSl hout l hq hfl h
       · by_cases hm:k.frames.tmod 4=0∧k.entries.length<64
         · exact next_entry g S k A B E c d m f a w hk hok hf hfw hTT hSl hout l hq hfl h hm.1 hm.2
         · exact next_plain g S k A B E c d m f a w hk hok hf hfw hTT hSl hout l hq hfl h hm
       · exact next_index g S k A B E c d m f a w hk hok hf hfw hTT hSl hout l hq hfl h
theorem scanNext_went (g:Nat) (S:Nat→Prop) (k:Wk) (A B E:Option Addr) (c d m:Nat) (f:Fr) (a:Int) (w:World) (hk:WkV w S g k) (hok:k.ok) (hf:FrS w (fun j=>j<w.heap.size∧¬S j) A B E f) (hfw:f.wf) (hTT:∀ w',Touch S w w'→Tabs w'∧Table w') :
 Calls Tryz.prog 13 #[.pointer (some ⟨g,0,none⟩),.agg (frCells A c B d E m f),.int .i64 a] w fun e w'=>e=.returned (.int .i64 (k.next f a).2)∧WkV w' (More S w) g (k.next f a).1∧Went w w' g:=
 (next_low g (fun j=>S j∧j<w.heap.size) k A B E c d m f a w hk.here hok (hf.mono fun j _ h=>⟨h.1,fun h2=>h.2 h2.1⟩) hfw (fun w' h=>hTT w' (h.mono fun _ _ h=>h.1)) fun j h=>h.2).mono fun e w' h=>
   ⟨h.1,h.2.1.mono fun j _ h=>h.elim (fun h=>.inl h.1) .inr,h.2.2⟩
theorem scanNext_calls (g:Nat) (S:Nat→Prop) (k:Wk) (A B E:Option Addr) (c d m:Nat) (f:Fr) (a:Int) (w:World) (hk:WkV w S g k) (hok:k.ok) (hf:FrS w (fun j=>j<w.heap.size∧¬S j) A B E f) (hfw:f.wf) (hTT:∀ w',Touch S w w'→Tabs w'∧Table w') :
 Calls Tryz.prog 13 #[.pointer (some ⟨g,0,none⟩),.agg (frCells A c B d E m f),.int .i64 a] w fun e w'=>e=.returned (.int .i64 (k.next f a).2)∧WkV w' (More S w) g (k.next f a).1∧Touch S w w':=
 (scanNext_went g S k A B E c d m f a w hk hok hf hfw hTT).mono fun e w' h=>⟨h.1,h.2.1,h.2.2.in hk⟩
end Go.Proofs.YtihodcnnappkbaaGreatDoor
