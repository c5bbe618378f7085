/-
  The walk of the reference's follows at a data frame. Condition: the walk stands for its lists; the frame reads. What an index frame is asked by the reference: plain. No condition. The walk of the reference's follows at an index frame. Condition: the walk stands for its lists; the frame reads. The walk of the reference's follows at an index frame. Condition: the walk stands for its lists; the frame reads. The walk of the reference's follows at an index frame. Condition: the walk stands for its lists; the frame reads. The program's walk against the reference's lists: plain. No condition. The program's walk and the reference's lists stay with one another: plain. No condition. The walk of the reference's follows. Condition: the walk stands for its lists; the frame reads.
-/
import Derived.Test.YtihodcnnappkbaaGreatDoorG24
import Derived.Deep.RegionHeld3
import Derived.Deep.RegionLaw
import Derived.BigRegion
import Derived.Test.YtihodcnnappkbaaGreatDoorG15
import Derived.Test.YtihodcnnappkbaaGreatDoorG14
set_option linter.unusedVariables false
set_option linter.unusedSimpArgs false
set_option maxHeartbeats 8000000
set_option maxRecDepth 20000
namespace Go.Proofs.YtihodcnnappkbaaGreatDoor
section
open Go.RowKit Go.BigFrame
attribute [local go_sem] run_storeF
def Rk.frames (r:Rk):Int:=framesFrom r.f0 r.L
def Rk.rows (r:Rk):Int:=rowsFrom r.r0 r.L
def Rk.fol2 (r:Rk) (f:Fr):Bool:=decide (0≤r.number)&&decide (f.number=r.number)&&decide (f.seq=r.frames)&&decide (f.first=r.rows)
theorem rkFollows_data (g:Nat) (S:Nat→Prop) (r:Rk) (A B E:Option Addr) (c d m:Nat) (f:Fr) (a:Int) (w:World) (hr:RkV w S g r) (aa:r.ok) (h2:f.kind=2) :
 Calls Tryz.prog 45 #[.pointer (some ⟨g,0,none⟩),.agg (frCells A c B d E m f),.int .i64 a] w fun e w'=>e=.returned (.bool (r.fol2 f))∧Keeps w w':=by
 obtain ⟨W,hW⟩:∃ W,W=w.alloc (.cells (frCells A c B d E m f) 36):=⟨_,rfl⟩
 have ae:Keeps w W:=by rw [hW];exact (Keeps.refl w).alloc _
 have ag:W.heap[w.heap.size]? = some (.cells (frCells A c B d E m f) 36 (0,0)):=by rw [hW];exact obj_new _ _
 have a8:=rkNumber_calls g S r W (hr.below ae.below)
 have ad:∀ X,Keeps w X→Calls Tryz.prog 46 #[.pointer (some ⟨g,0,none⟩)] X fun e w'=>e=.returned (.int .i64 r.frames)∧Keeps X w':=fun X hX=>rkFrames_calls g S r X (hr.below hX.below) aa
 have ac:∀ X,Keeps w X→Calls Tryz.prog 47 #[.pointer (some ⟨g,0,none⟩)] X fun e w'=>e=.returned (.int .i64 r.rows)∧Keeps X w':=fun X hX=>rkRows_calls g S r X (hr.below hX.below) aa
 have ak:=Hi ad
 have al:=Hi ac
 have a2:=Hi a8
 have a7:=Hi ae
 obtain ⟨R,hR⟩:∃ R,R=r.fol2 f:=⟨_,rfl⟩
 rw [← hR]
 unfold Rk.fol2 at hR
 unfold frCells at *
 rw [h2] at hW ag ⊢
 have a6:=Hi ag
 clear hr aa a8 ad ac ae ag h2
 generalize r.number=rn at *
 generalize r.frames=rf at *
 generalize r.rows=rr at *
 generalize f.number=fn at *
 generalize f.seq=fs at *
 generalize f.first=ff at *
 generalize f.rows=x1 at *
 generalize f.spot=x2 at *
 generalize f.frames=x3 at *
 generalize f.irows=x4 at *
 generalize f.cols.length=n1 at *
 generalize f.block.length=n2 at *
 generalize f.ents.length=n3 at *
 by_cases q1:0≤rn
 case neg=>
  have p1:decide (0≤rn)=false:=by simpa using q1
  have p2:rn<0:=by omega
  simp only [q1,decide_true,decide_false,Bool.and_true,Bool.and_false,Bool.true_and,Bool.false_and] at hR
  have HT:=Hi hR
  clear hR
  go_enter Tryz.func45,Tryz.ntmps45
  go_wp2_with fail
  rw [← hW]
  clear hW
  refine a2.out.mono ?_
  rintro e w1 ⟨rfl,a4⟩
  have a1:=Hi ((a4.below.block _ (obj_lt a6.out)).trans a6.out)
  obtain ⟨⟨d0,d1,d2,d3,d4,d5,d6,d7,d8,d9,d10⟩,_⟩:=cells11 a1.out
  have a5:=Hi (a7.out.trans a4)
  clear a4 a2 a6 a7
  go_wp2_with fail
  go_region
  all_goals
   go_wp2
   go_ret
   exact ⟨by rw [HT.out];rfl,a5.out.trans (Keeps.drew w1)⟩
 by_cases q2:fn=rn
 case neg=>
  have p2:(fn==rn)=false:=by simpa using q2
  simp only [q1,q2,decide_true,decide_false,Bool.and_true,Bool.and_false,Bool.true_and,Bool.false_and] at hR
  have HT:=Hi hR
  clear hR
  go_enter Tryz.func45,Tryz.ntmps45
  go_wp2_with fail
  rw [← hW]
  clear hW
  refine a2.out.mono ?_
  rintro e w1 ⟨rfl,a4⟩
  have a1:=Hi ((a4.below.block _ (obj_lt a6.out)).trans a6.out)
  obtain ⟨⟨d0,d1,d2,d3,d4,d5,d6,d7,d8,d9,d10⟩,_⟩:=cells11 a1.out
  have a5:=Hi (a7.out.trans a4)
  clear a4 a2 a6 a7
  go_wp2_with fail
  go_region
  all_goals
   go_wp2
   go_ret
   exact ⟨by rw [HT.out];rfl,a5.out.trans (Keeps.drew w1)⟩
 subst q2
 by_cases q3:fs=rf
 case neg=>
  have p3:(fs==rf)=false:=by simpa using q3
  simp only [q1,q3,decide_true,decide_false,Bool.and_true,Bool.and_false,Bool.true_and,Bool.false_and] at hR
  have HT:=Hi hR
  clear hR
  go_enter Tryz.func45,Tryz.ntmps45
  go_wp2_with fail
  rw [← hW]
  clear hW
  refine a2.out.mono ?_
  rintro e w1 ⟨rfl,a4⟩
  have a1:=Hi ((a4.below.block _ (obj_lt a6.out)).trans a6.out)
  obtain ⟨⟨d0,d1,d2,d3,d4,d5,d6,d7,d8,d9,d10⟩,_⟩:=cells11 a1.out
  have a5:=Hi (a7.out.trans a4)
  clear a4 a2 a6 a7
  go_wp2_with fail
  first
   | go_region_law (first
      | (go_simp;go_at_call 46;refine (ak.out w1.drew (a5.out.trans (Keeps.drew w1))).mono ?_
         rintro e w2 ⟨rfl,hk⟩
         have a0:Keeps w1 w2:=(Keeps.drew w1).trans hk
         have hx:=(a0.below.block _ (obj_lt a1.out)).trans a1.out
         have z1:w2.cell? ⟨w.heap.size,1,none⟩=_:=(cells11 hx).1.2.1
         have z3:w2.cell? ⟨w.heap.size,3,none⟩=_:=(cells11 hx).1.2.2.2.1
         have z4:w2.cell? ⟨w.heap.size,4,none⟩=_:=(cells11 hx).1.2.2.2.2.1
         have a3:=Hi a0
         clear hk a0 hx)
      | (go_simp;go_at_call 47;refine (al.out w2 (a5.out.trans a3.out)).mono ?_
         rintro e w3 ⟨rfl,hk⟩
         have a0:Keeps w1 w3:=a3.out.trans hk
         have hx:=(a0.below.block _ (obj_lt a1.out)).trans a1.out
         have y1:w3.cell? ⟨w.heap.size,1,none⟩=_:=(cells11 hx).1.2.1
         have y3:w3.cell? ⟨w.heap.size,3,none⟩=_:=(cells11 hx).1.2.2.2.1
         have y4:w3.cell? ⟨w.heap.size,4,none⟩=_:=(cells11 hx).1.2.2.2.2.1
         have a9:=Hi a0
         clear hk a0 hx))
   | fail
  all_goals
   go_wp2
   go_ret
   exact ⟨by rw [HT.out];rfl,a5.out.trans a3.out⟩
 subst q3
 by_cases q4:ff=rr
 case neg=>
  have p4:(ff==rr)=false:=by simpa using q4
  simp only [q1,q4,decide_true,decide_false,Bool.and_true,Bool.and_false,Bool.true_and,Bool.false_and] at hR
  have HT:=Hi hR
  clear hR
  go_enter Tryz.func45,Tryz.ntmps45
  go_wp2_with fail
  rw [← hW]
  clear hW
  refine a2.out.mono ?_
  rintro e w1 ⟨rfl,a4⟩
  have a1:=Hi ((a4.below.block _ (obj_lt a6.out)).trans a6.out)
  obtain ⟨⟨d0,d1,d2,d3,d4,d5,d6,d7,d8,d9,d10⟩,_⟩:=cells11 a1.out
  have a5:=Hi (a7.out.trans a4)
  clear a4 a2 a6 a7
  go_wp2_with fail
  first
   | go_region_law (first
      | (go_simp;go_at_call 46;refine (ak.out w1.drew (a5.out.trans (Keeps.drew w1))).mono ?_
         rintro e w2 ⟨rfl,hk⟩
         have a0:Keeps w1 w2:=(Keeps.drew w1).trans hk
         have hx:=(a0.below.block _ (obj_lt a1.out)).trans a1.out
         have z1:w2.cell? ⟨w.heap.size,1,none⟩=_:=(cells11 hx).1.2.1
         have z3:w2.cell? ⟨w.heap.size,3,none⟩=_:=(cells11 hx).1.2.2.2.1
         have z4:w2.cell? ⟨w.heap.size,4,none⟩=_:=(cells11 hx).1.2.2.2.2.1
         have a3:=Hi a0
         clear hk a0 hx)
      | (go_simp;go_at_call 47;refine (al.out w2 (a5.out.trans a3.out)).mono ?_
         rintro e w3 ⟨rfl,hk⟩
         have a0:Keeps w1 w3:=a3.out.trans hk
         have hx:=(a0.below.block _ (obj_lt a1.out)).trans a1.out
         have y1:w3.cell? ⟨w.heap.size,1,none⟩=_:=(cells11 hx).1.2.1
         have y3:w3.cell? ⟨w.heap.size,3,none⟩=_:=(cells11 hx).1.2.2.2.1
         have y4:w3.cell? ⟨w.heap.size,4,none⟩=_:=(cells11 hx).1.2.2.2.2.1
         have a9:=Hi a0
         clear hk a0 hx))
   | fail
  all_goals
   go_wp2
   go_ret
   exact ⟨by rw [HT.out];rfl,a5.out.trans a9.out⟩
 subst q4
 simp only [q1,decide_true,decide_false,Bool.and_true,Bool.and_false,Bool.true_and,Bool.false_and] at hR
 have HT:=Hi hR
 clear hR
 go_enter Tryz.func45,Tryz.ntmps45
 go_wp2_with fail
 rw [← hW]
 clear hW
 refine a2.out.mono ?_
 rintro e w1 ⟨rfl,a4⟩
 have a1:=Hi ((a4.below.block _ (obj_lt a6.out)).trans a6.out)
 obtain ⟨⟨d0,d1,d2,d3,d4,d5,d6,d7,d8,d9,d10⟩,_⟩:=cells11 a1.out
 have a5:=Hi (a7.out.trans a4)
 clear a4 a2 a6 a7
 go_wp2_with fail
 first
  | go_region_law (first
     | (go_simp;go_at_call 46;refine (ak.out w1.drew (a5.out.trans (Keeps.drew w1))).mono ?_
        rintro e w2 ⟨rfl,hk⟩
        have a0:Keeps w1 w2:=(Keeps.drew w1).trans hk
        have hx:=(a0.below.block _ (obj_lt a1.out)).trans a1.out
        have z1:w2.cell? ⟨w.heap.size,1,none⟩=_:=(cells11 hx).1.2.1
        have z3:w2.cell? ⟨w.heap.size,3,none⟩=_:=(cells11 hx).1.2.2.2.1
        have z4:w2.cell? ⟨w.heap.size,4,none⟩=_:=(cells11 hx).1.2.2.2.2.1
        have a3:=Hi a0
        clear hk a0 hx)
     | (go_simp;go_at_call 47;refine (al.out w2 (a5.out.trans a3.out)).mono ?_
        rintro e w3 ⟨rfl,hk⟩
        have a0:Keeps w1 w3:=a3.out.trans hk
        have hx:=(a0.below.block _ (obj_lt a1.out)).trans a1.out
        have y1:w3.cell? ⟨w.heap.size,1,none⟩=_:=(cells11 hx).1.2.1
        have y3:w3.cell? ⟨w.heap.size,3,none⟩=_:=(cells11 hx).1.2.2.2.1
        have y4:w3.cell? ⟨w.heap.size,4,none⟩=_:=(cells11 hx).1.2.2.2.2.1
        have a9:=Hi a0
        clear hk a0 hx))
  | fail
 all_goals
  go_wp2
  go_ret
  exact ⟨by rw [HT.out];rfl,a5.out.trans a9.out⟩
end
def Rk.fol3 (r:Rk) (f:Fr) (a:Int):Bool:=decide (f.spot=a)&&decide (f.frames=r.frames)&&decide (f.irows=r.rows)&&decide (f.ents=r.entries)
section
open Go.RowKit Go.BigFrame
attribute [local go_sem] run_storeF
theorem rkFollows_index_no (g:Nat) (S:Nat→Prop) (r:Rk) (A B E:Option Addr) (c d m:Nat) (f:Fr) (a:Int) (w:World) (hr:RkV w S g r) (aa:r.ok) (hn:r.entries.length≤17179869184) (hw:RowAt w E (entCells f.ents)∧f.ents.length≤17179869184) (h3:f.kind=3) (an:¬(f.spot=a∧f.frames=r.frames∧f.irows=r.rows)) :
 Calls Tryz.prog 45 #[.pointer (some ⟨g,0,none⟩),.agg (frCells A c B d E m f),.int .i64 a] w fun e w'=>e=.returned (.bool (r.fol3 f a))∧Keeps w w':=by
 obtain ⟨W,hW⟩:∃ W,W=w.alloc (.cells (frCells A c B d E m f) 36):=⟨_,rfl⟩
 have ae:Keeps w W:=by rw [hW];exact (Keeps.refl w).alloc _
 have ag:W.heap[w.heap.size]? = some (.cells (frCells A c B d E m f) 36 (0,0)):=by rw [hW];exact obj_new _ _
 have a8:=rkNumber_calls g S r W (hr.below ae.below)
 have ad:∀ X,Keeps w X→Calls Tryz.prog 46 #[.pointer (some ⟨g,0,none⟩)] X fun e w'=>e=.returned (.int .i64 r.frames)∧Keeps X w':=fun X hX=>rkFrames_calls g S r X (hr.below hX.below) aa
 have ac:∀ X,Keeps w X→Calls Tryz.prog 47 #[.pointer (some ⟨g,0,none⟩)] X fun e w'=>e=.returned (.int .i64 r.rows)∧Keeps X w':=fun X hX=>rkRows_calls g S r X (hr.below hX.below) aa
 have ak:=Hi ad
 have al:=Hi ac
 have a2:=Hi a8
 have a7:=Hi ae
 have ao:∀ X,Keeps w X→Calls Tryz.prog 51 #[.pointer (some ⟨g,0,none⟩)] X fun e w'=>∃ v,e=.returned v∧Loose w' X.heap.size 78 3 v r.entries.length (entCells r.entries)∧Keeps X w':=fun X hX=>rkEntries_calls g S r X (hr.below hX.below) aa
 have ap:∀ X A4 k4,Keeps w X→RowAt X A4 (entCells r.entries)→Calls Tryz.prog 33 #[.slice E f.ents.length m,.slice A4 r.entries.length k4] X fun e w'=>e=.returned (.bool (decide (f.ents=r.entries)))∧Keeps X w':=fun X A4 k4 hX am=>sameEntries_calls E A4 m k4 f.ents r.entries X hw.2 hn (hw.1.below hX.below) am
 have aC:=Hi ao
 have aD:=Hi ap
 obtain ⟨R,hR⟩:∃ R,R=r.fol3 f a:=⟨_,rfl⟩
 rw [← hR]
 unfold Rk.fol3 at hR
 unfold frCells at *
 rw [h3] at hW ag ⊢
 have a6:=Hi ag
 clear hr aa a8 ad ac ae ag h3 ao ap hn hw
 generalize decide (f.ents=r.entries)=p at *
 generalize entCells r.entries=xs at *
 generalize r.entries.length=ne at *
 generalize r.number=rn at *
 generalize r.frames=rf at *
 generalize r.rows=rr at *
 generalize f.number=fn at *
 generalize f.seq=fs at *
 generalize f.first=ff at *
 generalize f.rows=x1 at *
 generalize f.spot=x2 at *
 generalize f.frames=x3 at *
 generalize f.irows=x4 at *
 generalize f.cols.length=n1 at *
 generalize f.block.length=n2 at *
 generalize f.ents.length=n3 at *
 by_cases q1:x2=a
 case neg=>
  have p1:(x2==a)=false:=by simpa using q1
  clear an
  simp only [q1,decide_true,decide_false,Bool.and_true,Bool.and_false,Bool.true_and,Bool.false_and] at hR
  have HT:=Hi hR
  clear hR
  go_enter Tryz.func45,Tryz.ntmps45
  go_wp2_with fail
  rw [← hW]
  clear hW
  refine a2.out.mono ?_
  rintro e w1 ⟨rfl,a4⟩
  have a1:=Hi ((a4.below.block _ (obj_lt a6.out)).trans a6.out)
  obtain ⟨⟨d0,d1,d2,d3,d4,d5,d6,d7,d8,d9,d10⟩,_⟩:=cells11 a1.out
  have a5:=Hi (a7.out.trans a4)
  clear a4 a2 a6 a7
  go_wp2_with fail
  go_region
  all_goals
   go_wp2
   go_ret
   exact ⟨by rw [HT.out];rfl,a5.out.trans (Keeps.drew w1)⟩
 subst q1
 by_cases q2:x3=rf
 case neg=>
  have p2:(x3==rf)=false:=by simpa using q2
  clear an
  simp only [q2,decide_true,decide_false,Bool.and_true,Bool.and_false,Bool.true_and,Bool.false_and] at hR
  have HT:=Hi hR
  clear hR
  go_enter Tryz.func45,Tryz.ntmps45
  go_wp2_with fail
  rw [← hW]
  clear hW
  refine a2.out.mono ?_
  rintro e w1 ⟨rfl,a4⟩
  have a1:=Hi ((a4.below.block _ (obj_lt a6.out)).trans a6.out)
  obtain ⟨⟨d0,d1,d2,d3,d4,d5,d6,d7,d8,d9,d10⟩,_⟩:=cells11 a1.out
  have a5:=Hi (a7.out.trans a4)
  clear a4 a2 a6 a7
  go_wp2_with fail
  refine wp_region_held_drew (S:=fun w'=>w'.cell? ⟨w.heap.size,7,none⟩=some (.int .i64 x2)∧w'.cell? ⟨w.heap.size,8,none⟩=some (.int .i64 x3)∧w'.cell? ⟨w.heap.size,9,none⟩=some (.int .i64 x4)∧w'.cell? ⟨w.heap.size,10,none⟩=some (.slice E n3 m)) (by kernel_rfl) ?_ (fun hHeld=>?_)
  · (try dsimp only);(refine ⟨?_, ?_, ?_, ?_⟩ <;> first | assumption | go_keep)
  refine takeH 0 (v:=?_) rfl (by kernel_rfl) (by kernel_rfl) (by kernel_rfl) (fun _ _ _ h=>h) (Or.inl ⟨by first | kernel_rfl | rfl, ?_⟩) (by assumption) ?_
  rotate_left
  · (intro w h;(try dsimp only at h);go_simp;try with_reducible rfl)
  try simp only [Act.put,sT,sZ,sS]
  refine takeH 1 (v:=?_) rfl (by kernel_rfl) (by kernel_rfl) (by kernel_rfl) (fun _ _ _ h=>h) (Or.inl ⟨by first | kernel_rfl | rfl, ?_⟩) (by assumption) ?_
  rotate_left
  · (intro w h;(try dsimp only at h);go_simp;try with_reducible rfl)
  try simp only [Act.put,sT,sZ,sS]
  refine takeH 2 (v:=?_) rfl (by kernel_rfl) (by kernel_rfl) (by kernel_rfl) (fun _ _ _ h=>h) (Or.inl ⟨by first | kernel_rfl | rfl, ?_⟩) (by assumption) ?_
  rotate_left
  · (intro w h;(try dsimp only at h);go_simp;try with_reducible rfl)
  try simp only [Act.put,sT,sZ,sS]
  refine takeH 3 (v:=?_) rfl (by kernel_rfl) (by kernel_rfl) (by kernel_rfl) (fun _ _ _ h=>h) (Or.inl ⟨by first | kernel_rfl | rfl, ?_⟩) (by assumption) ?_
  rotate_left
  · (intro w h;(try dsimp only at h);go_simp;try with_reducible rfl)
  try simp only [Act.put,sT,sZ,sS]
  refine takeH 4 (v:=?_) rfl (by kernel_rfl) (by kernel_rfl) (by kernel_rfl) (fun _ _ _ h=>h) (Or.inl ⟨by first | kernel_rfl | rfl, ?_⟩) (by assumption) ?_
  rotate_left
  · (intro w h;(try dsimp only at h);go_simp;try with_reducible rfl)
  try simp only [Act.put,sT,sZ,sS]
  refine takeH 5 (v:=?_) rfl (by kernel_rfl) (by kernel_rfl) (by kernel_rfl) (fun _ _ _ h=>h) (Or.inl ⟨by first | kernel_rfl | rfl, ?_⟩) (by assumption) ?_
  rotate_left
  · (intro w h;(try dsimp only at h);go_simp;try with_reducible rfl)
  try simp only [Act.put,sT,sZ,sS]
  refine takeH 6 (v:=?_) rfl (by kernel_rfl) (by kernel_rfl) (by kernel_rfl) (fun _ _ _ h=>h) (Or.inl ⟨by first | kernel_rfl | rfl, ?_⟩) (by assumption) ?_
  rotate_left
  · (intro w h;(try dsimp only at h);go_simp;try with_reducible rfl)
  try simp only [Act.put,sT,sZ,sS]
  refine takeH 7 (v:=?_) rfl (by kernel_rfl) (by kernel_rfl) (by kernel_rfl) (fun _ _ _ h=>h) (Or.inl ⟨by first | kernel_rfl | rfl, ?_⟩) (by assumption) ?_
  rotate_left
  · (intro w h;(try dsimp only at h);go_simp;try with_reducible rfl)
  try simp only [Act.put,sT,sZ,sS]
  refine takeH 8 (v:=?_) rfl (by kernel_rfl) (by kernel_rfl) (by kernel_rfl) (fun _ _ _ h=>h) (Or.inl ⟨by first | kernel_rfl | rfl, ?_⟩) (by assumption) ?_
  rotate_left
  · (intro w h;(try dsimp only at h);go_simp;try with_reducible rfl)
  try simp only [Act.put,sT,sZ,sS]
  refine takeH 9 (v:=?_) rfl (by kernel_rfl) (by kernel_rfl) (by kernel_rfl) (fun _ _ _ h=>h) (Or.inl ⟨by first | kernel_rfl | rfl, ?_⟩) (by assumption) ?_
  rotate_left
  · (intro w h;(try dsimp only at h);go_simp;try with_reducible rfl)
  try simp only [Act.put,sT,sZ,sS]
  refine nextH 10 (by kernel_rfl) rfl (fun K hK=>?_)
  go_simp
  (try go_at_call 46)
  refine (ak.out w1.drew (a5.out.trans (Keeps.drew w1))).mono ?_
  rintro e w2 ⟨rfl,hk⟩
  have a0:Keeps w1 w2:=(Keeps.drew w1).trans hk
  have hx:=(a0.below.block _ (obj_lt a1.out)).trans a1.out
  have z7:w2.cell? ⟨w.heap.size,7,none⟩=_:=(cells11 hx).1.2.2.2.2.2.2.2.1
  have z8:w2.cell? ⟨w.heap.size,8,none⟩=_:=(cells11 hx).1.2.2.2.2.2.2.2.2.1
  have z9:w2.cell? ⟨w.heap.size,9,none⟩=_:=(cells11 hx).1.2.2.2.2.2.2.2.2.2.1
  have z10:w2.cell? ⟨w.heap.size,10,none⟩=_:=(cells11 hx).1.2.2.2.2.2.2.2.2.2.2
  have a3:=Hi a0
  clear hk a0 hx
  refine hK.out _ _ ?_ (fun hHeld=>?_)
  · (try dsimp only);(refine ⟨?_, ?_, ?_, ?_⟩ <;> first | assumption | go_keep)
  clear hK K
  try simp only [Act.put,sT,sZ,sS]
  refine takeH 11 (v:=?_) rfl (by kernel_rfl) (by kernel_rfl) (by kernel_rfl) (fun _ _ _ h=>h) (Or.inl ⟨by first | kernel_rfl | rfl, ?_⟩) (by assumption) ?_
  rotate_left
  · (intro w h;(try dsimp only at h);go_simp;try with_reducible rfl)
  try simp only [Act.put,sT,sZ,sS]
  refine takeH 12 (v:=?_) rfl (by kernel_rfl) (by kernel_rfl) (by kernel_rfl) (fun _ _ _ h=>h) (Or.inl ⟨by first | kernel_rfl | rfl, ?_⟩) (by assumption) ?_
  rotate_left
  · (intro w h;(try dsimp only at h);go_simp;try with_reducible rfl)
  try simp only [Act.put,sT,sZ,sS]
  refine takeH 13 (v:=?_) rfl (by kernel_rfl) (by kernel_rfl) (by kernel_rfl) (fun _ _ _ h=>h) (Or.inl ⟨by first | kernel_rfl | rfl, ?_⟩) (by assumption) ?_
  rotate_left
  · (intro w h;(try dsimp only at h);go_simp;try with_reducible rfl)
  try simp only [Act.put,sT,sZ,sS]
  refine takeH 14 (v:=undef) rfl (by kernel_rfl) (by kernel_rfl) (by kernel_rfl) (fun _ _ _ h=>h) (Or.inr ⟨by first | kernel_rfl | rfl,rfl⟩) (by assumption) ?_
  try simp only [Act.put,sT,sZ,sS]
  refine takeH 15 (v:=undef) rfl (by kernel_rfl) (by kernel_rfl) (by kernel_rfl) (fun _ _ _ h=>h) (Or.inr ⟨by first | kernel_rfl | rfl,rfl⟩) (by assumption) ?_
  try simp only [Act.put,sT,sZ,sS]
  refine takeH 16 (v:=undef) rfl (by kernel_rfl) (by kernel_rfl) (by kernel_rfl) (fun _ _ _ h=>h) (Or.inr ⟨by first | kernel_rfl | rfl,rfl⟩) (by assumption) ?_
  try simp only [Act.put,sT,sZ,sS]
  refine takeH 17 (v:=undef) rfl (by kernel_rfl) (by kernel_rfl) (by kernel_rfl) (fun _ _ _ h=>h) (Or.inr ⟨by first | kernel_rfl | rfl,rfl⟩) (by assumption) ?_
  try simp only [Act.put,sT,sZ,sS]
  refine takeH 18 (v:=undef) rfl (by kernel_rfl) (by kernel_rfl) (by kernel_rfl) (fun _ _ _ h=>h) (Or.inr ⟨by first | kernel_rfl | rfl,rfl⟩) (by assumption) ?_
  try simp only [Act.put,sT,sZ,sS]
  refine takeH 19 (v:=undef) rfl (by kernel_rfl) (by kernel_rfl) (by kernel_rfl) (fun _ _ _ h=>h) (Or.inr ⟨by first | kernel_rfl | rfl,rfl⟩) (by assumption) ?_
  try simp only [Act.put,sT,sZ,sS]
  refine takeH 20 (v:=?_) rfl (by kernel_rfl) (by kernel_rfl) (by kernel_rfl) (fun _ _ _ h=>h) (Or.inl ⟨by first | kernel_rfl | rfl, ?_⟩) (by assumption) ?_
  rotate_left
  · (intro w h;(try dsimp only at h);go_simp;try with_reducible rfl)
  try simp only [Act.put,sT,sZ,sS]
  refine takeH 21 (v:=?_) rfl (by kernel_rfl) (by kernel_rfl) (by kernel_rfl) (fun _ _ _ h=>h) (Or.inl ⟨by first | kernel_rfl | rfl, ?_⟩) (by assumption) ?_
  rotate_left
  · (intro w h;(try dsimp only at h);go_simp;try with_reducible rfl)
  try simp only [Act.put,sT,sZ,sS]
  refine takeH 22 (v:=undef) rfl (by kernel_rfl) (by kernel_rfl) (by kernel_rfl) (fun _ _ _ h=>h) (Or.inr ⟨by first | kernel_rfl | rfl,rfl⟩) (by assumption) ?_
  try simp only [Act.put,sT,sZ,sS]
  refine takeH 23 (v:=undef) rfl (by kernel_rfl) (by kernel_rfl) (by kernel_rfl) (fun _ _ _ h=>h) (Or.inr ⟨by first | kernel_rfl | rfl,rfl⟩) (by assumption) ?_
  try simp only [Act.put,sT,sZ,sS]
  refine takeH 24 (v:=undef) rfl (by kernel_rfl) (by kernel_rfl) (by kernel_rfl) (fun _ _ _ h=>h) (Or.inr ⟨by first | kernel_rfl | rfl,rfl⟩) (by assumption) ?_
  try simp only [Act.put,sT,sZ,sS]
  refine takeH 25 (v:=undef) rfl (by kernel_rfl) (by kernel_rfl) (by kernel_rfl) (fun _ _ _ h=>h) (Or.inr ⟨by first | kernel_rfl | rfl,rfl⟩) (by assumption) ?_
  try simp only [Act.put,sT,sZ,sS]
  refine takeH 26 (v:=undef) rfl (by kernel_rfl) (by kernel_rfl) (by kernel_rfl) (fun _ _ _ h=>h) (Or.inr ⟨by first | kernel_rfl | rfl,rfl⟩) (by assumption) ?_
  try simp only [Act.put,sT,sZ,sS]
  refine takeH 27 (v:=undef) rfl (by kernel_rfl) (by kernel_rfl) (by kernel_rfl) (fun _ _ _ h=>h) (Or.inr ⟨by first | kernel_rfl | rfl,rfl⟩) (by assumption) ?_
  try simp only [Act.put,sT,sZ,sS]
  refine takeH 28 (v:=?_) rfl (by kernel_rfl) (by kernel_rfl) (by kernel_rfl) (fun _ _ _ h=>h) (Or.inl ⟨by first | kernel_rfl | rfl, ?_⟩) (by assumption) ?_
  rotate_left
  · (intro w h;(try dsimp only at h);go_simp;try with_reducible rfl)
  try simp only [Act.put,sT,sZ,sS]
  refine takeH 29 (v:=?_) rfl (by kernel_rfl) (by kernel_rfl) (by kernel_rfl) (fun _ _ _ h=>h) (Or.inl ⟨by first | kernel_rfl | rfl, ?_⟩) (by assumption) ?_
  rotate_left
  · (intro w h;(try dsimp only at h);go_simp;try with_reducible rfl)
  try simp only [Act.put,sT,sZ,sS]
  refine wpAnyH_done (by kernel_rfl) ?_ _
  all_goals
   go_wp2
   go_ret
   exact ⟨by rw [HT.out];rfl,a5.out.trans a3.out⟩
 subst q2
 have q3:¬x4=rr:=fun e=>an ⟨rfl,rfl,e⟩
 have p3:(x4==rr)=false:=by simpa using q3
 clear an
 simp only [q3,decide_true,decide_false,Bool.and_true,Bool.and_false,Bool.true_and,Bool.false_and] at hR
 have HT:=Hi hR
 clear hR
 go_enter Tryz.func45,Tryz.ntmps45
 go_wp2_with fail
 rw [← hW]
 clear hW
 refine a2.out.mono ?_
 rintro e w1 ⟨rfl,a4⟩
 have a1:=Hi ((a4.below.block _ (obj_lt a6.out)).trans a6.out)
 obtain ⟨⟨d0,d1,d2,d3,d4,d5,d6,d7,d8,d9,d10⟩,_⟩:=cells11 a1.out
 have a5:=Hi (a7.out.trans a4)
 clear a4 a2 a6 a7
 go_wp2_with fail
 refine wp_region_held_drew (S:=fun w'=>w'.cell? ⟨w.heap.size,7,none⟩=some (.int .i64 x2)∧w'.cell? ⟨w.heap.size,8,none⟩=some (.int .i64 x3)∧w'.cell? ⟨w.heap.size,9,none⟩=some (.int .i64 x4)∧w'.cell? ⟨w.heap.size,10,none⟩=some (.slice E n3 m)) (by kernel_rfl) ?_ (fun hHeld=>?_)
 · (try dsimp only);(refine ⟨?_, ?_, ?_, ?_⟩ <;> first | assumption | go_keep)
 refine takeH 0 (v:=?_) rfl (by kernel_rfl) (by kernel_rfl) (by kernel_rfl) (fun _ _ _ h=>h) (Or.inl ⟨by first | kernel_rfl | rfl, ?_⟩) (by assumption) ?_
 rotate_left
 · (intro w h;(try dsimp only at h);go_simp;try with_reducible rfl)
 try simp only [Act.put,sT,sZ,sS]
 refine takeH 1 (v:=?_) rfl (by kernel_rfl) (by kernel_rfl) (by kernel_rfl) (fun _ _ _ h=>h) (Or.inl ⟨by first | kernel_rfl | rfl, ?_⟩) (by assumption) ?_
 rotate_left
 · (intro w h;(try dsimp only at h);go_simp;try with_reducible rfl)
 try simp only [Act.put,sT,sZ,sS]
 refine takeH 2 (v:=?_) rfl (by kernel_rfl) (by kernel_rfl) (by kernel_rfl) (fun _ _ _ h=>h) (Or.inl ⟨by first | kernel_rfl | rfl, ?_⟩) (by assumption) ?_
 rotate_left
 · (intro w h;(try dsimp only at h);go_simp;try with_reducible rfl)
 try simp only [Act.put,sT,sZ,sS]
 refine takeH 3 (v:=?_) rfl (by kernel_rfl) (by kernel_rfl) (by kernel_rfl) (fun _ _ _ h=>h) (Or.inl ⟨by first | kernel_rfl | rfl, ?_⟩) (by assumption) ?_
 rotate_left
 · (intro w h;(try dsimp only at h);go_simp;try with_reducible rfl)
 try simp only [Act.put,sT,sZ,sS]
 refine takeH 4 (v:=?_) rfl (by kernel_rfl) (by kernel_rfl) (by kernel_rfl) (fun _ _ _ h=>h) (Or.inl ⟨by first | kernel_rfl | rfl, ?_⟩) (by assumption) ?_
 rotate_left
 · (intro w h;(try dsimp only at h);go_simp;try with_reducible rfl)
 try simp only [Act.put,sT,sZ,sS]
 refine takeH 5 (v:=?_) rfl (by kernel_rfl) (by kernel_rfl) (by kernel_rfl) (fun _ _ _ h=>h) (Or.inl ⟨by first | kernel_rfl | rfl, ?_⟩) (by assumption) ?_
 rotate_left
 · (intro w h;(try dsimp only at h);go_simp;try with_reducible rfl)
 try simp only [Act.put,sT,sZ,sS]
 refine takeH 6 (v:=?_) rfl (by kernel_rfl) (by kernel_rfl) (by kernel_rfl) (fun _ _ _ h=>h) (Or.inl ⟨by first | kernel_rfl | rfl, ?_⟩) (by assumption) ?_
 rotate_left
 · (intro w h;(try dsimp only at h);go_simp;try with_reducible rfl)
 try simp only [Act.put,sT,sZ,sS]
 refine takeH 7 (v:=?_) rfl (by kernel_rfl) (by kernel_rfl) (by kernel_rfl) (fun _ _ _ h=>h) (Or.inl ⟨by first | kernel_rfl | rfl, ?_⟩) (by assumption) ?_
 rotate_left
 · (intro w h;(try dsimp only at h);go_simp;try with_reducible rfl)
 try simp only [Act.put,sT,sZ,sS]
 refine takeH 8 (v:=?_) rfl (by kernel_rfl) (by kernel_rfl) (by kernel_rfl) (fun _ _ _ h=>h) (Or.inl ⟨by first | kernel_rfl | rfl, ?_⟩) (by assumption) ?_
 rotate_left
 · (intro w h;(try dsimp only at h);go_simp;try with_reducible rfl)
 try simp only [Act.put,sT,sZ,sS]
 refine takeH 9 (v:=?_) rfl (by kernel_rfl) (by kernel_rfl) (by kernel_rfl) (fun _ _ _ h=>h) (Or.inl ⟨by first | kernel_rfl | rfl, ?_⟩) (by assumption) ?_
 rotate_left
 · (intro w h;(try dsimp only at h);go_simp;try with_reducible rfl)
 try simp only [Act.put,sT,sZ,sS]
 refine nextH 10 (by kernel_rfl) rfl (fun K hK=>?_)
 go_simp
 (try go_at_call 46)
 refine (ak.out w1.drew (a5.out.trans (Keeps.drew w1))).mono ?_
 rintro e w2 ⟨rfl,hk⟩
 have a0:Keeps w1 w2:=(Keeps.drew w1).trans hk
 have hx:=(a0.below.block _ (obj_lt a1.out)).trans a1.out
 have z7:w2.cell? ⟨w.heap.size,7,none⟩=_:=(cells11 hx).1.2.2.2.2.2.2.2.1
 have z8:w2.cell? ⟨w.heap.size,8,none⟩=_:=(cells11 hx).1.2.2.2.2.2.2.2.2.1
 have z9:w2.cell? ⟨w.heap.size,9,none⟩=_:=(cells11 hx).1.2.2.2.2.2.2.2.2.2.1
 have z10:w2.cell? ⟨w.heap.size,10,none⟩=_:=(cells11 hx).1.2.2.2.2.2.2.2.2.2.2
 have a3:=Hi a0
 clear hk a0 hx
 refine hK.out _ _ ?_ (fun hHeld=>?_)
 · (try dsimp only);(refine ⟨?_, ?_, ?_, ?_⟩ <;> first | assumption | go_keep)
 clear hK K
 try simp only [Act.put,sT,sZ,sS]
 refine takeH 11 (v:=?_) rfl (by kernel_rfl) (by kernel_rfl) (by kernel_rfl) (fun _ _ _ h=>h) (Or.inl ⟨by first | kernel_rfl | rfl, ?_⟩) (by assumption) ?_
 rotate_left
 · (intro w h;(try dsimp only at h);go_simp;try with_reducible rfl)
 try simp only [Act.put,sT,sZ,sS]
 refine takeH 12 (v:=?_) rfl (by kernel_rfl) (by kernel_rfl) (by kernel_rfl) (fun _ _ _ h=>h) (Or.inl ⟨by first | kernel_rfl | rfl, ?_⟩) (by assumption) ?_
 rotate_left
 · (intro w h;(try dsimp only at h);go_simp;try with_reducible rfl)
 try simp only [Act.put,sT,sZ,sS]
 refine takeH 13 (v:=?_) rfl (by kernel_rfl) (by kernel_rfl) (by kernel_rfl) (fun _ _ _ h=>h) (Or.inl ⟨by first | kernel_rfl | rfl, ?_⟩) (by assumption) ?_
 rotate_left
 · (intro w h;(try dsimp only at h);go_simp;try with_reducible rfl)
 try simp only [Act.put,sT,sZ,sS]
 refine takeH 14 (v:=?_) rfl (by kernel_rfl) (by kernel_rfl) (by kernel_rfl) (fun _ _ _ h=>h) (Or.inl ⟨by first | kernel_rfl | rfl, ?_⟩) (by assumption) ?_
 rotate_left
 · (intro w h;(try dsimp only at h);go_simp;try with_reducible rfl)
 try simp only [Act.put,sT,sZ,sS]
 refine takeH 15 (v:=?_) rfl (by kernel_rfl) (by kernel_rfl) (by kernel_rfl) (fun _ _ _ h=>h) (Or.inl ⟨by first | kernel_rfl | rfl, ?_⟩) (by assumption) ?_
 rotate_left
 · (intro w h;(try dsimp only at h);go_simp;try with_reducible rfl)
 try simp only [Act.put,sT,sZ,sS]
 refine takeH 16 (v:=?_) rfl (by kernel_rfl) (by kernel_rfl) (by kernel_rfl) (fun _ _ _ h=>h) (Or.inl ⟨by first | kernel_rfl | rfl, ?_⟩) (by assumption) ?_
 rotate_left
 · (intro w h;(try dsimp only at h);go_simp;try with_reducible rfl)
 try simp only [Act.put,sT,sZ,sS]
 refine takeH 17 (v:=?_) rfl (by kernel_rfl) (by kernel_rfl) (by kernel_rfl) (fun _ _ _ h=>h) (Or.inl ⟨by first | kernel_rfl | rfl, ?_⟩) (by assumption) ?_
 rotate_left
 · (intro w h;(try dsimp only at h);go_simp;try with_reducible rfl)
 try simp only [Act.put,sT,sZ,sS]
 refine nextH 18 (by kernel_rfl) rfl (fun K hK=>?_)
 go_simp
 (try go_at_call 47)
 refine (al.out w2 (a5.out.trans a3.out)).mono ?_
 rintro e w3 ⟨rfl,hk⟩
 have a0:Keeps w1 w3:=a3.out.trans hk
 have hx:=(a0.below.block _ (obj_lt a1.out)).trans a1.out
 have y7:w3.cell? ⟨w.heap.size,7,none⟩=_:=(cells11 hx).1.2.2.2.2.2.2.2.1
 have y8:w3.cell? ⟨w.heap.size,8,none⟩=_:=(cells11 hx).1.2.2.2.2.2.2.2.2.1
 have y9:w3.cell? ⟨w.heap.size,9,none⟩=_:=(cells11 hx).1.2.2.2.2.2.2.2.2.2.1
 have y10:w3.cell? ⟨w.heap.size,10,none⟩=_:=(cells11 hx).1.2.2.2.2.2.2.2.2.2.2
 have a9:=Hi a0
 clear hk a0 hx
 refine hK.out _ _ ?_ (fun hHeld=>?_)
 · (try dsimp only);(refine ⟨?_, ?_, ?_, ?_⟩ <;> first | assumption | go_keep)
 clear hK K
 try simp only [Act.put,sT,sZ,sS]
 refine takeH 19 (v:=?_) rfl (by kernel_rfl) (by kernel_rfl) (by kernel_rfl) (fun _ _ _ h=>h) (Or.inl ⟨by first | kernel_rfl | rfl, ?_⟩) (by assumption) ?_
 rotate_left
 · (intro w h;(try dsimp only at h);go_simp;try with_reducible rfl)
 try simp only [Act.put,sT,sZ,sS]
 refine takeH 20 (v:=?_) rfl (by kernel_rfl) (by kernel_rfl) (by kernel_rfl) (fun _ _ _ h=>h) (Or.inl ⟨by first | kernel_rfl | rfl, ?_⟩) (by assumption) ?_
 rotate_left
 · (intro w h;(try dsimp only at h);go_simp;try with_reducible rfl)
 try simp only [Act.put,sT,sZ,sS]
 refine takeH 21 (v:=?_) rfl (by kernel_rfl) (by kernel_rfl) (by kernel_rfl) (fun _ _ _ h=>h) (Or.inl ⟨by first | kernel_rfl | rfl, ?_⟩) (by assumption) ?_
 rotate_left
 · (intro w h;(try dsimp only at h);go_simp;try with_reducible rfl)
 try simp only [Act.put,sT,sZ,sS]
 refine takeH 22 (v:=undef) rfl (by kernel_rfl) (by kernel_rfl) (by kernel_rfl) (fun _ _ _ h=>h) (Or.inr ⟨by first | kernel_rfl | rfl,rfl⟩) (by assumption) ?_
 try simp only [Act.put,sT,sZ,sS]
 refine takeH 23 (v:=undef) rfl (by kernel_rfl) (by kernel_rfl) (by kernel_rfl) (fun _ _ _ h=>h) (Or.inr ⟨by first | kernel_rfl | rfl,rfl⟩) (by assumption) ?_
 try simp only [Act.put,sT,sZ,sS]
 refine takeH 24 (v:=undef) rfl (by kernel_rfl) (by kernel_rfl) (by kernel_rfl) (fun _ _ _ h=>h) (Or.inr ⟨by first | kernel_rfl | rfl,rfl⟩) (by assumption) ?_
 try simp only [Act.put,sT,sZ,sS]
 refine takeH 25 (v:=undef) rfl (by kernel_rfl) (by kernel_rfl) (by kernel_rfl) (fun _ _ _ h=>h) (Or.inr ⟨by first | kernel_rfl | rfl,rfl⟩) (by assumption) ?_
 try simp only [Act.put,sT,sZ,sS]
 refine takeH 26 (v:=undef) rfl (by kernel_rfl) (by kernel_rfl) (by kernel_rfl) (fun _ _ _ h=>h) (Or.inr ⟨by first | kernel_rfl | rfl,rfl⟩) (by assumption) ?_
 try simp only [Act.put,sT,sZ,sS]
 refine takeH 27 (v:=undef) rfl (by kernel_rfl) (by kernel_rfl) (by kernel_rfl) (fun _ _ _ h=>h) (Or.inr ⟨by first | kernel_rfl | rfl,rfl⟩) (by assumption) ?_
 try simp only [Act.put,sT,sZ,sS]
 refine takeH 28 (v:=?_) rfl (by kernel_rfl) (by kernel_rfl) (by kernel_rfl) (fun _ _ _ h=>h) (Or.inl ⟨by first | kernel_rfl | rfl, ?_⟩) (by assumption) ?_
 rotate_left
 · (intro w h;(try dsimp only at h);go_simp;try with_reducible rfl)
 try simp only [Act.put,sT,sZ,sS]
 refine takeH 29 (v:=?_) rfl (by kernel_rfl) (by kernel_rfl) (by kernel_rfl) (fun _ _ _ h=>h) (Or.inl ⟨by first | kernel_rfl | rfl, ?_⟩) (by assumption) ?_
 rotate_left
 · (intro w h;(try dsimp only at h);go_simp;try with_reducible rfl)
 try simp only [Act.put,sT,sZ,sS]
 refine wpAnyH_done (by kernel_rfl) ?_ _
 all_goals
  go_wp2
  go_ret
  exact ⟨by rw [HT.out];rfl,a5.out.trans a9.out⟩
theorem rkFollows_index_yes (g:Nat) (S:Nat→Prop) (r:Rk) (A B E:Option Addr) (c d m:Nat) (f:Fr) (a:Int) (w:World) (hr:RkV w S g r) (aa:r.ok) (hn:r.entries.length≤17179869184) (hw:RowAt w E (entCells f.ents)∧f.ents.length≤17179869184) (h3:f.kind=3) (heq:f.spot=a∧f.frames=r.frames∧f.irows=r.rows) :
 Calls Tryz.prog 45 #[.pointer (some ⟨g,0,none⟩),.agg (frCells A c B d E m f),.int .i64 a] w fun e w'=>e=.returned (.bool (r.fol3 f a))∧Keeps w w':=by
 obtain ⟨W,hW⟩:∃ W,W=w.alloc (.cells (frCells A c B d E m f) 36):=⟨_,rfl⟩
 have ae:Keeps w W:=by rw [hW];exact (Keeps.refl w).alloc _
 have ag:W.heap[w.heap.size]? = some (.cells (frCells A c B d E m f) 36 (0,0)):=by rw [hW];exact obj_new _ _
 have a8:=rkNumber_calls g S r W (hr.below ae.below)
 have ad:∀ X,Keeps w X→Calls Tryz.prog 46 #[.pointer (some ⟨g,0,none⟩)] X fun e w'=>e=.returned (.int .i64 r.frames)∧Keeps X w':=fun X hX=>rkFrames_calls g S r X (hr.below hX.below) aa
 have ac:∀ X,Keeps w X→Calls Tryz.prog 47 #[.pointer (some ⟨g,0,none⟩)] X fun e w'=>e=.returned (.int .i64 r.rows)∧Keeps X w':=fun X hX=>rkRows_calls g S r X (hr.below hX.below) aa
 have ak:=Hi ad
 have al:=Hi ac
 have a2:=Hi a8
 have a7:=Hi ae
 have ao:∀ X,Keeps w X→Calls Tryz.prog 51 #[.pointer (some ⟨g,0,none⟩)] X fun e w'=>∃ v,e=.returned v∧Loose w' X.heap.size 78 3 v r.entries.length (entCells r.entries)∧Keeps X w':=fun X hX=>rkEntries_calls g S r X (hr.below hX.below) aa
 have ap:∀ X A4 k4,Keeps w X→RowAt X A4 (entCells r.entries)→Calls Tryz.prog 33 #[.slice E f.ents.length m,.slice A4 r.entries.length k4] X fun e w'=>e=.returned (.bool (decide (f.ents=r.entries)))∧Keeps X w':=fun X A4 k4 hX am=>sameEntries_calls E A4 m k4 f.ents r.entries X hw.2 hn (hw.1.below hX.below) am
 have aC:=Hi ao
 have aD:=Hi ap
 obtain ⟨R,hR⟩:∃ R,R=r.fol3 f a:=⟨_,rfl⟩
 rw [← hR]
 unfold Rk.fol3 at hR
 unfold frCells at *
 rw [h3] at hW ag ⊢
 have a6:=Hi ag
 clear hr aa a8 ad ac ae ag h3 ao ap hn hw
 generalize decide (f.ents=r.entries)=p at *
 generalize entCells r.entries=xs at *
 generalize r.entries.length=ne at *
 generalize r.number=rn at *
 generalize r.frames=rf at *
 generalize r.rows=rr at *
 generalize f.number=fn at *
 generalize f.seq=fs at *
 generalize f.first=ff at *
 generalize f.rows=x1 at *
 generalize f.spot=x2 at *
 generalize f.frames=x3 at *
 generalize f.irows=x4 at *
 generalize f.cols.length=n1 at *
 generalize f.block.length=n2 at *
 generalize f.ents.length=n3 at *
 obtain ⟨q1,q2,q3⟩:=heq
 subst q1 q2 q3
 simp only [decide_true,decide_false,Bool.and_true,Bool.and_false,Bool.true_and,Bool.false_and] at hR
 have HT:=Hi hR
 clear hR
 go_enter Tryz.func45,Tryz.ntmps45
 go_wp2_with fail
 rw [← hW]
 clear hW
 refine a2.out.mono ?_
 rintro e w1 ⟨rfl,a4⟩
 have a1:=Hi ((a4.below.block _ (obj_lt a6.out)).trans a6.out)
 obtain ⟨⟨d0,d1,d2,d3,d4,d5,d6,d7,d8,d9,d10⟩,_⟩:=cells11 a1.out
 have a5:=Hi (a7.out.trans a4)
 clear a4 a2 a6 a7
 go_wp2_with fail
 go_region_held3 (fun w'=>w'.cell? ⟨w.heap.size,7,none⟩=some (.int .i64 x2)∧w'.cell? ⟨w.heap.size,8,none⟩=some (.int .i64 x3)∧w'.cell? ⟨w.heap.size,9,none⟩=some (.int .i64 x4)∧w'.cell? ⟨w.heap.size,10,none⟩=some (.slice E n3 m)) (go_keep) (first
  | (go_simp;go_at_call 46;refine (ak.out w1.drew (a5.out.trans (Keeps.drew w1))).mono ?_
     rintro e w2 ⟨rfl,hk⟩
     have a0:Keeps w1 w2:=(Keeps.drew w1).trans hk
     have hx:=(a0.below.block _ (obj_lt a1.out)).trans a1.out
     have z7:w2.cell? ⟨w.heap.size,7,none⟩=_:=(cells11 hx).1.2.2.2.2.2.2.2.1
     have z8:w2.cell? ⟨w.heap.size,8,none⟩=_:=(cells11 hx).1.2.2.2.2.2.2.2.2.1
     have z9:w2.cell? ⟨w.heap.size,9,none⟩=_:=(cells11 hx).1.2.2.2.2.2.2.2.2.2.1
     have z10:w2.cell? ⟨w.heap.size,10,none⟩=_:=(cells11 hx).1.2.2.2.2.2.2.2.2.2.2
     have a3:=Hi a0
     clear hk a0 hx)
  | (go_simp;go_at_call 47;refine (al.out w2 (a5.out.trans a3.out)).mono ?_
     rintro e w3 ⟨rfl,hk⟩
     have a0:Keeps w1 w3:=a3.out.trans hk
     have hx:=(a0.below.block _ (obj_lt a1.out)).trans a1.out
     have y7:w3.cell? ⟨w.heap.size,7,none⟩=_:=(cells11 hx).1.2.2.2.2.2.2.2.1
     have y8:w3.cell? ⟨w.heap.size,8,none⟩=_:=(cells11 hx).1.2.2.2.2.2.2.2.2.1
     have y9:w3.cell? ⟨w.heap.size,9,none⟩=_:=(cells11 hx).1.2.2.2.2.2.2.2.2.2.1
     have y10:w3.cell? ⟨w.heap.size,10,none⟩=_:=(cells11 hx).1.2.2.2.2.2.2.2.2.2.2
     have a9:=Hi a0
     clear hk a0 hx)
  | (go_simp;go_at_call 51;refine (aC.out w3 (a5.out.trans a9.out)).mono ?_
     rintro e w4 ⟨v4,rfl,aF,hk⟩
     obtain ⟨A4,k4,rfl,_,aj,_⟩:=aF.form
     have a0:Keeps w1 w4:=a9.out.trans hk
     have hx:=(a0.below.block _ (obj_lt a1.out)).trans a1.out
     have t7:w4.cell? ⟨w.heap.size,7,none⟩=_:=(cells11 hx).1.2.2.2.2.2.2.2.1
     have t8:w4.cell? ⟨w.heap.size,8,none⟩=_:=(cells11 hx).1.2.2.2.2.2.2.2.2.1
     have t9:w4.cell? ⟨w.heap.size,9,none⟩=_:=(cells11 hx).1.2.2.2.2.2.2.2.2.2.1
     have t10:w4.cell? ⟨w.heap.size,10,none⟩=_:=(cells11 hx).1.2.2.2.2.2.2.2.2.2.2
     have au:=Hi a0
     have ar:=Hi aj
     clear hk a0 hx aF aj)
  | (go_simp;go_at_call 33;refine (aD.out w4 A4 k4 (a5.out.trans au.out) ar.out).mono ?_
     rintro e w5 ⟨rfl,hk⟩
     have a0:Keeps w1 w5:=au.out.trans hk
     have hx:=(a0.below.block _ (obj_lt a1.out)).trans a1.out
     have s7:w5.cell? ⟨w.heap.size,7,none⟩=_:=(cells11 hx).1.2.2.2.2.2.2.2.1
     have s8:w5.cell? ⟨w.heap.size,8,none⟩=_:=(cells11 hx).1.2.2.2.2.2.2.2.2.1
     have s9:w5.cell? ⟨w.heap.size,9,none⟩=_:=(cells11 hx).1.2.2.2.2.2.2.2.2.2.1
     have s10:w5.cell? ⟨w.heap.size,10,none⟩=_:=(cells11 hx).1.2.2.2.2.2.2.2.2.2.2
     have aA:=Hi a0
     clear hk a0 hx))
 all_goals
  go_wp2
  go_ret
  exact ⟨by rw [HT.out];rfl,a5.out.trans aA.out⟩
end
section
open Go.RowKit Go.BigFrame
theorem rkFollows_index (g:Nat) (S:Nat→Prop) (r:Rk) (A B E:Option Addr) (c d m:Nat) (f:Fr) (a:Int) (w:World) (hr:RkV w S g r) (aa:r.ok) (hn:r.entries.length≤17179869184) (hw:RowAt w E (entCells f.ents)∧f.ents.length≤17179869184) (h3:f.kind=3) :
 Calls Tryz.prog 45 #[.pointer (some ⟨g,0,none⟩),.agg (frCells A c B d E m f),.int .i64 a] w fun e w'=>e=.returned (.bool (r.fol3 f a))∧Keeps w w':=by
 by_cases h:f.spot=a∧f.frames=r.frames∧f.irows=r.rows
 · exact rkFollows_index_yes g S r A B E c d m f a w hr aa hn hw h3 h
 · exact rkFollows_index_no g S r A B E c d m f a w hr aa hn hw h3 h
end
section
open Go.RowKit Go.BigFrame
def Rk.snoc (r:Rk) (p:Fr×Int):Rk:={ r with L:=r.L++[p] }
theorem framesFrom_snoc (p:Fr×Int):∀ (l:List (Fr×Int)) (v:Int),framesFrom v (l++[p])=if p.1.kind=2 then framesFrom v l+1 else framesFrom v l
 | [],v=>by simp [framesFrom]
 | q :: l,v=>by simp only [List.cons_append,framesFrom];exact framesFrom_snoc p l _
theorem rowsFrom_snoc (p:Fr×Int):∀ (l:List (Fr×Int)) (v:Int),rowsFrom v (l++[p])=if p.1.kind=2 then rowsFrom v l+p.1.rows else rowsFrom v l
 | [],v=>by simp [rowsFrom]
 | q :: l,v=>by simp only [List.cons_append,rowsFrom];exact rowsFrom_snoc p l _
theorem numberFrom_snoc (p:Fr×Int):∀ (l:List (Fr×Int)) (v:Int),numberFrom v (l++[p])=if numberFrom v l<p.1.number then p.1.number else numberFrom v l
 | [],v=>rfl
 | q :: l,v=>by simp only [List.cons_append,numberFrom];exact numberFrom_snoc p l _
theorem placeFrom_snoc (n:Int) (p:Fr×Int):∀ (l:List (Fr×Int)) (v:Int×Bool),placeFrom n v (l++[p])=if p.1.number=n then (p.2,true) else placeFrom n v l
 | [],v=>by simp [placeFrom]
 | q :: l,v=>by simp only [List.cons_append,placeFrom];exact placeFrom_snoc n p l _
theorem schemaFrom_snoc (n:Int) (p:Fr×Int):∀ (l:List (Fr×Int)),schemaFrom n (l++[p])=match schemaFrom n l with | some x=>some x | none=>if p.1.number=n then some p.1.cols else none
 | []=>by simp [schemaFrom]
 | q :: l=>by
   simp only [List.cons_append,schemaFrom]
   by_cases h:q.1.number=n
   · simp [h]
   · simp only [h,if_false];exact schemaFrom_snoc n p l
theorem sinceFrom_snoc (p:Fr×Int):∀ (l:List (Fr×Int)) (v:Int×Bool),sinceFrom v (l++[p])=if p.1.kind=1 then (0,true) else if p.1.kind=2 then ((sinceFrom v l).1+1,(sinceFrom v l).2) else sinceFrom v l
 | [],v=>by simp [sinceFrom]
 | q :: l,v=>by simp only [List.cons_append,sinceFrom];exact sinceFrom_snoc p l _
theorem entsFrom_snoc (p:Fr×Int):∀ (l:List (Fr×Int)) (s:Es),entsFrom s (l++[p])=(entsFrom s l).step p
 | [],s=>by simp [entsFrom]
 | q :: l,s=>by simp only [List.cons_append,entsFrom];exact entsFrom_snoc p l _
theorem Rk.snoc_schemas (r:Rk) (p:Fr×Int):(r.snoc p).schemas=if p.1.kind=1 then r.schemas++[p] else r.schemas:=by
 unfold Rk.schemas Rk.snoc
 simp only [List.filter_append]
 by_cases h:p.1.kind=1 <;> simp [isSch,h]
theorem Rk.snoc_closed (r:Rk) (p:Fr×Int):(r.snoc p).closed=decide (p.1.kind=3):=by
 unfold Rk.closed Rk.snoc
 simp
/-! ### the map -/
theorem Wk.put_at {k:Wk} (hl:k.ks.length=k.vs.length) (n:Int) (x:List Col×Int) (m:Int):(k.put n x).at m=if m=n then some x else k.at m:=by
 have aq:∀ (l:List Int) (i:Nat),keyPos n l i=none→∀ m,m≠n→keyPos m (l++[n]) i=keyPos m l i:=by
  intro l
  induction l with
  | nil=>intro i _ m hm;simp [keyPos,hm]
  | cons a l ih=>
    intro i h m hm
    rw [List.cons_append,keyPos,keyPos]
    by_cases e:m=a
    · rw [if_pos e,if_pos e]
    · rw [if_neg e,if_neg e]
      rw [keyPos] at h
      by_cases e2:n=a
      · rw [if_pos e2] at h;cases h
      · rw [if_neg e2] at h;exact ih (i+1) h m hm
 have ab:∀ (l:List Int) (i:Nat),keyPos n l i=none→keyPos n (l++[n]) i=some (i+l.length):=by
  intro l
  induction l with
  | nil=>intro i _;simp [keyPos]
  | cons a l ih=>
    intro i h
    rw [keyPos] at h
    by_cases e2:n=a
    · rw [if_pos e2] at h;cases h
    · rw [if_neg e2] at h
      rw [List.cons_append,keyPos,if_neg e2,ih (i+1) h,List.length_cons]
      congr 1
      omega
 unfold Wk.put Wk.at
 cases hp:keyPos n k.ks 0 with
 | some j=>
   simp only
   by_cases h:m=n
   · subst h
     rw [hp,if_pos rfl]
     have hj:=(keyPos_le hp).2
     simp only [Option.bind_some]
     rw [List.getElem?_set_self (by omega)]
   · rw [if_neg h]
     cases hm:keyPos m k.ks 0 with
     | none=>rfl
     | some i=>
       simp only [Option.bind_some]
       have an:j≠i:=fun e=>by
        have h1:=keyPos_at hp
        have h2:=keyPos_at hm
        rw [e] at h1
        rw [h1] at h2
        cases h2
        exact h rfl
       rw [List.getElem?_set_ne an]
 | none=>
   simp only
   by_cases h:m=n
   · subst h
     rw [ab _ _ hp,if_pos rfl]
     simp only [Option.bind_some]
     rw [List.getElem?_append_right (by omega),show 0+k.ks.length-k.vs.length=0 by omega]
     rfl
   · rw [if_neg h,aq _ _ hp m h]
     cases hm:keyPos m k.ks 0 with
     | none=>rfl
     | some i=>
       simp only [Option.bind_some]
       have:=(keyPos_le hm).2
       rw [List.getElem?_append_left (by omega)]
structure Match (k:Wk) (r:Rk):Prop where
 len:k.ks.length=k.vs.length
 es:entsFrom ⟨r.E0,r.f0,r.r0,lastFrom 0 r.S0⟩ r.L=⟨k.entries,k.frames,k.rows,placeOf (k.at k.number)⟩
 fr:r.frames=k.frames
 rw:r.rows=k.rows
 num:r.number=k.number
 sin:sinceFrom (0,decide (0<r.S0.length)) r.L=(k.since,decide (0≤k.number))
 s0:k.number<0→k.since=0
 cl:r.closed=k.closed
 pl:∀ n,r.place n=(placeOf (k.at n),(k.at n).isSome)
 sc:∀ n,(r.schema n).isSome=(k.at n).isSome∧sameCols (colsOf (k.at n)) (colsIn (r.schema n))=true
 le:∀ n,(k.at n).isSome=true→0≤n∧n≤k.number
 has:0≤k.number→(k.at k.number).isSome=true
theorem Match.entries {k:Wk} {r:Rk} (h:Match k r):r.entries=k.entries:=by unfold Rk.entries;rw [h.es]
theorem Match.since {k:Wk} {r:Rk} (h:Match k r):r.since=k.since:=by
 unfold Rk.since
 rw [h.sin]
 by_cases h0:0≤k.number
 · simp [h0]
 · simp [h0,h.s0 (by omega)]
def Rk.follows (r:Rk) (f:Fr) (a:Int):Bool:=if f.kind=1 then r.fol1 f else if f.kind=2 then r.fol2 f else if f.kind=3 then r.fol3 f a else false
def Rk.next (r:Rk) (f:Fr) (a:Int):Rk×Int:=
 if outOf 1099511627776 a then (r,143)
 else match encF f with
  | .error _=>(r,143)
  | .ok _=>if r.follows f a then (r.snoc (f,a),0) else (r,143)
theorem Match.follows {k:Wk} {r:Rk} (h:Match k r) {f:Fr} {l:List UInt8} (he:encF f=.ok l) (a:Int):r.follows f a=k.follows f a:=by
 obtain ⟨aB,h0⟩:=enc_kind he
 unfold frWrong at h0
 unfold Rk.follows Wk.follows
 by_cases h1:f.kind=1
 · rw [if_pos h1,if_pos h1]
   rw [if_pos h1] at h0
   obtain ⟨n,hn,_,_⟩:=schWrong_no h0
   unfold Rk.fol1
   rw [h.num]
   by_cases q1:f.number=k.number+1
   · rw [if_pos q1];simp [q1]
   · rw [if_neg q1]
     by_cases q2:f.number=k.number
     · have af:=h.has (by omega)
       have hs:=h.sc k.number
       rw [q2]
       cases hx:r.schema k.number with
       | none=>rw [hx] at hs;rw [af] at hs;cases hs.1
       | some x=>
         rw [hx] at hs
         have h3:sameCols (colsOf (k.at k.number)) x=true:=hs.2
         simp only [decide_true,Bool.true_and]
         rw [show decide (k.number=k.number+1)=false by rw [decide_eq_false_iff_not];omega,Bool.false_or,sameCols_comm f.cols,← sameCols_cong h3]
     · cases hx:r.schema f.number with
       | none=>simp [q1,q2]
       | some x=>simp [q1,q2]
 · rw [if_neg h1,if_neg h1]
   by_cases h2:f.kind=2
   · rw [if_pos h2,if_pos h2]
     unfold Rk.fol2
     rw [h.num,h.fr,h.rw]
   · have h3:f.kind=3:=by omega
     rw [if_neg h2,if_neg h2,if_pos h3]
     unfold Rk.fol3
     rw [h.fr,h.rw,h.entries]
theorem Match.take {k:Wk} {r:Rk} (h:Match k r) {f:Fr} {l:List UInt8} (he:encF f=.ok l) (hw:f.wf) {a:Int} (hf:k.follows f a=true):Match (k.take f a) (r.snoc (f,a)):=by
 obtain ⟨aB,h0⟩:=enc_kind he
 unfold frWrong at h0
 unfold Wk.follows at hf
 have ad:=framesFrom_snoc (f,a) r.L r.f0
 have ac:=rowsFrom_snoc (f,a) r.L r.r0
 have aw:=entsFrom_snoc (f,a) r.L ⟨r.E0,r.f0,r.r0,lastFrom 0 r.S0⟩
 have ax:=sinceFrom_snoc (f,a) r.L (0,decide (0<r.S0.length))
 have az:=r.snoc_closed (f,a)
 have ah:=r.snoc_schemas (f,a)
 rw [h.es] at aw
 rw [h.sin] at ax
 unfold Wk.take
 by_cases h1:f.kind=1
 · rw [if_pos h1]
   rw [if_pos h1] at h0 hf ah
   obtain ⟨n,hn,_,ay⟩:=schWrong_no h0
   obtain ⟨_,aE,_⟩:=copyC_ok ay hw.dflt
   obtain ⟨p1,p2,p3,p4,p5,p6⟩:=Wk.put_rest { k with number:=f.number,since:=0,closed:=false } f.number (copyC f.cols,a)
   have av:∀ m,({ k with number:=f.number,since:=0,closed:=false }:Wk).put f.number (copyC f.cols,a) |>.at m |> fun x=>x=if m=f.number then some (copyC f.cols,a) else k.at m:=fun m=>Wk.put_at (k:={ k with number:=f.number,since:=0,closed:=false }) h.len f.number (copyC f.cols,a) m
   simp only at av p1 p2 p3 p4 p5 p6
   generalize aI:({ k with number:=f.number,since:=0,closed:=false }:Wk).put f.number (copyC f.cols,a)=k' at *
   have a8:k.number≤f.number:=by
    simp only [Bool.or_eq_true,Bool.and_eq_true,decide_eq_true_eq] at hf
    omega
   have ab:k'.at f.number=some (copyC f.cols,a):=by rw [av,if_pos rfl]
   refine ⟨?_, ?_, ?_, ?_, ?_, ?_, ?_, ?_,fun m=>?_,fun m=>?_,fun m hm=>?_,fun _=>?_⟩
   · rw [← aI]
     unfold Wk.put
     split
     · simp [h.len]
     · simp [h.len]
   · show entsFrom _ (r.L++[(f,a)])=_
     rw [show (r.snoc (f,a)).E0=r.E0 from rfl,show (r.snoc (f,a)).f0=r.f0 from rfl,show (r.snoc (f,a)).r0=r.r0 from rfl,show (r.snoc (f,a)).S0=r.S0 from rfl,aw]
     unfold Es.step
     rw [if_pos h1,p5,p1,p2,p3,ab]
     rfl
   · show framesFrom r.f0 (r.L++[(f,a)])=_
     rw [ad,if_neg (show ¬f.kind=2 by omega),p1]
     exact h.fr
   · show rowsFrom r.r0 (r.L++[(f,a)])=_
     rw [ac,if_neg (show ¬f.kind=2 by omega),p2]
     exact h.rw
   · unfold Rk.number
     rw [ah,numberFrom_snoc,p3]
     have aG:numberFrom (-1) r.schemas=k.number:=h.num
     rw [aG]
     simp only
     split <;> omega
   · show sinceFrom _ (r.L++[(f,a)])=_
     rw [show (r.snoc (f,a)).S0=r.S0 from rfl,ax,if_pos h1,p4,p3]
     simp
     omega
   · intro _;exact p4
   · rw [az,p6];simp [h1]
   · unfold Rk.place
     rw [ah,placeFrom_snoc,av]
     have hp:=h.pl m
     unfold Rk.place at hp
     simp only
     by_cases e:f.number=m
     · rw [if_pos e,if_pos e.symm];rfl
     · rw [if_neg e,if_neg (fun e2=>e e2.symm)];exact hp
   · have aJ:(r.snoc (f,a)).schema m=match r.schema m with | some x=>some x | none=>if f.number=m then some f.cols else none:=by
      unfold Rk.schema
      rw [ah]
      exact schemaFrom_snoc m (f,a) r.schemas
     rw [aJ,av]
     have hs:=h.sc m
     by_cases e:m=f.number
     · subst e
       rw [if_pos rfl,if_pos rfl]
       cases hx:r.schema f.number with
       | none=>exact ⟨rfl,aE⟩
       | some x=>
         rw [hx] at hs
         have af:(k.at f.number).isSome=true:=hs.1.symm
         have h5:=(h.le _ af).2
         have h6:f.number=k.number:=by omega
         simp only [Bool.or_eq_true,Bool.and_eq_true,decide_eq_true_eq] at hf
         have h7:sameCols f.cols (colsOf (k.at k.number))=true:=by
          rcases hf with h | h
          · omega
          · exact h.2
         rw [← h6] at h7
         exact ⟨rfl,sameCols_trans aE (sameCols_trans h7 hs.2)⟩
     · rw [if_neg e,if_neg (fun e2=>e e2.symm)]
       cases hx:r.schema m with
       | none=>rw [hx] at hs;exact hs
       | some x=>rw [hx] at hs;exact hs
   · rw [av] at hm
     rw [p3]
     by_cases e:m=f.number
     · subst e;omega
     · rw [if_neg e] at hm
       have:=h.le m hm
       omega
   · rw [p3,ab];rfl
 · rw [if_neg h1]
   rw [if_neg h1] at h0 hf ah
   by_cases h2:f.kind=2
   · rw [if_pos h2]
     rw [if_pos h2] at hf
     simp only [Bool.and_eq_true,decide_eq_true_eq] at hf
     refine ⟨h.len, ?_, ?_, ?_, ?_, ?_,fun aH=>?_, ?_,fun m=>?_,fun m=>?_,h.le,h.has⟩
     · show entsFrom _ (r.L++[(f,a)])=_
       rw [show (r.snoc (f,a)).E0=r.E0 from rfl,show (r.snoc (f,a)).f0=r.f0 from rfl,show (r.snoc (f,a)).r0=r.r0 from rfl,show (r.snoc (f,a)).S0=r.S0 from rfl,aw]
       unfold Es.step
       rw [if_neg h1,if_pos h2]
       rfl
     · show framesFrom r.f0 (r.L++[(f,a)])=_
       rw [ad,if_pos h2]
       exact congrArg (· + 1) h.fr
     · show rowsFrom r.r0 (r.L++[(f,a)])=_
       rw [ac,if_pos h2]
       exact congrArg (· + f.rows) h.rw
     · unfold Rk.number
       rw [ah]
       exact h.num
     · show sinceFrom _ (r.L++[(f,a)])=_
       rw [show (r.snoc (f,a)).S0=r.S0 from rfl,ax,if_neg h1,if_pos h2]
     · have:k.number<0:=aH
       omega
     · rw [az];simp [h2]
     · unfold Rk.place
       rw [ah]
       exact h.pl m
     · unfold Rk.schema
       rw [ah]
       exact h.sc m
   · rw [if_neg h2]
     have h3:f.kind=3:=by omega
     refine ⟨h.len, ?_, ?_, ?_, ?_, ?_,h.s0, ?_,fun m=>?_,fun m=>?_,h.le,h.has⟩
     · show entsFrom _ (r.L++[(f,a)])=_
       rw [show (r.snoc (f,a)).E0=r.E0 from rfl,show (r.snoc (f,a)).f0=r.f0 from rfl,show (r.snoc (f,a)).r0=r.r0 from rfl,show (r.snoc (f,a)).S0=r.S0 from rfl,aw]
       unfold Es.step
       rw [if_neg h1,if_neg h2]
       rfl
     · show framesFrom r.f0 (r.L++[(f,a)])=_
       rw [ad,if_neg h2]
       exact h.fr
     · show rowsFrom r.r0 (r.L++[(f,a)])=_
       rw [ac,if_neg h2]
       exact h.rw
     · unfold Rk.number
       rw [ah]
       exact h.num
     · show sinceFrom _ (r.L++[(f,a)])=_
       rw [show (r.snoc (f,a)).S0=r.S0 from rfl,ax,if_neg h1,if_neg h2]
     · rw [az];simp [h3]
     · unfold Rk.place
       rw [ah]
       exact h.pl m
     · unfold Rk.schema
       rw [ah]
       exact h.sc m
theorem Match.next {k:Wk} {r:Rk} (h:Match k r) {f:Fr} (hw:f.wf) (a:Int):(r.next f a).2=(k.next f a).2∧Match (k.next f a).1 (r.next f a).1:=by
 unfold Rk.next Wk.next
 split
 · exact ⟨rfl,h⟩
 · cases he:encF f with
   | error e=>exact ⟨rfl,h⟩
   | ok l=>
     simp only
     rw [h.follows he a]
     cases hf:k.follows f a with
     | false=>exact ⟨rfl,h⟩
     | true=>exact ⟨rfl,h.take he hw hf⟩
structure Rk.fit (r:Rk):Prop where
 ok:r.ok
 num:-1≤r.number∧r.number<2147483648
 ents:r.entries.length≤1048640
theorem rkFollows_calls (g:Nat) (S T:Nat→Prop) (r:Rk) (A B E:Option Addr) (c d m:Nat) (f:Fr) (a:Int) (w:World) (hr:RkV w S g r) (ai:r.fit) (hf:FrS w T A B E f) (aB:f.kind=1∨f.kind=2∨f.kind=3) :
 Calls Tryz.prog 45 #[.pointer (some ⟨g,0,none⟩),.agg (frCells A c B d E m f),.int .i64 a] w fun e w'=>e=.returned (.bool (r.follows f a))∧Keeps w w':=by
 have ao:=ai.ents
 unfold Rk.follows
 rcases aB with h | h | h
 · rw [if_pos h]
   exact rkFollows_schema g S T r A B E c d m f a w hr ai.num hf.sch h
 · rw [if_neg (by omega),if_pos h]
   exact rkFollows_data g S r A B E c d m f a w hr ai.ok h
 · rw [if_neg (by omega),if_neg (by omega),if_pos h]
   exact rkFollows_index g S r A B E c d m f a w hr ai.ok (by omega) ⟨hf.ent,hf.lenE⟩ h
end
end Go.Proofs.YtihodcnnappkbaaGreatDoor
