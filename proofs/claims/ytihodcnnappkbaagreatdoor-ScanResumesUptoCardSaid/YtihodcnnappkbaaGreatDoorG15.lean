/-
  The walk of follows at a schema frame. Condition: the walk stands for its plain walk; the frame reads. The walk of follows at a data frame. Condition: the walk stands for its plain walk. The walk of follows at an index frame. Condition: the walk stands for its plain walk. The walk of follows. Condition: the walk stands for its plain walk, whose numbers are a file's; the frame reads. The blocks of a walk that are its own: the walk, its map, its entries' row; what Next may write. No condition. The walk of scan.large. Condition: the numbers read as a row.
-/
import Derived.Test.YtihodcnnappkbaaGreatDoorG14
import Derived.Test.YtihodcnnappkbaaGreatDoorG8
import Derived.BigQuiet
import Derived.Deep.RegionHeld3
import Derived.Test.YtihodcnnappkbaaGreatDoorG12
import Derived.Test.YtihodcnnappkbaaGreatDoorG4
set_option linter.unusedVariables false
set_option linter.unusedSimpArgs false
set_option maxHeartbeats 4000000
set_option maxRecDepth 20000
namespace Go.Proofs.YtihodcnnappkbaaGreatDoor
section
open Go.RowKit Go.BigFrame
attribute [local go_sem] run_storeF
theorem follows_schema (g:Nat) (S T:Nat→Prop) (k:Wk) (A B E:Option Addr) (c d m:Nat) (f:Fr) (a:Int) (w:World) (hk:WkV w S g k) (hn:-1≤k.number∧k.number<2147483648) (hs:SchS w T A f.cols) (h1:f.kind=1) :
 Calls Tryz.prog 42 #[.pointer (some ⟨g,0,none⟩),.agg (frCells A c B d E m f),.int .i64 a] w fun e w'=>e=.returned (.bool (k.follows f a))∧Keeps w w':=by
 obtain ⟨b,E',c',hg,_,_,hm,_⟩:=hk.here
 obtain ⟨c0,c1,c2,c3,c4,c5,c6,fz⟩:=wk_cells hg
 have am:=obj_lt hg
 have ax:=hm.lt
 obtain ⟨Q,u,ag,ab⟩:=hm.told k.number
 have hc:∀ w',Keeps w w'→Calls Tryz.prog 82 #[.agg #[.slice A f.cols.length c],.agg #[.slice Q (colsOf (k.at k.number)).length u]] w' fun e w''=>e=.returned (.bool (sameCols f.cols (colsOf (k.at k.number))))∧Keeps w' w'':=
  fun w' hk=>schSame_calls A Q c u _ _ _ _ w' (hs.later hk.below) (ag.later hk.below)
 have HC:=Hi hc
 obtain ⟨R,hR⟩:∃ R,R=k.follows f a:=⟨_,rfl⟩
 rw [← hR]
 unfold Wk.follows at hR
 rw [if_pos h1] at hR
 unfold frCells
 rw [h1]
 obtain ⟨es,clock,al,_⟩:=hm.ex
 obtain ⟨W,hW⟩:∃ W,W=w.alloc (.cells (frCells A c B d E m f) 36):=⟨_,rfl⟩
 have a2:Keeps w W:=by rw [hW];exact (Keeps.refl w).alloc _
 have a3:W.heap[w.heap.size]? = some (.cells (frCells A c B d E m f) 36 (0,0)):=by rw [hW];exact obj_new _ _
 have HL:∀ X:World,X.heap[b]? = some (.map es clock)→(Instr.lookup 80 (.map (some b)) (.int .i64 k.number) false).run Tryz.prog X=.ok (.agg #[.slice Q (colsOf ((keyPos k.number k.ks 0).bind fun j=>k.vs[j]?)).length u,.int .i64 (placeOf ((keyPos k.number k.ks 0).bind fun j=>k.vs[j]?))]) X:=fun X hX=>ab X (hX.trans al.symm) false
 have a4:=Hi ((a2.below.block _ am).trans hg)
 have ak:=Hi ((a2.below.block _ ax).trans al)
 unfold frCells at a3 hW
 rw [h1] at a3 hW
 have ae:=Hi a3
 have a9:=Hi a2
 clear a2 a3 al
 unfold Wk.at at *
 clear hg h1 hc hs ag hm ab
 generalize ((keyPos k.number k.ks 0).bind fun j=>k.vs[j]?)=o at *
 generalize sameCols f.cols (colsOf o)=p at *
 generalize (colsOf o).length=ol at *
 generalize placeOf o=op at *
 generalize k.number=kn at *
 generalize k.frames=kf at *
 generalize k.rows=kr at *
 generalize k.entries.length=kl at *
 generalize f.number=fn at *
 generalize f.seq=fs at *
 generalize f.first=ff at *
 generalize f.rows=x1 at *
 generalize f.spot=x2 at *
 generalize f.frames=x3 at *
 generalize f.irows=x4 at *
 generalize f.cols.length=n1 at *
 generalize f.block.length=n2 at *
 generalize f.ents.length=n3 at *
 have aF:IntKind.i64.wrap (kn+1)=kn+1:=IntWalk.i64_in _ (by omega)
 by_cases q1:fn=kn+1
 case pos=>
  subst q1
  simp only [decide_true,decide_false,Bool.and_true,Bool.and_false,Bool.true_and,Bool.false_and,Bool.or_true,Bool.true_or,Bool.false_or,Bool.or_false] at hR
  have HT:=Hi hR
  clear hR
  go_enter Tryz.func42,Tryz.ntmps42
  go_wp2_with fail
  go_region
  all_goals
   go_wp2
   go_ret
   exact ⟨by rw [HT.out];rfl,((Keeps.refl w).alloc _).trans (Keeps.drew _)⟩
 by_cases q2:fn=kn
 case neg=>
  simp only [q1,q2,decide_true,decide_false,Bool.and_true,Bool.and_false,Bool.true_and,Bool.false_and,Bool.or_true,Bool.true_or,Bool.false_or,Bool.or_false] at hR
  have HT:=Hi hR
  clear hR
  have p1:(fn==kn+1)=false:=by simpa using q1
  have p2:(fn==kn)=false:=by simpa using q2
  go_enter Tryz.func42,Tryz.ntmps42
  go_wp2_with fail
  go_region
  all_goals
   go_wp2
   go_ret
   exact ⟨by rw [HT.out];rfl,((Keeps.refl w).alloc _).trans (Keeps.drew _)⟩
 subst q2
 simp only [q1,decide_true,decide_false,Bool.and_true,Bool.and_false,Bool.true_and,Bool.false_and,Bool.or_true,Bool.true_or,Bool.false_or,Bool.or_false] at hR
 have HT:=Hi hR
 clear hR
 have p1:(fn==fn+1)=false:=by simpa using q1
 go_enter Tryz.func42,Tryz.ntmps42
 go_wp2_with fail
 rw [← hW]
 clear hW c0 c1 c2 c3 c4 c5 c6 fz
 obtain ⟨c0,c1,c2,c3,c4,c5,c6,fz⟩:=wk_cells a4.out
 obtain ⟨⟨d0,d1,d2,d3,d4,d5,d6,d7,d8,d9,d10⟩,_⟩:=cells11 ae.out
 clear c0 c1 c3 c5 c6 fz d0 d3 d4 d5 d6 d7 d8 d9 d10
 have aH:∀ X:World,(Instr.field 90 (.agg #[.slice Q ol u,.int .i64 op]) 0).run Tryz.prog X=.ok (.agg #[.slice Q ol u]) X:=fun X=>by kernel_rfl
 go_region_held3 (fun w'=>w'.cell? ⟨g,2,none⟩=some (.int .i64 fn)∧w'.cell? ⟨g,4,none⟩=some (.map (some b))∧w'.cell? ⟨w.heap.size,1,none⟩=some (.int .i64 fn)∧w'.cell? ⟨w.heap.size,2,none⟩=some (.slice A n1 c)∧w'.heap[b]? = some (.map es clock)) ((refine ⟨by go_keep,by go_keep,by go_keep,by go_keep, ?_⟩;first | assumption | exact ak.out)) (first
  | (go_simp;go_at_call 82;refine (HC.out _ (a9.out.trans (Keeps.drew _))).mono ?_
     rintro e w1 ⟨rfl,a5⟩
     have a1:Keeps W w1:=(Keeps.drew W).trans a5
     have ac:=(a1.below.block _ (obj_lt a4.out)).trans a4.out
     have a7:=(a1.below.block _ (obj_lt ae.out)).trans ae.out
     have az:w1.heap[b]? = some (.map es clock):=(a1.below.block _ (obj_lt ak.out)).trans ak.out
     have z2:w1.cell? ⟨g,2,none⟩=some (.int .i64 fn):=by rw [obj_cell ac];rfl
     have z4:w1.cell? ⟨g,4,none⟩=some (.map (some b)):=by rw [obj_cell ac];rfl
     have y1:w1.cell? ⟨w.heap.size,1,none⟩=some (.int .i64 fn):=by rw [obj_cell a7];rfl
     have y2:w1.cell? ⟨w.heap.size,2,none⟩=some (.slice A n1 c):=by rw [obj_cell a7];rfl
     have aq:=Hi (a9.out.trans a1)
     clear a5 a1 ac a7))
 all_goals
  go_wp2
  go_ret
  exact ⟨by rw [HT.out];rfl,aq.out⟩
theorem follows_data (g:Nat) (S:Nat→Prop) (k:Wk) (A B E:Option Addr) (c d m:Nat) (f:Fr) (a:Int) (w:World) (hk:WkV w S g k) (h2:f.kind=2) :
 Calls Tryz.prog 42 #[.pointer (some ⟨g,0,none⟩),.agg (frCells A c B d E m f),.int .i64 a] w fun e w'=>e=.returned (.bool (k.follows f a))∧Keeps w w':=by
 obtain ⟨b,E',c',hg,_⟩:=hk
 obtain ⟨c0,c1,c2,c3,c4,c5,c6,fz⟩:=wk_cells hg
 have am:=obj_lt hg
 obtain ⟨T,hT⟩:∃ T,T=k.follows f a:=⟨_,rfl⟩
 rw [← hT]
 unfold Wk.follows at hT
 rw [if_neg (by omega),if_pos h2] at hT
 unfold frCells
 rw [h2]
 clear hg h2
 generalize k.number=kn at *
 generalize k.frames=kf at *
 generalize k.rows=kr at *
 generalize f.number=fn at *
 generalize f.seq=fs at *
 generalize f.first=ff at *
 generalize f.rows=x1 at *
 generalize f.spot=x2 at *
 generalize f.frames=x3 at *
 generalize f.irows=x4 at *
 generalize f.cols.length=n1 at *
 generalize f.block.length=n2 at *
 generalize f.ents.length=n3 at *
 by_cases q1:0≤kn
 case neg=>
  simp only [q1,decide_true,decide_false,Bool.and_true,Bool.and_false,Bool.true_and,Bool.false_and] at hT
  have HT:=Hi hT
  clear hT
  have p1:decide (0≤kn)=false:=by simpa using q1
  have p2:kn<0:=by omega
  go_enter Tryz.func42,Tryz.ntmps42
  go_wp2_with fail
  go_region
  all_goals
   go_wp2
   go_ret
   exact ⟨by rw [HT.out];rfl,((Keeps.refl w).alloc _).trans (Keeps.drew _)⟩
 by_cases q2:fn=kn
 case neg=>
  simp only [q1,q2,decide_true,decide_false,Bool.and_true,Bool.and_false,Bool.true_and,Bool.false_and] at hT
  have HT:=Hi hT
  clear hT
  have p2:(fn==kn)=false:=by simpa using q2
  go_enter Tryz.func42,Tryz.ntmps42
  go_wp2_with fail
  go_region
  all_goals
   go_wp2
   go_ret
   exact ⟨by rw [HT.out];rfl,((Keeps.refl w).alloc _).trans (Keeps.drew _)⟩
 subst q2
 by_cases q3:fs=kf
 case neg=>
  simp only [q1,q3,decide_true,decide_false,Bool.and_true,Bool.and_false,Bool.true_and,Bool.false_and] at hT
  have HT:=Hi hT
  clear hT
  have p3:(fs==kf)=false:=by simpa using q3
  go_enter Tryz.func42,Tryz.ntmps42
  go_wp2_with fail
  go_region
  all_goals
   go_wp2
   go_ret
   exact ⟨by rw [HT.out];rfl,((Keeps.refl w).alloc _).trans (Keeps.drew _)⟩
 subst q3
 by_cases q4:ff=kr
 case neg=>
  simp only [q1,q4,decide_true,decide_false,Bool.and_true,Bool.and_false,Bool.true_and,Bool.false_and] at hT
  have HT:=Hi hT
  clear hT
  have p4:(ff==kr)=false:=by simpa using q4
  go_enter Tryz.func42,Tryz.ntmps42
  go_wp2_with fail
  go_region
  all_goals
   go_wp2
   go_ret
   exact ⟨by rw [HT.out];rfl,((Keeps.refl w).alloc _).trans (Keeps.drew _)⟩
 subst q4
 simp only [q1,decide_true,decide_false,Bool.and_true,Bool.and_false,Bool.true_and,Bool.false_and] at hT
 have HT:=Hi hT
 clear hT
 go_enter Tryz.func42,Tryz.ntmps42
 go_wp2_with fail
 go_region
 all_goals
  go_wp2
  go_ret
  exact ⟨by rw [HT.out];rfl,((Keeps.refl w).alloc _).trans (Keeps.drew _)⟩
def Rows3 (w:World) (E:Option Addr) (f:Fr):Prop:=RowAt w E (entCells f.ents)∧f.ents.length≤17179869184
theorem follows_index (g:Nat) (S:Nat→Prop) (k:Wk) (A B E:Option Addr) (c d m:Nat) (f:Fr) (a:Int) (w:World) (hk:WkV w S g k) (hw:Rows3 w E f) (hn:k.entries.length≤17179869184) (h3:f.kind=3) :
 Calls Tryz.prog 42 #[.pointer (some ⟨g,0,none⟩),.agg (frCells A c B d E m f),.int .i64 a] w fun e w'=>e=.returned (.bool (k.follows f a))∧Keeps w w':=by
 obtain ⟨b,E',c',hg,_,_,_,hE,_⟩:=hk
 obtain ⟨c0,c1,c2,c3,c4,c5,c6,fz⟩:=wk_cells hg
 have am:=obj_lt hg
 obtain ⟨_,_,e1,_,af,_⟩:=hE.form
 injection e1 with g1 g2 g3
 subst g1 g3
 have hc:∀ w',Keeps w w'→Calls Tryz.prog 83 #[.slice E f.ents.length m,.slice E' k.entries.length c'] w' fun e w''=>e=.returned (.bool (decide (f.ents=k.entries)))∧Keeps w' w'':=
  fun w' hk=>entsEq_calls E E' m c' f.ents k.entries w' hw.2 hn (hw.1.below hk.below) (af.below hk.below)
 have HC:=Hi hc
 have HG:=Hi hg
 obtain ⟨T,hT⟩:∃ T,T=k.follows f a:=⟨_,rfl⟩
 rw [← hT]
 unfold Wk.follows at hT
 rw [if_neg (by omega),if_neg (by omega)] at hT
 unfold frCells
 rw [h3]
 clear hg h3 hc hE af hw hn
 generalize decide (f.ents=k.entries)=p at *
 generalize k.number=kn at *
 generalize k.frames=kf at *
 generalize k.rows=kr at *
 generalize k.entries.length=kl at *
 generalize f.number=fn at *
 generalize f.seq=fs at *
 generalize f.first=ff at *
 generalize f.rows=x1 at *
 generalize f.spot=x2 at *
 generalize f.frames=x3 at *
 generalize f.irows=x4 at *
 generalize f.cols.length=n1 at *
 generalize f.block.length=n2 at *
 generalize f.ents.length=n3 at *
 by_cases q1:x2=a
 case neg=>
  simp only [q1,decide_true,decide_false,Bool.and_true,Bool.and_false,Bool.true_and,Bool.false_and] at hT
  have HT:=Hi hT
  clear hT
  have p1:(x2==a)=false:=by simpa using q1
  go_enter Tryz.func42,Tryz.ntmps42
  go_wp2_with fail
  go_region
  all_goals
   go_wp2
   go_ret
   exact ⟨by rw [HT.out];rfl,(((Keeps.refl w).alloc _).alloc _).trans (Keeps.drew _)⟩
 subst q1
 by_cases q2:x3=kf
 case neg=>
  simp only [q2,decide_true,decide_false,Bool.and_true,Bool.and_false,Bool.true_and,Bool.false_and] at hT
  have HT:=Hi hT
  clear hT
  have p2:(x3==kf)=false:=by simpa using q2
  go_enter Tryz.func42,Tryz.ntmps42
  go_wp2_with fail
  go_region
  all_goals
   go_wp2
   go_ret
   exact ⟨by rw [HT.out];rfl,(((Keeps.refl w).alloc _).alloc _).trans (Keeps.drew _)⟩
 subst q2
 by_cases q3:x4=kr
 case neg=>
  simp only [q3,decide_true,decide_false,Bool.and_true,Bool.and_false,Bool.true_and,Bool.false_and] at hT
  have HT:=Hi hT
  clear hT
  have p3:(x4==kr)=false:=by simpa using q3
  go_enter Tryz.func42,Tryz.ntmps42
  go_wp2_with fail
  go_region
  all_goals
   go_wp2
   go_ret
   exact ⟨by rw [HT.out];rfl,(((Keeps.refl w).alloc _).alloc _).trans (Keeps.drew _)⟩
 subst q3
 obtain ⟨W,hW⟩:∃ W,W=(w.alloc (.cells #[.int .i64 3,.int .i64 fn,.slice A n1 c,.int .i64 fs,.int .i64 ff,.int .i64 x1,.slice B n2 d,.int .i64 x2,.int .i64 x3,.int .i64 x4,.slice E n3 m] 36)).alloc (.cells #[.int .i64 x2,.int .i64 x3,.int .i64 x4,.slice E n3 m] 34):=⟨_,rfl⟩
 have a2:Keeps w W:=by rw [hW];exact ((Keeps.refl w).alloc _).alloc _
 have a3:W.heap[w.heap.size+1]? = some (.cells #[.int .i64 x2,.int .i64 x3,.int .i64 x4,.slice E n3 m] 34 (0,0)):=by rw [hW];exact obj_new_at _ _ _ (by simp)
 have a4:=Hi ((a2.below.block _ (obj_lt HG.out)).trans HG.out)
 have ae:=Hi a3
 have a9:=Hi a2
 have u0:W.cell? ⟨g,0,none⟩=some (.int .i64 x3):=by rw [obj_cell a4.out];rfl
 have u1:W.cell? ⟨g,1,none⟩=some (.int .i64 x4):=by rw [obj_cell a4.out];rfl
 have u5:W.cell? ⟨g,5,none⟩=some (.slice E' kl c'):=by rw [obj_cell a4.out];rfl
 have t0:W.cell? ⟨w.heap.size+1,0,none⟩=some (.int .i64 x2):=by rw [obj_cell a3];rfl
 have t1:W.cell? ⟨w.heap.size+1,1,none⟩=some (.int .i64 x3):=by rw [obj_cell a3];rfl
 have t2:W.cell? ⟨w.heap.size+1,2,none⟩=some (.int .i64 x4):=by rw [obj_cell a3];rfl
 have t3:W.cell? ⟨w.heap.size+1,3,none⟩=some (.slice E n3 m):=by rw [obj_cell a3];rfl
 clear a2 a3
 simp only [decide_true,decide_false,Bool.and_true,Bool.and_false,Bool.true_and,Bool.false_and] at hT
 have HT:=Hi hT
 clear hT
 go_enter Tryz.func42,Tryz.ntmps42
 go_wp2_with fail
 rw [← hW]
 clear hW
 go_region_held3 (fun w'=>w'.cell? ⟨g,0,none⟩=some (.int .i64 x3)∧w'.cell? ⟨g,1,none⟩=some (.int .i64 x4)∧w'.cell? ⟨g,5,none⟩=some (.slice E' kl c')∧w'.cell? ⟨w.heap.size+1,0,none⟩=some (.int .i64 x2)∧w'.cell? ⟨w.heap.size+1,1,none⟩=some (.int .i64 x3)∧w'.cell? ⟨w.heap.size+1,2,none⟩=some (.int .i64 x4)∧w'.cell? ⟨w.heap.size+1,3,none⟩=some (.slice E n3 m)) (go_keep) (first
  | (go_simp;go_at_call 83;refine (HC.out _ (a9.out.trans (Keeps.drew _))).mono ?_
     rintro e w1 ⟨rfl,a5⟩
     have a1:Keeps W w1:=(Keeps.drew W).trans a5
     have ac:=(a1.below.block _ (obj_lt a4.out)).trans a4.out
     have a7:=(a1.below.block _ (obj_lt ae.out)).trans ae.out
     have z0:w1.cell? ⟨g,0,none⟩=some (.int .i64 x3):=by rw [obj_cell ac];rfl
     have z1:w1.cell? ⟨g,1,none⟩=some (.int .i64 x4):=by rw [obj_cell ac];rfl
     have z5:w1.cell? ⟨g,5,none⟩=some (.slice E' kl c'):=by rw [obj_cell ac];rfl
     have y0:w1.cell? ⟨w.heap.size+1,0,none⟩=some (.int .i64 x2):=by rw [obj_cell a7];rfl
     have y1:w1.cell? ⟨w.heap.size+1,1,none⟩=some (.int .i64 x3):=by rw [obj_cell a7];rfl
     have y2:w1.cell? ⟨w.heap.size+1,2,none⟩=some (.int .i64 x4):=by rw [obj_cell a7];rfl
     have y3:w1.cell? ⟨w.heap.size+1,3,none⟩=some (.slice E n3 m):=by rw [obj_cell a7];rfl
     have aq:=Hi (a9.out.trans a1)
     clear a5 a1 ac a7))
 all_goals
  go_wp2
  go_ret
  exact ⟨by rw [HT.out];rfl,aq.out⟩
end
section
open Go.RowKit Go.BigFrame
structure Wk.ok (k:Wk):Prop where
 num:-1≤k.number∧k.number<2147483648
 fr:0≤k.frames∧k.frames≤1099511627776
 sn:0≤k.since∧k.since≤k.frames
 rw:0≤k.rows∧k.rows≤1099511627840
 en:k.entries.length≤1048576
 fine:k.fine
theorem follows_calls (g:Nat) (S T:Nat→Prop) (k:Wk) (A B E:Option Addr) (c d m:Nat) (f:Fr) (a:Int) (w:World) (hk:WkV w S g k) (au:k.ok) (hf:FrS w T A B E f) (aw:f.kind=1∨f.kind=2∨f.kind=3) :
 Calls Tryz.prog 42 #[.pointer (some ⟨g,0,none⟩),.agg (frCells A c B d E m f),.int .i64 a] w fun e w'=>e=.returned (.bool (k.follows f a))∧Keeps w w':=by
 rcases aw with h | h | h
 · exact follows_schema g S T k A B E c d m f a w hk au.num hf.sch h
 · exact follows_data g S k A B E c d m f a w hk h
 · exact follows_index g S k A B E c d m f a w hk ⟨hf.ent,hf.lenE⟩ (by have:=au.en;omega) h
theorem enc_kind {f:Fr} {l:List UInt8} (h:encF f=.ok l):(f.kind=1∨f.kind=2∨f.kind=3)∧frWrong f=0:=by
 obtain ⟨h0,_,_⟩:=encF_ok h
 refine ⟨?_,h0⟩
 unfold frWrong at h0
 by_cases h1:f.kind=1
 · exact .inl h1
 by_cases h2:f.kind=2
 · exact .inr (.inl h2)
 by_cases h3:f.kind=3
 · exact .inr (.inr h3)
 rw [if_neg h1,if_neg h2,if_neg h3] at h0
 omega
theorem copyC_fine (l:List Col):(∀ y∈copyC l,y.dflt.wf)∧∀ y∈copyC l,y.name.size≤140737488355328:=by
 unfold copyC
 split
 · cases h:decodeS (putS l) with
   | error e=>simp
   | ok m=>
     obtain ⟨_,h2,h3⟩:=decodeS_cut h
     exact ⟨h3,schCheck_names h2⟩
 · simp
theorem Wk.put_rest (k:Wk) (n:Int) (x:List Col×Int):(k.put n x).frames=k.frames∧(k.put n x).rows=k.rows∧(k.put n x).number=k.number∧(k.put n x).since=k.since∧(k.put n x).entries=k.entries∧(k.put n x).closed=k.closed:=by
 unfold Wk.put
 split <;> exact ⟨rfl,rfl,rfl,rfl,rfl,rfl⟩
theorem Wk.put_fine {k:Wk} {n:Int} {x:List Col×Int} (h:k.fine) (hx:(∀ y∈x.1,y.dflt.wf)∧(∀ y∈x.1,y.name.size≤140737488355328)):(k.put n x).fine:=by
 intro y hy
 unfold Wk.put at hy
 split at hy
 · rcases List.mem_or_eq_of_mem_set hy with h1 | h1
   · exact h y h1
   · rw [h1];exact hx
 · rcases List.mem_append.1 hy with h1 | h1
   · exact h y h1
   · simp only [List.mem_cons,List.not_mem_nil,or_false] at h1
     rw [h1]
     exact hx
theorem Wk.ok.next {k:Wk} (h:k.ok) (f:Fr) (a:Int):(k.next f a).1.ok:=by
 unfold Wk.next
 split
 · exact h
 · cases he:encF f with
   | error e=>exact h
   | ok l=>
     simp only
     split
     · rename_i ao
       obtain ⟨aw,h0⟩:=enc_kind he
       unfold Wk.take
       unfold Wk.follows at ao
       unfold frWrong at h0
       split
       · rename_i h1
         rw [if_pos h1] at h0
         obtain ⟨n,hn,ay,_⟩:=schWrong_no h0
         obtain ⟨p1,p2,p3,p4,p5,p6⟩:=Wk.put_rest { k with number:=f.number,since:=0,closed:=false } f.number (copyC f.cols,a)
         refine ⟨?_, ?_, ?_, ?_, ?_,Wk.put_fine (k:={ k with number:=f.number,since:=0,closed:=false }) h.fine (copyC_fine f.cols)⟩
         · rw [p3];simp only;omega
         · rw [p1];exact h.fr
         · rw [p1,p4];have:=h.fr;simp only;omega
         · rw [p2];exact h.rw
         · rw [p5];exact h.en
       · rename_i h1
         split
         · rename_i h2
           rw [if_neg h1,if_pos h2] at h0 ao
           obtain ⟨n,s,t,r,hn,hs,ht,hr,ay,aB,aC,aD,aE⟩:=datWrong_no h0
           simp only [Bool.and_eq_true,decide_eq_true_eq] at ao
           have:=h.sn
           have:=h.fr
           refine ⟨h.num, ?_, ?_, ?_, ?_,h.fine⟩
           · simp only;omega
           · simp only;omega
           · simp only;omega
           · simp only
             split
             · rw [List.length_append];simp;omega
             · exact h.en
         · exact ⟨h.num,h.fr,h.sn,h.rw,h.en,h.fine⟩
     · exact h
theorem wkFresh_ok:Wk.fresh.ok:=⟨by simp [Wk.fresh],by simp [Wk.fresh],by simp [Wk.fresh],by simp [Wk.fresh],by simp [Wk.fresh],fun x hx=>by simp [Wk.fresh] at hx⟩
theorem Loose.ne_map {w:World} {b g size n clock:Nat} {e:TypeId} {v:Value} {xs:List Value} {es:Array MapEntry} (h:Loose w b e size v n xs) (hg:w.heap[g]? = some (.map es clock)):blk v≠some g:=by
 intro hk
 rcases h with ⟨A,rfl,_,_⟩ | ⟨_,_,rfl,_,h⟩
 · rw [blk_empty] at hk;cases hk
 · have hk:=blk_some hk
   rcases h.2 with ⟨hn,_⟩ | ⟨g',c,cur,hv,_,ai,_⟩
   · rw [hn] at hk;simp [Value.ownBlock] at hk
   · rw [hv] at hk
     simp only [Value.ownBlock,Option.some.injEq] at hk
     subst hk
     rw [hg] at ai
     cases ai
theorem WkV.turn {w w':World} {S:Nat→Prop} {g b c':Nat} {E':Option Addr} {k':Wk} {C:Array Value} (hg:w.heap[g]? = some (.cells C 82 (0,0))) (ai:w'.heap[g]? = some (.cells #[.int .i64 k'.frames,.int .i64 k'.rows,.int .i64 k'.number,.int .i64 k'.since,.map (some b),.slice E' k'.entries.length c',.bool k'.closed] 82 (0,0)))
 (hS:S g) (hb:b≠g) (hm:MapS w (fun j=>S j∧j≠g∧blk (.slice E' k'.entries.length c')≠some j) b k'.ks k'.vs) (hE:Loose w 0 78 3 (.slice E' k'.entries.length c') k'.entries.length (entCells k'.entries)) (an:∀ j,blk (.slice E' k'.entries.length c')=some j→S j) (ht:Touch (At g) w w'):WkV w' S g k':=
 ⟨b,E',c',ai,hS,hb,hm.touch ht (fun j hj e=>hj.2.1 e),hE.keep ht (fun j hj e=>hE.ne hg (by decide) (by rw [hj];exact congrArg some e)),an⟩
def Core (w:World) (g:Nat) (j:Nat):Prop:=j=g∨w.cell? ⟨g,4,none⟩=some (.map (some j))∨∃ s,w.cell? ⟨g,5,none⟩=some s∧blk s=some j
theorem core_iff {w:World} {g m:Nat} {a b c d s e:Value} {t:TypeId} {fr:Nat×Nat} (hg:w.heap[g]? = some (.cells #[a,b,c,d,.map (some m),s,e] t fr)) (j:Nat):Core w g j↔(j=g∨j=m∨blk s=some j):=by
 have h4:w.cell? ⟨g,4,none⟩=some (.map (some m)):=by rw [obj_cell hg];rfl
 have h5:w.cell? ⟨g,5,none⟩=some s:=by rw [obj_cell hg];rfl
 unfold Core
 rw [h4,h5]
 constructor
 · rintro (h | h | ⟨u,h,hu⟩)
   · exact .inl h
   · injection h with h;injection h with h;injection h with h;exact .inr (.inl h.symm)
   · injection h with h;subst h;exact .inr (.inr hu)
 · rintro (h | h | h)
   · exact .inl h
   · subst h;exact .inr (.inl rfl)
   · exact .inr (.inr ⟨s,rfl,h⟩)
theorem WkV.core {w:World} {S:Nat→Prop} {g:Nat} {k:Wk} (h:WkV w S g k) {j:Nat} (hj:Core w g j):S j:=by
 obtain ⟨b,E,c,hg,hs,hb,hm,hE,an⟩:=h
 rcases (core_iff hg j).1 hj with h | h | h
 · subst h;exact hs
 · subst h;exact hm.self.1
 · exact an j h
theorem Core.same {w w':World} {g:Nat} (h:w'.heap[g]? = w.heap[g]?) (j:Nat):Core w' g j↔Core w g j:=by
 unfold Core
 rw [World.cell?_of_block (w:=w) (w':=w') (a:=⟨g,4,none⟩) h,World.cell?_of_block (w:=w) (w':=w') (a:=⟨g,5,none⟩) h]
structure Went (w w':World) (g:Nat):Prop where
 touch:Touch (Core w g) w w'
 core:∀ j,Core w' g j→More (Core w g) w j
theorem Went.of_keeps {w w':World} {S:Nat→Prop} {g:Nat} {k:Wk} (hk:WkV w S g k) (h:Keeps w w'):Went w w' g:=
 ⟨Touch.of_below h.below fun j hj h=>absurd hj (by omega),fun j hj=>.inl ((Core.same (h.below.block g hk.lt) j).1 hj)⟩
theorem Went.in {w w':World} {S:Nat→Prop} {g:Nat} {k:Wk} (h:Went w w' g) (hk:WkV w S g k):Touch S w w':=h.touch.mono fun j _ hj=>hk.core hj
end
section
open Go.RowKit
theorem largeOne_calls (n:Int) (w:World):Calls Tryz.prog 81 #[.int .i64 n] w fun e w'=>e=.returned (.bool (outOf 1099511627776 n))∧Keeps w w':=by
 by_cases hn:n<0
 · have e:outOf 1099511627776 n=true:=by simp [outOf,hn]
   rw [e]
   go_enter Tryz.func81,Tryz.ntmps81
   go_wp2
   go_ret
   exact ⟨rfl,Keeps.refl w⟩
 · have e:outOf 1099511627776 n=decide (1099511627776≤n):=by simp [outOf,hn]
   rw [e]
   go_enter Tryz.func81,Tryz.ntmps81
   go_wp2
   go_ret
   exact ⟨rfl,Keeps.refl w⟩
theorem largeAt_calls (A:Option Addr) (c:Nat) (l:List Int) (w:World) (hl:l.length≤1000000) (hr:RowAt w A (i64s l)) :
 Calls Tryz.prog 115 #[.slice A l.length c,.func (.func 81) #[] #[]] w fun e w'=>e=.returned (.int .i64 (idxOf l 1099511627776 0))∧Keeps w w':=by
 have aG:∀ (args:Array Value) (w:World),(callFunc 81 args).run Tryz.prog w=.ok (.enter 81 args) w:=run_callFunc_body Tryz.func81 (by kernel_rfl) (by kernel_rfl)
 generalize hN:l.length=N at hl ⊢
 generalize hR:idxOf l 1099511627776 0=R
 have HN:=Hi hN
 have HR:=Hi hR.symm
 have HA:=Hi hr
 clear hr hN hR
 go_enter Tryz.func115,Tryz.ntmps115
 go_wp2
 go_loopw [8] (fun i wr=>∃ k:Nat,k≤N∧i=.int .i64 (k:Int)∧R=idxOf (l.drop k) 1099511627776 k∧Keeps w wr) (fun i _=>N-(intOf i).toNat)
 case atStart=>exact ⟨0,by omega,rfl,HR.out,(Keeps.refl w)⟩
 case round=>
  obtain ⟨k,hk,rfl,a0,a2⟩:=hrel
  by_cases aA:k<N
  · have a6:k<l.length:=by rw [HN.out];exact aA
    obtain ⟨ad,rfl,av⟩:=row_i64 (HA.out.below a2.below) k a6
    have aa:=largeOne_calls (l[k]'a6) wr
    rw [List.drop_eq_getElem_cons a6,idxOf] at a0
    have HC:=Hi aa
    have a8:=Hi a0
    have a9:=Hi a2
    clear aa a0 a2
    go_wp2_with fail
    refine HC.out.mono ?_
    rintro e w2 ⟨rfl,a1⟩
    cases hb:outOf 1099511627776 (l[k]'a6) with
    | true=>
      have a0:=a8.out
      rw [hb,if_pos rfl] at a0
      have ah:=Hi a0
      clear a0
      have aj:=Hi (a9.out.trans a1)
      clear a1
      go_wp2
      go_ret
      exact ⟨by rw [ah.out];rfl,aj.out⟩
    | false=>
      have a0:=a8.out
      rw [hb] at a0
      simp only [Bool.false_eq_true,if_false] at a0
      have ah:=Hi a0
      clear a0
      have aj:=Hi (a9.out.trans a1)
      clear a1
      go_wp2
      first
       | exact ⟨⟨k+1,by omega,by go_num,ah.out,aj.out⟩,by simp [intOf];omega⟩
       | (go_roundw
          case rel=>exact ⟨k+1,by omega,by go_num,ah.out,aj.out⟩
          case measure=>simp [intOf];omega)
  · have e:l.drop k=[]:=List.drop_eq_nil_of_le (by rw [HN.out];omega)
    rw [e,idxOf] at a0
    have a8:=Hi a0
    clear a0 e
    go_wp2
    go_ret
    exact ⟨by rw [a8.out];rfl,a2⟩
theorem large_calls (A:Option Addr) (c:Nat) (l:List Int) (w:World) (hl:l.length≤1000000) (hr:RowAt w A (i64s l)) :
 Calls Tryz.prog 41 #[.slice A l.length c] w fun e w'=>e=.returned (.bool (!l.any (outOf 1099511627776)))∧Keeps w w':=by
 have hc:=largeAt_calls A c l w hl hr
 have ap:=idxOf_ge l 1099511627776 0
 have ar:Calls Tryz.prog 80 #[.slice A l.length c,.func (.func 81) #[] #[]] w fun e w'=>e=.returned (.bool (l.any (outOf 1099511627776)))∧Keeps w w':=by
  have HC:=Hi hc
  have HG:=Hi ap
  clear hc ap hr
  generalize l.length=N at HC ⊢
  generalize idxOf l 1099511627776 0=R at HC HG
  generalize l.any (outOf 1099511627776)=T at HG ⊢
  go_enter Tryz.func80,Tryz.ntmps80
  go_wp2_with fail
  refine HC.out.mono ?_
  rintro e w1 ⟨rfl,a5⟩
  go_wp2
  go_ret
  exact ⟨by rw [← HG.out];rfl,a5⟩
 have HC:=Hi ar
 clear hc ar ap hr
 generalize l.length=N at HC ⊢
 generalize l.any (outOf 1099511627776)=T at HC ⊢
 go_enter Tryz.func41,Tryz.ntmps41
 go_wp2_with fail
 refine HC.out.mono ?_
 rintro e w1 ⟨rfl,a5⟩
 go_wp2
 go_ret
 exact ⟨rfl,a5⟩
end
end Go.Proofs.YtihodcnnappkbaaGreatDoor
