/-
  Frames in memory and frame.of. Condition: the frame reads. The walks of the three 'wrong'. Condition: the frame reads. The walk of indexFields' 'wrong'. Condition: the frame reads. The walk of schemaFields' 'put'. Condition: the frame reads, and nothing is wrong with it. The walk of dataFields' 'put'. Condition: the frame reads, and nothing is wrong with it. The walk of indexFields' 'put'. Condition: the frame reads, and nothing is wrong with it. The walks of slices.Grow (of nothing) and slices.Concat (of three). Condition: the rows read. The walk of frame.Encode. Condition: the frame reads. frame.Encode: what it tells. Condition: the frame reads.
-/
import Derived.Test.YtihodcnnappkbaaGreatDoorG4
import Derived.Test.YtihodcnnappkbaaGreatDoorG6
import Derived.Deep.RegionHeld3
import Derived.Deep.DrawnRows
import Derived.Lib.AppendZerosOnto
import Derived.Lib.Walk
import Derived.Lib.SliceRun
import Derived.Test.YtihodcnnappkbaaGreatDoorG1
set_option linter.unusedVariables false
set_option linter.unusedSimpArgs false
set_option maxHeartbeats 2000000
set_option maxRecDepth 20000
namespace Go.Proofs.YtihodcnnappkbaaGreatDoor
section
open Go.RowKit
structure Ent where
 spot:Int
 row:Int
 sch:Int
deriving DecidableEq
structure Fr where
 kind:Int
 number:Int
 cols:List Col
 seq:Int
 first:Int
 rows:Int
 block:List UInt8
 spot:Int
 frames:Int
 irows:Int
 ents:List Ent
def entCells (l:List Ent):List Value:=l.flatMap fun e=>[.int .i64 e.spot,.int .i64 e.row,.int .i64 e.sch]
theorem entCells_length (l:List Ent):(entCells l).length=3*l.length:=by
 induction l with
 | nil=>rfl
 | cons e l ih=>simp only [entCells,List.flatMap_cons,List.length_append,List.length_cons,List.length_nil] at ih ⊢;omega
theorem entCells_get (l:List Ent) (k:Nat) (hk:k<l.length):(entCells l)[3*k]? = some (.int .i64 (l[k]'hk).spot)∧(entCells l)[3*k+1]? = some (.int .i64 (l[k]'hk).row)∧(entCells l)[3*k+2]? = some (.int .i64 (l[k]'hk).sch):=by
 induction l generalizing k with
 | nil=>exact absurd hk (by simp)
 | cons e l ih=>
   cases k with
   | zero=>exact ⟨rfl,rfl,rfl⟩
   | succ k=>
     have:=ih k (by simpa using hk)
     simpa [entCells,Nat.mul_add,show 3*k+3+1=3*k+1+3 by omega,show 3*k+3+2=3*k+2+3 by omega] using this
def frCells (A:Option Addr) (c:Nat) (B:Option Addr) (d:Nat) (E:Option Addr) (k:Nat) (f:Fr):Array Value:=
 #[.int .i64 f.kind,.int .i64 f.number,.slice A f.cols.length c,.int .i64 f.seq,.int .i64 f.first,.int .i64 f.rows,.slice B f.block.length d,.int .i64 f.spot,.int .i64 f.frames,.int .i64 f.irows,.slice E f.ents.length k]
structure FrS (w:World) (S:Nat→Prop) (A B E:Option Addr) (f:Fr):Prop where
 sch:SchS w S A f.cols
 blk:Reads w B f.block
 blkS:∀ a,B=some a→f.block≠[]→S a.block
 ent:RowAt w E (entCells f.ents)
 entS:∀ a,E=some a→f.ents≠[]→S a.block
 lenB:f.block.length≤17179869184
 lenE:f.ents.length≤17179869184
theorem FrS.later {w w':World} {S:Nat→Prop} {A B E:Option Addr} {f:Fr} (h:FrS w S A B E f) (hb:Below w.heap.size w w'):FrS w' S A B E f:=
 ⟨h.sch.later hb,h.blk.below hb,h.blkS,h.ent.below hb,h.entS,h.lenB,h.lenE⟩
theorem FrS.touch {F:Nat→Prop} {w w':World} {S:Nat→Prop} {A B E:Option Addr} {f:Fr} (h:FrS w S A B E f) (ht:Touch F w w') (hF:∀ k,S k→¬F k):FrS w' S A B E f:=
 ⟨h.sch.touch ht hF,ht.reads h.blk (fun a e hn=>hF _ (h.blkS a e hn)),h.blkS,ht.row h.ent (fun a e hn=>hF _ (h.entS a e (fun e2=>hn (by rw [e2];rfl)))),h.entS,h.lenB,h.lenE⟩
structure Fr.wf (f:Fr):Prop where
 dflt:∀ x∈f.cols,x.dflt.wf
 name:∀ x∈f.cols,x.name.size≤140737488355328
def ofV (cells:Array Value) (kind:Int) (x:Array Value):Value:=
 if kind=1 then .iface 150 (.agg cells) else if kind=2 then .iface 151 (.agg cells) else if kind=3 then .iface 153 (.agg x) else .nilIface
theorem frOf_calls (k x1 x2 x3 x4 x5 x6:Value) (kind:Int) (x7 x8 x9 x10:Value) (w:World) :
 Calls Tryz.prog 71 #[.agg #[.int .i64 kind,x1,x2,x3,x4,x5,x6,x7,x8,x9,x10]] w fun e w'=>e=.returned (ofV #[.int .i64 kind,x1,x2,x3,x4,x5,x6,x7,x8,x9,x10] kind #[x7,x8,x9,x10])∧Keeps w w':=by
 by_cases h1:kind=1
 · subst h1
   go_enter Tryz.func71,Tryz.ntmps71
   go_wp2
   go_ret
   exact ⟨rfl,(Keeps.refl w).alloc _⟩
 by_cases h2:kind=2
 · subst h2
   go_enter Tryz.func71,Tryz.ntmps71
   go_wp2
   go_ret
   exact ⟨rfl,(Keeps.refl w).alloc _⟩
 by_cases h3:kind=3
 · subst h3
   go_enter Tryz.func71,Tryz.ntmps71
   go_wp2
   go_ret
   exact ⟨rfl,(Keeps.refl w).alloc _⟩
 have e:∀ c x,ofV c kind x=.nilIface:=fun c x=>by simp [ofV,h1,h2,h3]
 rw [e]
 have q1:(kind==1)=false:=by simpa using h1
 have q2:(kind==2)=false:=by simpa using h2
 have q3:(kind==3)=false:=by simpa using h3
 go_enter Tryz.func71,Tryz.ntmps71
 go_wp2
 go_ret
 exact ⟨rfl,(Keeps.refl w).alloc _⟩
/-! ### what is wrong with the fields -/
def schWrong (f:Fr):Int:=if outOf 2147483648 f.number then 7 else schCheck f.cols
def datWrong (f:Fr):Int:=if outOf 2147483648 f.number||(outOf 1099511627776 f.seq||outOf 1099511627776 f.first)||decide (f.rows<1)||decide (64<f.rows) then 7 else 0
def entBad (e:Ent):Bool:=[e.spot,e.row,e.sch].any (outOf 1099511627776)
def idxWrong (f:Fr):Int:=if [f.spot,f.frames,f.irows].any (outOf 1099511627776) then 7 else if 64<f.ents.length then 3 else if f.ents.any entBad then 7 else 0
def frWrong (f:Fr):Int:=if f.kind=1 then schWrong f else if f.kind=2 then datWrong f else if f.kind=3 then idxWrong f else 60
/-! ### the bytes of the fields -/
def entPut (e:Ent):List UInt8:=lebs [e.spot.toNat,e.row.toNat,e.sch.toNat]
def schPut (f:Fr):List UInt8:=lebs [f.number.toNat]++putS f.cols
def datPut (f:Fr):List UInt8:=lebs [f.number.toNat,f.seq.toNat,f.first.toNat,f.rows.toNat]++f.block
def idxPut (f:Fr):List UInt8:=lebs [f.spot.toNat,f.frames.toNat,f.irows.toNat,f.ents.length]++f.ents.flatMap entPut
def frPut (f:Fr):List UInt8:=if f.kind=1 then schPut f else if f.kind=2 then datPut f else idxPut f
theorem i64_one {w:World} {g:Nat} {a:Int} {t:TypeId} (h:w.heap[g]? = some (.cells #[.int .i64 a] t (0,0))):RowAt w (some ⟨g,0,none⟩) (i64s [a]):=RowAt.of_row h _ 1 rfl
theorem schWrong_calls (A B E:Option Addr) (c d k:Nat) (f:Fr) (w:World) (hf:FrS w (fun b=>b<w.heap.size) A B E f) (hw:f.wf) (aS:Tabs w) :
 Calls Tryz.prog 205 #[.agg (frCells A c B d E k f)] w fun e w'=>e=.returned (.int .i64 (schWrong f))∧Keeps w w':=by
 obtain ⟨W,hW⟩:∃ W,W=(w.alloc (.cells (frCells A c B d E k f) 150)).alloc (.cells #[.int .i64 f.number] 2):=⟨_,rfl⟩
 have a8:Keeps w W:=by rw [hW];exact ((Keeps.refl w).alloc _).alloc _
 have b1:W.heap[w.heap.size+1]? = some (.cells #[.int .i64 f.number] 2):=by rw [hW];exact obj_new_at _ _ _ (by simp)
 have b0:W.heap[w.heap.size]? = some (.cells (frCells A c B d E k f) 150):=by rw [hW];exact obj_old (obj_new w _) _
 have am:=beyond_calls 2147483648 (some ⟨w.heap.size+1,0,none⟩) 1 [f.number] W (by simp) (i64_one b1)
 have e1:[f.number].any (outOf 2147483648)=outOf 2147483648 f.number:=by simp
 rw [e1] at am
 have ac:=Hi am
 have HF:=Hi hf
 have HT:=Hi aS
 have HB:=Hi b0
 have HK:=Hi a8
 unfold schWrong frCells at *
 clear am hf aS b0 b1 a8 e1
 generalize hL:f.cols.length=N at *
 have HL:=Hi hL
 generalize bx:f.block.length=NB at *
 generalize db:f.ents.length=NE at *
 clear hL bx db
 cases hb:outOf 2147483648 f.number with
 | true=>
   rw [hb] at ac
   rw [if_pos rfl]
   go_enter Tryz.func205,Tryz.ntmps205
   go_wp2_with fail
   rw [← hW]
   clear hW
   refine ac.out.mono ?_
   rintro e w1 ⟨rfl,a5⟩
   have ak:=Hi (HK.out.trans a5)
   clear a5
   go_wp2
   go_ret
   exact ⟨rfl,ak.out⟩
 | false=>
   rw [hb] at ac
   simp only [Bool.false_eq_true,if_false]
   go_enter Tryz.func205,Tryz.ntmps205
   go_wp2_with fail
   rw [← hW]
   clear hW
   refine ac.out.mono ?_
   rintro e w1 ⟨rfl,a5⟩
   have ax:=HK.out.trans a5
   have a9:=(a5.below.block _ (obj_lt HB.out)).trans HB.out
   have c2:w1.cell? ⟨w.heap.size,2,none⟩=some (.slice A N c):=by rw [obj_cell a9];rfl
   have aV:=check_calls A c f.cols w1 ((HF.out.sch.later ax.below).mono fun b hb _=>hb) hw.dflt hw.name (HT.out.below ax.below)
   rw [HL.out] at aV
   have bv:=Hi aV
   have bt:=Hi ax
   clear a5 ax a9 aV
   go_wp2_with fail
   refine bv.out.mono ?_
   rintro e w2 ⟨rfl,a7⟩
   have aR:=Hi (bt.out.trans a7)
   clear a7
   go_wp2
   go_ret
   exact ⟨rfl,aR.out⟩
theorem i64_two {w:World} {g:Nat} {a b:Int} {t:TypeId} (h:w.heap[g]? = some (.cells #[.int .i64 a,.int .i64 b] t (0,0))):RowAt w (some ⟨g,0,none⟩) (i64s [a,b]):=RowAt.of_row h _ 2 rfl
theorem i64_three {w:World} {g:Nat} {a b c:Int} {t:TypeId} (h:w.heap[g]? = some (.cells #[.int .i64 a,.int .i64 b,.int .i64 c] t (0,0))):RowAt w (some ⟨g,0,none⟩) (i64s [a,b,c]):=RowAt.of_row h _ 3 rfl
theorem datWrong_calls (A B E:Option Addr) (c d k:Nat) (f:Fr) (w:World) :
 Calls Tryz.prog 210 #[.agg (frCells A c B d E k f)] w fun e w'=>e=.returned (.int .i64 (datWrong f))∧Keeps w w':=by
 obtain ⟨W,hW⟩:∃ W,W=(w.alloc (.cells (frCells A c B d E k f) 151)).alloc (.cells #[.int .i64 f.number] 2):=⟨_,rfl⟩
 have a8:Keeps w W:=by rw [hW];exact ((Keeps.refl w).alloc _).alloc _
 have b1:W.heap[w.heap.size+1]? = some (.cells #[.int .i64 f.number] 2):=by rw [hW];exact obj_new_at _ _ _ (by simp)
 have b0:W.heap[w.heap.size]? = some (.cells (frCells A c B d E k f) 151):=by rw [hW];exact obj_old (obj_new w _) _
 have am:=beyond_calls 2147483648 (some ⟨w.heap.size+1,0,none⟩) 1 [f.number] W (by simp) (i64_one b1)
 have e1:[f.number].any (outOf 2147483648)=outOf 2147483648 f.number:=by simp
 rw [e1] at am
 have ac:=Hi am
 have HB:=Hi b0
 have HK:=Hi a8
 unfold datWrong frCells at *
 clear am b0 b1 a8 e1
 generalize f.cols.length=N at *
 generalize f.block.length=NB at *
 generalize f.ents.length=NE at *
 cases hb:outOf 2147483648 f.number with
 | true=>
   rw [hb] at ac
   simp only [Bool.true_or,if_true]
   go_enter Tryz.func210,Tryz.ntmps210
   go_wp2_with fail
   rw [← hW]
   clear hW
   refine ac.out.mono ?_
   rintro e w1 ⟨rfl,a5⟩
   have ak:=Hi (HK.out.trans a5)
   clear a5
   go_wp2
   go_ret
   exact ⟨rfl,ak.out⟩
 | false=>
   rw [hb] at ac
   simp only [Bool.false_or]
   have e2:[f.seq,f.first].any (outOf 1099511627776)=(outOf 1099511627776 f.seq||outOf 1099511627776 f.first):=by simp
   rw [← e2]
   clear e2
   obtain ⟨T,hT⟩:∃ T,T=[f.seq,f.first].any (outOf 1099511627776):=⟨_,rfl⟩
   rw [← hT]
   have HT:=Hi hT
   clear hT
   generalize hR:(if (T||decide (f.rows<1)||decide (64<f.rows))=true then (7:Int) else 0)=R
   have HR:=Hi hR
   clear hR
   go_enter Tryz.func210,Tryz.ntmps210
   go_wp2_with fail
   rw [← hW]
   clear hW
   refine ac.out.mono ?_
   rintro e w1 ⟨rfl,a5⟩
   have ax:=HK.out.trans a5
   have a9:=(a5.below.block _ (obj_lt HB.out)).trans HB.out
   obtain ⟨W2,ah⟩:∃ W2,W2=w1.alloc (.cells #[.int .i64 f.seq,.int .i64 f.first] 2):=⟨_,rfl⟩
   have a7:Keeps w1 W2:=by rw [ah];exact (Keeps.refl w1).alloc _
   have b2:W2.heap[w1.heap.size]? = some (.cells #[.int .i64 f.seq,.int .i64 f.first] 2):=by rw [ah];exact obj_new w1 _
   have aw:=beyond_calls 1099511627776 (some ⟨w1.heap.size,0,none⟩) 2 [f.seq,f.first] W2 (by simp) (i64_two b2)
   rw [← HT.out] at aw
   have aD:=(a7.below.block _ (obj_lt a9)).trans a9
   have c3:w1.cell? ⟨w.heap.size,3,none⟩=some (.int .i64 f.seq):=by rw [obj_cell a9];rfl
   have c4:w1.cell? ⟨w.heap.size,4,none⟩=some (.int .i64 f.first):=by rw [obj_cell a9];rfl
   have bt:=Hi (ax.trans a7)
   have aG:=Hi aw
   have bV:=Hi aD
   clear a5 ax a9 a7 b2 aw aD ac HK HB
   go_wp2_with fail
   rw [← ah]
   clear ah
   refine aG.out.mono ?_
   rintro e w3 ⟨rfl,aH⟩
   have cO:=(aH.below.block _ (obj_lt bV.out)).trans bV.out
   have c5:w3.cell? ⟨w.heap.size,5,none⟩=some (.int .i64 f.rows):=by rw [obj_cell cO];rfl
   have aT:=Hi (bt.out.trans aH)
   clear cO aH aG bV bt c3 c4
   cases T with
   | true=>
     go_wp2
     go_ret
     exact ⟨by rw [← HR.out];rfl,aT.out⟩
   | false=>
     by_cases aN:f.rows<1
     · have a0:=HR.out
       simp only [aN,decide_true,Bool.false_or,Bool.true_or,if_true] at a0
       have aI:=Hi a0
       clear a0 HR
       go_wp2
       go_ret
       exact ⟨by rw [← aI.out];rfl,aT.out⟩
     · by_cases ck:64<f.rows
       · have a0:=HR.out
         simp only [aN,ck,decide_true,decide_false,Bool.false_or,if_true] at a0
         have aI:=Hi a0
         clear a0 HR
         go_wp2
         go_ret
         exact ⟨by rw [← aI.out];rfl,aT.out⟩
       · have a0:=HR.out
         simp only [aN,ck,decide_false,Bool.false_or,Bool.false_eq_true,if_false] at a0
         have aI:=Hi a0
         clear a0 HR
         go_wp2
         go_ret
         exact ⟨by rw [← aI.out];rfl,aT.out⟩
def ixCells (E:Option Addr) (k:Nat) (f:Fr):Array Value:=#[.int .i64 f.spot,.int .i64 f.frames,.int .i64 f.irows,.slice E f.ents.length k]
theorem FrS.ent_at {w:World} {S:Nat→Prop} {A B E:Option Addr} {f:Fr} (h:FrS w S A B E f) (j:Nat) (hj:j<f.ents.length) :
 ∃ ad,E=some ad∧S ad.block∧w.cell? (ad.add (j*3))=some (.int .i64 (f.ents[j]'hj).spot)∧w.cell? ⟨(ad.add (j*3)).block,(ad.add (j*3)).off+1,none⟩=some (.int .i64 (f.ents[j]'hj).row) ∧
   w.cell? ⟨(ad.add (j*3)).block,(ad.add (j*3)).off+2,none⟩=some (.int .i64 (f.ents[j]'hj).sch):=by
 obtain ⟨g0,g1,g2⟩:=entCells_get f.ents j hj
 obtain ⟨ad,e,c0⟩:=h.ent _ _ g0
 subst e
 have hg:∀ {i:Nat} {u:Value},0<i→(entCells f.ents)[3*j+i]? = some u→w.cell? ⟨(ad.add (j*3)).block,(ad.add (j*3)).off+i,none⟩=some u:=fun hi hx=>by
  obtain ⟨ad',e,dd⟩:=h.ent _ _ hx
  cases e
  rw [← addr_add_pos _ _ hi,addr_add_add,Nat.mul_comm j 3]
  exact dd
 exact ⟨ad,rfl,h.entS ad rfl (fun e=>by rw [e] at hj;simp at hj),by rw [Nat.mul_comm];exact c0,hg (by omega) g1,hg (by omega) g2⟩
theorem any_drop {α:Type} (l:List α) (p:α→Bool) (j:Nat) (hj:j<l.length):(l.drop j).any p=(p (l[j]'hj)||(l.drop (j+1)).any p):=by
 rw [List.drop_eq_getElem_cons hj,List.any_cons]
theorem idxWrong_calls (A B E:Option Addr) (k:Nat) (f:Fr) (w:World) (hf:FrS w (fun b=>b<w.heap.size) A B E f) :
 Calls Tryz.prog 212 #[.agg (ixCells E k f)] w fun e w'=>e=.returned (.int .i64 (idxWrong f))∧Keeps w w':=by
 obtain ⟨W,hW⟩:∃ W,W=(w.alloc (.cells (ixCells E k f) 153)).alloc (.cells #[.int .i64 f.spot,.int .i64 f.frames,.int .i64 f.irows] 2):=⟨_,rfl⟩
 have a8:Keeps w W:=by rw [hW];exact ((Keeps.refl w).alloc _).alloc _
 have b1:W.heap[w.heap.size+1]? = some (.cells #[.int .i64 f.spot,.int .i64 f.frames,.int .i64 f.irows] 2):=by rw [hW];exact obj_new_at _ _ _ (by simp)
 have b0:W.heap[w.heap.size]? = some (.cells (ixCells E k f) 153):=by rw [hW];exact obj_old (obj_new w _) _
 have am:=beyond_calls 1099511627776 (some ⟨w.heap.size+1,0,none⟩) 3 [f.spot,f.frames,f.irows] W (by simp) (i64_three b1)
 have cz:=hf.lenE
 have ac:=Hi am
 have HF:=Hi hf
 have HB:=Hi b0
 have HK:=Hi a8
 generalize hR:idxWrong f=R
 unfold idxWrong at hR
 unfold ixCells at *
 clear am hf b0 b1 a8
 generalize hL:f.ents.length=N at *
 have HL:=Hi hL
 clear hL
 cases hb:[f.spot,f.frames,f.irows].any (outOf 1099511627776) with
 | true=>
   rw [hb] at ac hR
   rw [if_pos rfl] at hR
   subst hR
   go_enter Tryz.func212,Tryz.ntmps212
   go_wp2_with fail
   rw [← hW]
   clear hW
   refine ac.out.mono ?_
   rintro e w1 ⟨rfl,a5⟩
   have ak:=Hi (HK.out.trans a5)
   clear a5
   go_wp2
   go_ret
   exact ⟨rfl,ak.out⟩
 | false=>
   rw [hb] at ac hR
   simp only [Bool.false_eq_true,if_false] at hR
   by_cases hN:64<N
   · rw [if_pos hN] at hR
     subst hR
     go_enter Tryz.func212,Tryz.ntmps212
     go_wp2_with fail
     rw [← hW]
     clear hW
     refine ac.out.mono ?_
     rintro e w1 ⟨rfl,a5⟩
     have a9:=(a5.below.block _ (obj_lt HB.out)).trans HB.out
     have c3:w1.cell? ⟨w.heap.size,3,none⟩=some (.slice E N k):=by rw [obj_cell a9];rfl
     have ak:=Hi (HK.out.trans a5)
     clear a5 a9 HB ac
     go_wp2
     go_ret
     exact ⟨rfl,ak.out⟩
   · rw [if_neg hN] at hR
     have HR:=Hi hR.symm
     clear hR
     go_enter Tryz.func212,Tryz.ntmps212
     go_wp2_with fail
     rw [← hW]
     clear hW
     refine ac.out.mono ?_
     rintro e w1 ⟨rfl,a5⟩
     have a9:=(a5.below.block _ (obj_lt HB.out)).trans HB.out
     have c3:w1.cell? ⟨w.heap.size,3,none⟩=some (.slice E N k):=by rw [obj_cell a9];rfl
     have ak:=Hi (HK.out.trans a5)
     clear a5 a9 HB ac HK
     go_wp2_with fail
     go_loopw [27] (fun i wr=>∃ j:Nat,j≤N∧i=.int .i64 (j:Int)∧R=(if (f.ents.drop j).any entBad=true then 7 else 0)∧Keeps w wr) (fun i _=>N-(intOf i).toNat)
     case atStart=>exact ⟨0,by omega,rfl,HR.out,ak.out⟩
     case round=>
      obtain ⟨j,hj,rfl,a0,aj⟩:=hrel
      by_cases aZ:j<N
      · have a6:j<f.ents.length:=by rw [HL.out];exact aZ
        rw [any_drop _ _ j a6] at a0
        obtain ⟨ad,rfl,_,e0,e1,e2⟩:=(HF.out.later aj.below).ent_at j a6
        generalize f.ents[j]'a6=x at a0 e0 e1 e2
        obtain ⟨W2,ah⟩:∃ W2,W2=(wr.alloc (.cells #[.int .i64 x.spot,.int .i64 x.row,.int .i64 x.sch] 78)).alloc (.cells #[.int .i64 x.spot,.int .i64 x.row,.int .i64 x.sch] 2):=⟨_,rfl⟩
        have a7:Keeps wr W2:=by rw [ah];exact ((Keeps.refl wr).alloc _).alloc _
        have b2:W2.heap[wr.heap.size+1]? = some (.cells #[.int .i64 x.spot,.int .i64 x.row,.int .i64 x.sch] 2):=by rw [ah];exact obj_new_at _ _ _ (by simp)
        have aw:=beyond_calls 1099511627776 (some ⟨wr.heap.size+1,0,none⟩) 3 [x.spot,x.row,x.sch] W2 (by simp) (i64_three b2)
        change Calls _ _ _ _ (fun e w'=>e=.returned (.bool (entBad x))∧Keeps W2 w') at aw
        have aG:=Hi aw
        have ae:=Hi a0
        have bg:=Hi (aj.trans a7)
        clear aw a0 aj a7 b2 HR
        go_wp2_with fail
        rw [← ah]
        clear ah
        refine aG.out.mono ?_
        rintro e w3 ⟨rfl,aH⟩
        have aT:=Hi (bg.out.trans aH)
        clear aH bg
        cases aD:entBad x with
        | true=>
          have a0:=ae.out
          rw [aD,Bool.true_or,if_pos rfl] at a0
          have aI:=Hi a0
          clear a0 ae
          go_wp2
          go_ret
          exact ⟨by rw [aI.out];rfl,aT.out⟩
        | false=>
          have a0:=ae.out
          rw [aD,Bool.false_or] at a0
          have aI:=Hi a0
          clear a0 ae
          go_wp2
          first
           | exact ⟨⟨j+1,by omega,by go_num,aI.out,aT.out⟩,by simp [intOf];omega⟩
           | (go_roundw
              case rel=>exact ⟨j+1,by omega,by go_num,aI.out,aT.out⟩
              case measure=>simp [intOf];omega)
      · have e:f.ents.drop j=[]:=List.drop_eq_nil_of_le (by rw [HL.out];omega)
        rw [e] at a0
        simp only [List.any_nil,Bool.false_eq_true,if_false] at a0
        have ae:=Hi a0
        clear a0 e
        go_wp2
        go_ret
        exact ⟨by rw [ae.out];rfl,aj⟩
theorem outOf_no {m n:Int} (h:outOf m n=false):∃ x:Nat,n=(x:Int)∧(x:Int)<m:=by
 unfold outOf at h
 rw [Bool.or_eq_false_iff,decide_eq_false_iff_not,decide_eq_false_iff_not] at h
 exact ⟨n.toNat,by omega,by omega⟩
theorem schWrong_no {f:Fr} (h:schWrong f=0):∃ x:Nat,f.number=(x:Int)∧x<2147483648∧schCheck f.cols=0:=by
 unfold schWrong at h
 split at h
 · omega
 · rename_i h1
   obtain ⟨x,e,hx⟩:=outOf_no (by simpa using h1)
   exact ⟨x,e,by omega,h⟩
theorem schCheck_len {l:List Col} (h:schCheck l=0):(putS l).length≤1024:=by
 unfold schCheck at h
 split at h
 · omega
 split at h
 · omega
 split at h
 · split at h
   · omega
   · omega
 · contradiction
theorem enc_ok {w w':World} {l:List Col} {e:Ending} (h0:schCheck l=0) (h:EncPost w l e w'):∃ A c,e=.returned (.tuple #[.slice A (putS l).length c,.int .i64 0])∧OwnB 5 w' w.heap.size (.slice A (putS l).length c) (putS l)∧Keeps w w':=by
 unfold EncPost at h
 rwa [if_pos h0] at h
theorem n64_one {w:World} {g:Nat} {a:Nat} {t:TypeId} (h:w.heap[g]? = some (.cells #[.int .i64 (a:Int)] t (0,0))):RowAt w (some ⟨g,0,none⟩) (n64s [a]):=RowAt.of_row h _ 1 rfl
theorem n64_three {w:World} {g:Nat} {a b c:Nat} {t:TypeId} (h:w.heap[g]? = some (.cells #[.int .i64 (a:Int),.int .i64 (b:Int),.int .i64 (c:Int)] t (0,0))):RowAt w (some ⟨g,0,none⟩) (n64s [a,b,c]):=RowAt.of_row h _ 3 rfl
theorem n64_four {w:World} {g:Nat} {a b c d:Nat} {t:TypeId} (h:w.heap[g]? = some (.cells #[.int .i64 (a:Int),.int .i64 (b:Int),.int .i64 (c:Int),.int .i64 (d:Int)] t (0,0))):RowAt w (some ⟨g,0,none⟩) (n64s [a,b,c,d]):=RowAt.of_row h _ 4 rfl
theorem schPut_calls (base:Nat) (v:Value) (l:List UInt8) (A B E:Option Addr) (c d k:Nat) (f:Fr) (w:World) (hf:FrS w (fun b=>b<w.heap.size) A B E f) (hw:f.wf) (aS:Tabs w) (h0:schWrong f=0)
 (a4:OwnB 5 w base v l) (ar:base≤w.heap.size) (au:l.length≤70368744177664) :
 Calls Tryz.prog 204 #[.agg (frCells A c B d E k f),v] w fun e w'=>∃ v',e=.returned v'∧Grows w w' base v v' (l++schPut f):=by
 obtain ⟨W,hW⟩:∃ W,W=w.alloc (.cells (frCells A c B d E k f) 150):=⟨_,rfl⟩
 have a8:Keeps w W:=by rw [hW];exact (Keeps.refl w).alloc _
 have b0:W.heap[w.heap.size]? = some (.cells (frCells A c B d E k f) 150):=by rw [hW];exact obj_new w _
 obtain ⟨n,hn,bd,aK⟩:=schWrong_no h0
 have bK:=schCheck_len aK
 have am:=schEncode_calls A c f.cols W ((hf.sch.later a8.below).mono fun b hb _=>hb) hw.dflt hw.name (aS.below a8.below)
 replace am:=am.mono fun e w' h=>enc_ok aK h
 have dp:w.heap.size≤W.heap.size:=a8.size
 have he:schPut f=lebs [n]++putS f.cols:=by unfold schPut;rw [hn];rfl
 rw [he]
 have ab:=lebs_le [n] (fun m hm=>by simp at hm;omega)
 obtain ⟨V,q,rfl,be,_⟩:=a4.form
 have ac:=Hi am
 have HB:=Hi b0
 have HK:=Hi a8
 have HO:=Hi a4
 have HP:=Hi bK
 have bi:=Hi ab
 unfold frCells at *
 rw [hn] at hW HB ⊢
 clear am hf hw aS b0 a8 he hn aK h0 a4 bK ab
 generalize f.cols.length=N at *
 generalize f.block.length=NB at *
 generalize f.ents.length=NE at *
 generalize hL:l.length=L at au be HO ⊢
 have HL:=Hi hL
 clear hL
 go_enter Tryz.func204,Tryz.ntmps204
 go_wp2_with fail
 rw [← hW]
 clear hW
 refine ac.out.mono ?_
 rintro e w1 ⟨A1,c1,rfl,aa,a5⟩
 obtain ⟨_,_,e1,aM,aN,_,_⟩:=aa.form
 injection e1 with e1 _ e3
 subst e1 e3
 obtain ⟨W2,ah⟩:∃ W2,W2=w1.alloc (.cells #[.int .i64 (n:Int)] 2):=⟨_,rfl⟩
 have a7:Keeps w1 W2:=by rw [ah];exact (Keeps.refl w1).alloc _
 have b2:W2.heap[w1.heap.size]? = some (.cells #[.int .i64 (n:Int)] 2):=by rw [ah];exact obj_new w1 _
 have a9:=(a5.below.block _ (obj_lt HB.out)).trans HB.out
 have d1:w1.cell? ⟨w.heap.size,1,none⟩=some (.int .i64 (n:Int)):=by rw [obj_cell a9];rfl
 have ax:=HK.out.trans a5
 have bn:=ax.size
 have hl:=own_lt HO.out
 have aw:=frPut_calls base (.slice V L q) l (some ⟨w1.heap.size,0,none⟩) 1 [n] W2 (HO.out.below (ax.trans a7).below) (by have:=a7.size;omega) (by intro m hm;simp at hm;omega) (n64_one b2) (fun a ha e=>by
  cases ha
  have:=hl _ e
  simp only at this
  omega) (by have:=HL.out;simp;omega)
 have aG:=Hi aw
 have aR:=Hi (ax.trans a7)
 have cT:=Hi (aN.below a7.below)
 have aO:=Hi hl
 have dl:=Hi (own_lt aa)
 have c9:=Hi aa
 have HZ:=Hi a7.size
 clear aa aN a5 a7 b2 a9 ax aw hl HB ac
 generalize hm:(putS f.cols).length=mm at *
 have HM:=Hi hm
 clear hm
 go_wp2_with fail
 rw [← ah]
 clear ah
 refine aG.out.mono ?_
 rintro e w3 ⟨v3,rfl,b4⟩
 have cC:=b4.touch.reads cT.out (fun a e _ hF=>by
  have g1:=c9.out.ge a.block (by rw [e];rfl)
  have g2:=aO.out _ hF
  omega)
 obtain ⟨A3,c3,rfl,cZ,_⟩:=b4.own.form
 have d9:=Hi cC
 have b5:=Hi (Grows.first aR.out b4)
 clear cC b4 aG
 generalize cA:(l++lebs [n]).length=m3 at *
 have dn:=Hi cA
 clear cA
 go_wp2_with (at_builtin;refine wpList_append_bytes (w0:=w3) base rfl _ _ 31 5 rfl Tryz.underlying31 info_u8b (.slice A3 m3 c3) (l++lebs [n]) (putS f.cols) rfl ?c0 A1 c1 (by rw [HM.out];rfl) d9.out ?c2 ?c3 ?c4 ?_)
 case c0=>exact b5.out.own
 case c2=>have:=HL.out;have:=HP.out;have cu:(lebs [n]).length≤10*1:=bi.out;have:=HM.out;rw [List.length_append];omega
 case c3=>have:=b5.out.touch.size;omega
 case c4=>exact Below.refl _ _
 intro v4 w4 af _ ay cd
 have bz:=Hi (b5.out.trans (Grows.of af ay cd))
 clear af ay cd
 go_wp2
 go_ret
 exact ⟨_,rfl,by first | exact bz.out | (rw [← List.append_assoc];exact bz.out)⟩
end
section
open Go.RowKit
attribute [local go_sem ↓] Go.wp_at_zero Go.wp_at_succ
section
variable {P:Program} {ops:Array Oper} {o:Oper} {a:Act} {w:World} {K:Act→World→Prop} {Q:Exit→Act→World→Prop} {E:Prop}
theorem step_append_grows (base:Nat) (dh:o.guard=none) (s x:Operand)
 (ho:o.op=.call { callee:=.builtin .append,args:=#[s,x],argTypes:=#[31,31] })
 (ht:P.underlying 31=some (.slice 5)) (bm:(P.info? 5).map (fun i=>(i.zero,i.size,i.bytes))=some (some (.int .u8 0),1,1))
 (v:Value) (l m:List UInt8) (hs:a.eval s=v) (a4:OwnB 5 w base v l)
 (A:Option Addr) (c:Nat) (hx:a.eval x=.slice A m.length c) (hr:Reads w A m)
 (au:l.length+m.length≤140737488355328) (ar:base≤w.heap.size)
 (h:∀ v' w',Grows w w' base v v' (l++m)→K (a.put o.dst v') w') :
 if Region.wanted o (yielded ops a.tmps)=true then Oper.wp P o a w K Q else E:=by
 have hw:Region.wanted o (yielded ops a.tmps)=true:=by simp [Region.wanted,dh]
 rw [if_pos hw]
 obtain ⟨v',w',bM,h2,h3,h4⟩:=run_append_row (P:=P) w base 31 o.type 5 (.int .u8 0) 1 1 ht bm rfl (by omega) v l.length (u8s l) a4 A m.length c (u8s m) (by rw [u8s_length];omega) hr (u8s_one m) (by simp only [maxLen];omega) (by omega) ar
 unfold Oper.wp execOp
 simp only [ho,resolve,invoke,builtin,Sem.run_bind,Sem.run_pure,Result.andThen_ok,List.map_toArray,List.map_cons,List.map_nil,hs,hx,bM]
 exact h _ _ (Grows.of (by unfold OwnB;rw [u8s_append,List.length_append];exact h2) h3 h4)
end
theorem datWrong_no {f:Fr} (h:datWrong f=0):∃ n s t r:Nat,f.number=(n:Int)∧f.seq=(s:Int)∧f.first=(t:Int)∧f.rows=(r:Int)∧n<2147483648∧s<1099511627776∧t<1099511627776∧1≤r∧r≤64:=by
 unfold datWrong at h
 split at h
 · omega
 · rename_i h1
   simp only [Bool.or_eq_true,not_or,Bool.not_eq_true,decide_eq_true_eq] at h1
   obtain ⟨⟨⟨h1,h2,h3⟩,h4⟩,h5⟩:=h1
   obtain ⟨n,e1,b1⟩:=outOf_no h1
   obtain ⟨s,e2,b2⟩:=outOf_no h2
   obtain ⟨t,e3,b3⟩:=outOf_no h3
   exact ⟨n,s,t,f.rows.toNat,e1,e2,e3,by omega,by omega,by omega,by omega,by omega,by omega⟩
theorem datPut_calls (base:Nat) (v:Value) (l:List UInt8) (A B E:Option Addr) (c d k:Nat) (f:Fr) (w:World) (hf:FrS w (fun b=>b<base) A B E f) (h0:datWrong f=0)
 (a4:OwnB 5 w base v l) (ar:base≤w.heap.size) (au:l.length≤70368744177664) :
 Calls Tryz.prog 209 #[.agg (frCells A c B d E k f),v] w fun e w'=>∃ v',e=.returned v'∧Grows w w' base v v' (l++datPut f):=by
 obtain ⟨n,s,t,r,hn,hs,ht,hr,bd,bD,bQ,_,aN⟩:=datWrong_no h0
 have he:datPut f=lebs [n,s,t,r]++f.block:=by unfold datPut;rw [hn,hs,ht,hr];rfl
 rw [he]
 obtain ⟨W,hW⟩:∃ W,W=((w.alloc (.cells (frCells A c B d E k f) 151)).alloc (.cells #[.int .i64 (n:Int),.int .i64 (s:Int),.int .i64 (t:Int),.int .i64 (r:Int)] 2)).drew:=⟨_,rfl⟩
 have a8:Keeps w W:=by rw [hW];exact (((Keeps.refl w).alloc _).alloc _).trans (Keeps.drew _)
 have b1:W.heap[w.heap.size+1]? = some (.cells #[.int .i64 (n:Int),.int .i64 (s:Int),.int .i64 (t:Int),.int .i64 (r:Int)] 2):=by rw [hW];show (World.alloc _ _).heap[_]? = _;exact obj_new_at _ _ _ (by simp)
 have b0:W.heap[w.heap.size]? = some (.cells (frCells A c B d E k f) 151):=by rw [hW];show (World.alloc _ _).heap[_]? = _;exact obj_old (obj_new w _) _
 have hl:=own_lt a4
 have hc:=frPut_calls base v l (some ⟨w.heap.size+1,0,none⟩) 4 [n,s,t,r] W (a4.below a8.below) (by have:=a8.size;omega) (by intro m hm;simp at hm;omega) (n64_four b1) (fun a ha e=>by
  cases ha
  have:=hl _ e
  simp only at this
  omega) (by simp;omega)
 have ab:=lebs_le [n,s,t,r] (fun m hm=>by simp at hm;omega)
 have d7:=hf.lenB
 have cP:=hf.blk.below a8.below
 have cE:=hf.blkS
 have bb:=a4.ge
 obtain ⟨V,q,rfl,be,_⟩:=a4.form
 have HC:=Hi hc
 have HB:=Hi b0
 have HK:=Hi a8
 have bi:=Hi ab
 have de:=Hi cP
 have da:=Hi cE
 have b7:=Hi bb
 have aO:=Hi hl
 unfold frCells at *
 rw [hn,hs,ht,hr] at hW HB ⊢
 clear hc b0 b1 a8 ab cP cE hf h0 a4 he hn hs ht hr hl bb
 generalize f.cols.length=N at *
 generalize bx:f.block.length=NB at *
 have cn:=Hi bx
 generalize f.ents.length=NE at *
 generalize hL:l.length=L at au be HC b7 aO ⊢
 have HL:=Hi hL
 clear hL bx
 go_enter Tryz.func209,Tryz.ntmps209
 go_wp2_with fail
 go_region_held3 (fun w'=>w'.cell? ⟨w.heap.size,1,none⟩=some (.int .i64 (n:Int))∧w'.cell? ⟨w.heap.size,3,none⟩=some (.int .i64 (s:Int))∧w'.cell? ⟨w.heap.size,4,none⟩=some (.int .i64 (t:Int))∧w'.cell? ⟨w.heap.size,5,none⟩=some (.int .i64 (r:Int))∧w'.cell? ⟨w.heap.size,6,none⟩=some (.slice B NB d)) (go_keep) (first
  | (go_simp;go_at_call 206;rw [← hW];refine HC.out.mono ?_;rintro e w1 ⟨v1,rfl,aA⟩
     have a9:w1.heap[w.heap.size]? = _:=aA.touch.obj HB.out (fun e=>by have:=aO.out _ e;omega)
     have d1:w1.cell? ⟨w.heap.size,1,none⟩=some (.int .i64 (n:Int)):=by rw [obj_cell a9];rfl
     have d3:w1.cell? ⟨w.heap.size,3,none⟩=some (.int .i64 (s:Int)):=by rw [obj_cell a9];rfl
     have d4:w1.cell? ⟨w.heap.size,4,none⟩=some (.int .i64 (t:Int)):=by rw [obj_cell a9];rfl
     have d5:w1.cell? ⟨w.heap.size,5,none⟩=some (.int .i64 (r:Int)):=by rw [obj_cell a9];rfl
     have d6:w1.cell? ⟨w.heap.size,6,none⟩=some (.slice B NB d):=by rw [obj_cell a9];rfl
     obtain ⟨A1,c1,rfl,aM,_⟩:=aA.own.form
     generalize bo:(l++lebs [n,s,t,r]).length=M1 at aA aM
     have dx:=Hi bo
     have aQ:=Hi aA
     clear aA a9 bo)
  | (refine step_append_grows base (by rfl) _ _ (by rfl) Tryz.underlying31 info_u8b (.slice A1 M1 c1) (l++lebs [n,s,t,r]) f.block (by rfl) aQ.out.own B d (by rw [cn.out];rfl) (aQ.out.touch.reads de.out (fun a e cz hF=>by have g1:=da.out a e cz;have g2:=b7.out _ hF;omega)) (by have cu:(lebs [n,s,t,r]).length≤10*4:=bi.out;have:=HL.out;have:=cn.out;rw [List.length_append];omega) (by have:=aQ.out.touch.size;have:=HK.out.size;omega) ?_
     intro v2 w2 bc
     have a9:w2.heap[w.heap.size]? = _:=(aQ.out.trans bc).touch.obj HB.out (fun e=>by have:=aO.out _ e;omega)
     have d1:w2.cell? ⟨w.heap.size,1,none⟩=some (.int .i64 (n:Int)):=by rw [obj_cell a9];rfl
     have d3:w2.cell? ⟨w.heap.size,3,none⟩=some (.int .i64 (s:Int)):=by rw [obj_cell a9];rfl
     have d4:w2.cell? ⟨w.heap.size,4,none⟩=some (.int .i64 (t:Int)):=by rw [obj_cell a9];rfl
     have d5:w2.cell? ⟨w.heap.size,5,none⟩=some (.int .i64 (r:Int)):=by rw [obj_cell a9];rfl
     have d6:w2.cell? ⟨w.heap.size,6,none⟩=some (.slice B NB d):=by rw [obj_cell a9];rfl
     have d2:=Hi bc
     clear bc a9))
 all_goals
  go_wp2
  go_ret
  exact ⟨_,rfl,by have:=Grows.first HK.out (aQ.out.trans d2.out);first | exact this | (rw [← List.append_assoc];exact this)⟩
end
section
open Go.RowKit
theorem entBad_no {e:Ent} (h:entBad e=false):∃ a b c:Nat,e=⟨a,b,c⟩∧a<1099511627776∧b<1099511627776∧c<1099511627776:=by
 unfold entBad at h
 simp only [List.any_cons,List.any_nil,Bool.or_false,Bool.or_eq_false_iff] at h
 obtain ⟨h1,h2,h3⟩:=h
 obtain ⟨a,e1,b1⟩:=outOf_no h1
 obtain ⟨b,e2,b2⟩:=outOf_no h2
 obtain ⟨c,e3,b3⟩:=outOf_no h3
 refine ⟨a,b,c, ?_,by omega,by omega,by omega⟩
 cases e
 simp_all
theorem idxWrong_no {f:Fr} (h:idxWrong f=0):∃ n s t:Nat,f.spot=(n:Int)∧f.frames=(s:Int)∧f.irows=(t:Int)∧n<1099511627776∧s<1099511627776∧t<1099511627776∧f.ents.length≤64∧∀ e∈f.ents,entBad e=false:=by
 unfold idxWrong at h
 split at h
 · omega
 rename_i h1
 split at h
 · omega
 rename_i h2
 split at h
 · omega
 rename_i h3
 simp only [List.any_cons,List.any_nil,Bool.or_false,Bool.or_eq_true,not_or,Bool.not_eq_true] at h1
 obtain ⟨h4,h5,h6⟩:=h1
 obtain ⟨n,e1,b1⟩:=outOf_no h4
 obtain ⟨s,e2,b2⟩:=outOf_no h5
 obtain ⟨t,e3,b3⟩:=outOf_no h6
 refine ⟨n,s,t,e1,e2,e3,by omega,by omega,by omega,by omega,fun e he=>?_⟩
 simp only [List.any_eq_true,not_exists,not_and,Bool.not_eq_true] at h3
 exact h3 e he
theorem entsPut_take (l:List Ent) (k:Nat) (hk:k<l.length):(l.take (k+1)).flatMap entPut=(l.take k).flatMap entPut++entPut (l[k]'hk):=by
 rw [List.take_add_one,List.getElem?_eq_getElem hk]
 show (l.take k++[l[k]'hk]).flatMap entPut=_
 rw [List.flatMap_append,List.flatMap_singleton]
theorem entsPut_le (l:List Ent) (h:∀ e∈l,entBad e=false):(l.flatMap entPut).length≤30*l.length:=by
 induction l with
 | nil=>simp
 | cons e l ih=>
   have h1:=ih fun e he=>h e (by simp [he])
   obtain ⟨a,b,c,rfl,ha,hb,hc⟩:=entBad_no (h e (by simp))
   have h2:=lebs_le [a,b,c] (fun m hm=>by simp at hm;omega)
   have h3:entPut ⟨a,b,c⟩=lebs [a,b,c]:=rfl
   rw [List.flatMap_cons,List.length_append,h3,List.length_cons]
   simp only [List.length_cons,List.length_nil] at h2
   omega
theorem idxPut_calls (base:Nat) (v:Value) (l:List UInt8) (A B E:Option Addr) (k:Nat) (f:Fr) (w:World) (hf:FrS w (fun b=>b<base) A B E f) (h0:idxWrong f=0)
 (a4:OwnB 5 w base v l) (ar:base≤w.heap.size) (au:l.length≤70368744177664) :
 Calls Tryz.prog 211 #[.agg (ixCells E k f),v] w fun e w'=>∃ v',e=.returned v'∧Grows w w' base v v' (l++idxPut f):=by
 obtain ⟨n,s,t,hn,hs,ht,bd,bD,bQ,bO,bA⟩:=idxWrong_no h0
 have he:idxPut f=lebs [n,s,t,f.ents.length]++f.ents.flatMap entPut:=by unfold idxPut;rw [hn,hs,ht];rfl
 rw [he]
 obtain ⟨W,hW⟩:∃ W,W=((w.alloc (.cells (ixCells E k f) 153)).alloc (.cells #[.int .i64 (n:Int),.int .i64 (s:Int),.int .i64 (t:Int),.int .i64 (f.ents.length:Int)] 2)):=⟨_,rfl⟩
 have a8:Keeps w W:=by rw [hW];exact (((Keeps.refl w).alloc _).alloc _)
 have b1:W.heap[w.heap.size+1]? = some (.cells #[.int .i64 (n:Int),.int .i64 (s:Int),.int .i64 (t:Int),.int .i64 (f.ents.length:Int)] 2):=by rw [hW];exact obj_new_at _ _ _ (by simp)
 have b0:W.heap[w.heap.size]? = some (.cells (ixCells E k f) 153):=by rw [hW];exact obj_old (obj_new w _) _
 have hl:=own_lt a4
 have hc:=frPut_calls base v l (some ⟨w.heap.size+1,0,none⟩) 4 [n,s,t,f.ents.length] W (a4.below a8.below) (by have:=a8.size;omega) (by intro m hm;simp at hm;omega) (n64_four b1) (fun a ha e=>by
  cases ha
  have:=hl _ e
  simp only at this
  omega) (by simp;omega)
 have ab:=lebs_le [n,s,t,f.ents.length] (fun m hm=>by simp at hm;omega)
 have bb:=a4.ge
 obtain ⟨V,q,rfl,be,_⟩:=a4.form
 have HC:=Hi hc
 have HB:=Hi b0
 have HK:=Hi a8
 have bi:=Hi ab
 have HF:=Hi hf
 have cl:=Hi bA
 have b7:=Hi bb
 have aO:=Hi hl
 unfold ixCells at *
 rw [hn,hs,ht] at hW HB ⊢
 clear hc b0 b1 a8 ab hf h0 a4 he hn hs ht hl bb bA
 generalize cG:f.ents.length=N at *
 have cy:=Hi cG
 generalize hL:l.length=L at au be HC b7 aO ⊢
 have HL:=Hi hL
 clear hL cG
 go_enter Tryz.func211,Tryz.ntmps211
 go_wp2_with fail
 rw [← hW]
 clear hW
 refine HC.out.mono ?_
 rintro e w1 ⟨v1,rfl,aA⟩
 have a9:w1.heap[w.heap.size]? = _:=aA.touch.obj HB.out (fun e=>by have:=aO.out _ e;omega)
 have d3:w1.cell? ⟨w.heap.size,3,none⟩=some (.slice E N k):=by rw [obj_cell a9];rfl
 obtain ⟨A1,c1,rfl,aM,_⟩:=aA.own.form
 generalize bo:(l++lebs [n,s,t,N]).length=M1 at aA aM
 have aQ:=Hi (Grows.first HK.out aA)
 clear aA a9 bo HC HB
 go_wp2_with fail
 go_loopw [1,27] (fun b i wr=>∃ (j:Nat) (A':Option Addr) (c' M:Nat),j≤N∧i=.int .i64 (j:Int)∧b=.slice A' M c'∧Grows w wr base (.slice V L q) (.slice A' M c') (l++(lebs [n,s,t,N]++(f.ents.take j).flatMap entPut))) (fun _ i _=>N-(intOf i).toNat)
 case atStart=>exact ⟨0,A1,c1,M1,Nat.zero_le _,rfl,rfl,by simpa using aQ.out⟩
 case round=>
  obtain ⟨j,A',c',M,hj,rfl,rfl,hg⟩:=hrel
  have dq:=hg.touch.size
  by_cases aZ:j<N
  · have a6:j<f.ents.length:=by rw [cy.out];exact aZ
    obtain ⟨ad,rfl,_,e0,e1,e2⟩:=(HF.out.touch hg.touch (fun b hb e=>by have:=b7.out b e;omega)).ent_at j a6
    have al:=entsPut_take f.ents j a6
    have ct:=entsPut_le (f.ents.take j) fun e he=>cl.out e (List.mem_of_mem_take he)
    obtain ⟨a1,a2,a3,hx,dt,cN,dr⟩:=entBad_no (cl.out _ (List.getElem_mem a6))
    have cp:(f.ents.take j).length=j:=by rw [List.length_take];omega
    rw [cp] at ct
    rw [hx] at e0 e1 e2 al
    obtain ⟨W2,ah⟩:∃ W2,W2=(wr.alloc (.cells #[.int .i64 (a1:Int),.int .i64 (a2:Int),.int .i64 (a3:Int)] 78)).alloc (.cells #[.int .i64 (a1:Int),.int .i64 (a2:Int),.int .i64 (a3:Int)] 2):=⟨_,rfl⟩
    have a7:Keeps wr W2:=by rw [ah];exact ((Keeps.refl wr).alloc _).alloc _
    have b2:W2.heap[wr.heap.size+1]? = some (.cells #[.int .i64 (a1:Int),.int .i64 (a2:Int),.int .i64 (a3:Int)] 2):=by rw [ah];exact obj_new_at _ _ _ (by simp)
    have bh:=own_lt hg.own
    have cY:M=(l++(lebs [n,s,t,N]++(f.ents.take j).flatMap entPut)).length:=by
     obtain ⟨_,_,e,_⟩:=hg.own.form
     injection e
    have aw:=frPut_calls base (.slice A' M c') _ (some ⟨wr.heap.size+1,0,none⟩) 3 [a1,a2,a3] W2 (hg.own.below a7.below) (by have:=a7.size;omega) (by intro m hm;simp at hm;omega) (n64_three b2) (fun a ha e=>by
     cases ha
     have:=bh _ e
     simp only at this
     omega) (by
      have cu:(lebs [n,s,t,N]).length≤10*4:=bi.out
      have:=HL.out
      rw [List.length_append,List.length_append]
      simp only [List.length_cons,List.length_nil]
      omega)
    have aG:=Hi aw
    have aU:=Hi al
    have HG:=Hi (hg.later a7)
    clear aw al hg a6 ct cp hx a7 b2 bh cY aQ
    go_wp2_with fail
    rw [← ah]
    clear ah
    refine aG.out.mono ?_
    rintro e w3 ⟨v3,rfl,b4⟩
    have ay:=HG.out.trans b4
    have e5:(l++(lebs [n,s,t,N]++(f.ents.take j).flatMap entPut))++lebs [a1,a2,a3]=l++(lebs [n,s,t,N]++(f.ents.take (j+1)).flatMap entPut):=by
     rw [aU.out,List.append_assoc,List.append_assoc]
     rfl
    rw [e5] at ay
    obtain ⟨A2,c2,ex,aX,_⟩:=ay.own.form
    generalize (l++(lebs [n,s,t,N]++(f.ents.take (j+1)).flatMap entPut)).length=M2 at ex aX
    subst ex
    have b5:=Hi ay
    clear b4 ay e5 HG aG aU
    go_wp2
    first
     | exact ⟨⟨j+1,A2,c2,M2,by omega,by go_num,rfl,b5.out⟩,by simp [intOf];omega⟩
     | (go_roundw
        case rel=>exact ⟨j+1,A2,c2,M2,by omega,by go_num,rfl,b5.out⟩
        case measure=>simp [intOf];omega)
  · have e8:f.ents.take j=f.ents:=List.take_of_length_le (by rw [cy.out];omega)
    rw [e8] at hg
    have bz:=Hi hg
    clear hg e8
    go_wp2
    go_ret
    exact ⟨_,rfl,bz.out⟩
theorem zero_u8:∃ i z,Tryz.prog.info? 5=some i∧i.zero=some z∧i.size=1∧i.bytes=1∧z.cells=#[.int .u8 0]:=by
 have h:=info_u8b
 cases hi:Tryz.prog.info? 5 with
 | none=>rw [hi] at h;simp at h
 | some i=>
   rw [hi] at h
   simp only [Option.map_some,Option.some.injEq,Prod.mk.injEq] at h
   exact ⟨i,_,rfl,h.1,h.2.1,h.2.2,rfl⟩
theorem grow_calls (n:Nat) (w:World) (hn:0<n) (hm:n≤70368744177664) :
 Calls Tryz.prog 110 #[.slice none 0 0,.int .i64 (n:Int)] w fun e w'=>∃ c,e=.returned (.slice (some ⟨w.heap.size,0,none⟩) 0 c)∧OwnB 5 w' w.heap.size (.slice (some ⟨w.heap.size,0,none⟩) 0 c) []∧n≤c∧Keeps w w':=by
 obtain ⟨i,z,hi,hz,hs,hb,hc⟩:=zero_u8
 have b8:(Builtin.firstCells i.size 0 (.slice none 0 0)).run Tryz.prog w.drew=.ok ([]:List Value).toArray w.drew:=run_firstCells_none w.drew i.size 0 0 0
 have bR:∀ ty,(Builtin.append_ #[31,3] ty #[.slice none 0 0,.int .i64 (n:Int)]).run Tryz.prog w =
  .ok (.slice (some ⟨w.heap.size,0,none⟩) n (grownCap w n 0 5)) (w.drew.alloc (.cells (([]:List Value).toArray++Builtin.zeroCells z.cells n++Builtin.zeroCells z.cells (grownCap w n 0 5-n)) 5)):=fun ty=>by
  have h:=Lib.run_append_grow_zeros w 31 3 ty 5 i z .i64 .i64 Tryz.underlying31 Tryz.underlying3 hi hz none 0 0 [] b8 n hn (by omega) (by omega) (by omega) (by rw [hb];omega) (by
   rw [hb,Nat.zero_add]
   have:=nextslicecap_le (need:=n) (old:=0) (by omega)
   omega)
  rw [Nat.zero_add] at h
  exact h
 have cH:n≤grownCap w n 0 5:=grownCap_ge w _ _ _
 have bw:=grownCap_le_maxLen w n 0 5 (by unfold maxLen;omega)
 generalize grownCap w n 0 5=G at bR cH bw
 have bn:(([]:List Value).toArray++Builtin.zeroCells z.cells n++Builtin.zeroCells z.cells (G-n)).size=G:=by
  simp [Builtin.zeroCells,hc]
  omega
 have a4:OwnB 5 (w.drew.alloc (.cells (([]:List Value).toArray++Builtin.zeroCells z.cells n++Builtin.zeroCells z.cells (G-n)) 5)) w.heap.size (.slice (some ⟨w.heap.size,0,none⟩) 0 G) []:=
  ⟨rfl,.inr ⟨w.heap.size,G,_,rfl,Nat.le_refl _,obj_new_at _ _ _ rfl,Nat.zero_le _,bw,by rw [bn];omega,by simp [u8s]⟩⟩
 have hk:Keeps w (w.drew.alloc (.cells (([]:List Value).toArray++Builtin.zeroCells z.cells n++Builtin.zeroCells z.cells (G-n)) 5)):=(Keeps.drew w).alloc _
 generalize (([]:List Value).toArray++Builtin.zeroCells z.cells n++Builtin.zeroCells z.cells (G-n))=C at bR a4 hk
 have HO:=Hi a4
 have HK:=Hi hk
 have cU:G≤9223372036854775807:=by unfold maxLen at bw;omega
 clear b8 a4 hk bn bw
 go_enter Tryz.func110,Tryz.ntmps110
 go_wp2_with (at_builtin;refine Lib.wpList_append_run _ rfl _ _ _ _ rfl _ _ rfl rfl _ _ (bR _) ?_)
 all_goals
  go_ret
  exact ⟨G,rfl,HO.out,cH,HK.out⟩
abbrev Part:=Option Addr×Nat×List UInt8
def partCells (ps:List Part):List Value:=ps.map fun p=>.slice p.1 p.2.2.length p.2.1
def partBytes (ps:List Part):List UInt8:=ps.flatMap fun p=>p.2.2
theorem part_get {w:World} {A:Option Addr} {ps:List Part} (h:RowAt w A (partCells ps)) (k:Nat) (hk:k<ps.length):∃ ad,A=some ad∧w.cell? (ad.add k)=some (.slice (ps[k]'hk).1 (ps[k]'hk).2.2.length (ps[k]'hk).2.1):=
 h k _ (by simp [partCells,hk])
theorem partBytes_take (ps:List Part) (k:Nat) (hk:k<ps.length):partBytes (ps.take (k+1))=partBytes (ps.take k)++(ps[k]'hk).2.2:=by
 rw [List.take_add_one,List.getElem?_eq_getElem hk]
 show (ps.take k++[ps[k]'hk]).flatMap _=_
 rw [List.flatMap_append,List.flatMap_singleton]
 rfl
theorem partBytes_le (ps:List Part) (k:Nat):(partBytes (ps.take k)).length≤(partBytes ps).length:=by
 conv=>rhs;rw [← List.take_append_drop k ps]
 unfold partBytes
 rw [List.flatMap_append,List.length_append]
 omega
theorem concat_calls (A:Option Addr) (c:Nat) (ps:List Part) (w:World) (hr:RowAt w A (partCells ps)) (hp:∀ p∈ps,Reads w p.1 p.2.2∧p.2.2.length≤p.2.1∧p.2.1≤9223372036854775807)
 (hl:0<(partBytes ps).length) (hm:(partBytes ps).length≤70368744177664) (hn:ps.length≤1000000) :
 Calls Tryz.prog 74 #[.slice A ps.length c] w fun e w'=>∃ v,e=.returned v∧OwnB 5 w' w.heap.size v (partBytes ps)∧Keeps w w':=by
 have bE:=partBytes_le ps
 have HR:=Hi hr
 have HP:=Hi hp
 have c8:=Hi bE
 clear hr hp bE
 generalize hN:ps.length=N at hn ⊢
 generalize hT:(partBytes ps).length=T at hl hm c8
 have HN:=Hi hN
 have HT:=Hi hT
 clear hN hT
 go_enter Tryz.func74,Tryz.ntmps74
 go_wp2_with fail
 go_loopw [3,11] (fun s i wr=>∃ k:Nat,k≤N∧i=.int .i64 (k:Int)∧s=.int .i64 (((partBytes (ps.take k)).length:Nat):Int)∧Keeps w wr) (fun _ i _=>N-(intOf i).toNat)
 case atStart=>exact ⟨0,by omega,rfl,rfl,Keeps.refl w⟩
 case round=>
  obtain ⟨k,hk,rfl,rfl,aj⟩:=hrel
  by_cases aZ:k<N
  · have a6:k<ps.length:=by rw [HN.out];exact aZ
    obtain ⟨ad,rfl,ag⟩:=part_get (HR.out.below aj.below) k a6
    have al:=congrArg List.length (partBytes_take ps k a6)
    have h1:=c8.out (k+1)
    have aW:=(HP.out _ (List.getElem_mem a6)).2
    rw [al,List.length_append] at h1
    rw [List.length_append] at al
    generalize ps[k]'a6=p at ag al h1 aW
    generalize p.2.2.length=m at ag al h1 aW
    generalize (partBytes (ps.take k)).length=M at al h1 ⊢
    have d8:IntKind.i64.wrap (((M:Nat):Int)+((m:Nat):Int))=((M+m:Nat):Int):=by rw [IntWalk.i64_in _ (by omega)];omega
    have aU:=Hi al
    clear al
    go_wp2
    first
     | exact ⟨⟨k+1,by omega,by go_num,by rw [aU.out];go_num,aj⟩,by simp [intOf];omega⟩
     | (go_roundw
        case rel=>exact ⟨k+1,by omega,by go_num,by rw [aU.out];go_num,aj⟩
        case measure=>simp [intOf];omega)
  · have ek:k=N:=by omega
    have e8:ps.take k=ps:=List.take_of_length_le (by rw [HN.out];omega)
    rw [e8,HT.out]
    have hg:=grow_calls T wr hl hm
    have HG:=Hi hg
    have bg:=Hi aj
    clear hg e8 aj
    go_wp2_with fail
    refine HG.out.mono ?_
    rintro e w1 ⟨c1,rfl,aa,am,a5⟩
    have aa:=aa.weaken bg.out.size
    have c9:=Hi aa
    have ak:=Hi (bg.out.trans a5)
    have dj:c1≤9223372036854775807:=by
     obtain ⟨_,_,e1,_,_,h,_⟩:=aa.form
     injection e1 with _ _ e1
     omega
    clear aa a5 HG
    go_wp2_with fail
    go_loopw [6,27] (fun b i wr=>∃ (j:Nat) (A':Option Addr) (c' M:Nat),j≤N∧i=.int .i64 (j:Int)∧b=.slice A' M c'∧OwnB 5 wr w.heap.size (.slice A' M c') (partBytes (ps.take j))∧Keeps w wr) (fun _ i _=>N-(intOf i).toNat)
    case atStart=>exact ⟨0,_,_,_,Nat.zero_le _,rfl,rfl,by simpa [partBytes] using c9.out,ak.out⟩
    case round=>
     rename_i wr2
     obtain ⟨j,A',c',M,hj,rfl,rfl,a4,aj⟩:=hrel
     by_cases aZ:j<N
     · have a6:j<ps.length:=by rw [HN.out];exact aZ
       obtain ⟨ad,rfl,ag⟩:=part_get (HR.out.below aj.below) j a6
       have al:=partBytes_take ps j a6
       have h1:=c8.out (j+1)
       have aW:=HP.out _ (List.getElem_mem a6)
       rw [al,List.length_append] at h1
       generalize ps[j]'a6=p at ag al h1 aW
       obtain ⟨pA,pc,pl⟩:=p
       simp only at ag al h1 aW
       have di:=Hi (aW.1.below aj.below)
       have bn:=aj.size
       generalize cq:pl.length=m at ag h1 aW
       have cL:=Hi cq
       have HO:=Hi a4
       have HK:=Hi aj
       have aU:=Hi al
       have H1:=Hi h1
       clear al a4 aj cq h1
       go_wp2_with (at_builtin;refine wpList_append_bytes (w0:=w) w.heap.size rfl _ _ 31 5 rfl Tryz.underlying31 info_u8b (.slice A' M c') (partBytes (ps.take j)) pl rfl ?c0 pA pc (by rw [cL.out];rfl) ?cr ?c2 ?c3 ?c4 ?_)
       case c0=>exact HO.out
       case cr=>exact di.out
       case c2=>have:=H1.out;have:=cL.out;omega
       case c3=>exact bn
       case c4=>exact HK.out
       intro v2 w2 ao aD bc cN
       rw [← aU.out] at ao
       obtain ⟨A2,c2,ex,aX,_⟩:=ao.form
       generalize (partBytes (ps.take (j+1))).length=M2 at ex aX
       subst ex
       have ci:=Hi ao
       have aR:Hid (Keeps w w2):=Hi aD
       clear ao aD bc cN
       go_wp2
       first
        | exact ⟨⟨j+1,A2,c2,M2,by omega,by go_num,rfl,ci.out,aR.out⟩,by simp [intOf];omega⟩
        | (go_roundw
           case rel=>exact ⟨j+1,A2,c2,M2,by omega,by go_num,rfl,ci.out,aR.out⟩
           case measure=>simp [intOf];omega)
     · have e8:ps.take j=ps:=List.take_of_length_le (by rw [HN.out];omega)
       rw [e8] at a4
       have HO:=Hi a4
       have HK:=Hi aj
       clear a4 aj e8
       go_wp2
       go_ret
       exact ⟨_,rfl,HO.out,HK.out⟩
theorem encode_no (A B E:Option Addr) (c d k:Nat) (f:Fr) (w:World) (t:TypeId) (x:Value) (Fw:Nat) (ai:ofV (frCells A c B d E k f) f.kind (ixCells E k f)=.iface t x)
 (cV:∀ (n:Nat) (w:World),(method (n+1) t x "gabion/frame.wrong").run Tryz.prog w=.ok (Fw,x) w)
 (cW:∀ (args:Array Value) (w:World),(callFunc Fw args).run Tryz.prog w=.ok (.enter Fw args) w) (R:Int) (hR:R≠0)
 (hw:∀ w1,Keeps w w1→Calls Tryz.prog Fw #[x] w1 fun e w'=>e=.returned (.int .i64 R)∧Keeps w1 w') :
 Calls Tryz.prog 27 #[.agg (frCells A c B d E k f)] w fun e w'=>e=.returned (.tuple #[.slice none 0 0,.int .i64 R])∧Keeps w w':=by
 obtain ⟨W,hW⟩:∃ W,W=w.alloc (.cells (frCells A c B d E k f) 36):=⟨_,rfl⟩
 have a8:Keeps w W:=by rw [hW];exact (Keeps.refl w).alloc _
 have hc:=frOf_calls (.int .i64 f.kind) (.int .i64 f.number) (.slice A f.cols.length c) (.int .i64 f.seq) (.int .i64 f.first) (.int .i64 f.rows) (.slice B f.block.length d) f.kind (.int .i64 f.spot) (.int .i64 f.frames) (.int .i64 f.irows) (.slice E f.ents.length k) W
 change Calls _ _ #[.agg (frCells A c B d E k f)] _ (fun e w'=>e=.returned (ofV (frCells A c B d E k f) f.kind (ixCells E k f))∧Keeps W w') at hc
 rw [ai] at hc
 have HC:=Hi hc
 have HK:=Hi a8
 have br:=Hi hw
 have qR:(R != 0)=true:=by simpa using hR
 unfold frCells at *
 clear hc a8 ai hw hR
 go_enter Tryz.func27,Tryz.ntmps27
 go_wp2_with fail
 rw [← hW]
 clear hW
 refine HC.out.mono ?_
 rintro e w1 ⟨rfl,a5⟩
 have a7:=HK.out.trans a5
 have b9:=br.out w1 a7
 have bs:=Hi b9
 have ak:=Hi a7
 clear a5 a7 b9 HC
 go_wp2_with fail
 refine bs.out.mono ?_
 rintro e w2 ⟨rfl,a7⟩
 have aR:=Hi (ak.out.trans a7)
 clear a7
 go_wp2
 go_ret2
 exact ⟨rfl,aR.out⟩
theorem encode_kind (A B E:Option Addr) (c d k:Nat) (f:Fr) (w:World) (ai:ofV (frCells A c B d E k f) f.kind (ixCells E k f)=.nilIface) :
 Calls Tryz.prog 27 #[.agg (frCells A c B d E k f)] w fun e w'=>e=.returned (.tuple #[.slice none 0 0,.int .i64 60])∧Keeps w w':=by
 obtain ⟨W,hW⟩:∃ W,W=w.alloc (.cells (frCells A c B d E k f) 36):=⟨_,rfl⟩
 have a8:Keeps w W:=by rw [hW];exact (Keeps.refl w).alloc _
 have hc:=frOf_calls (.int .i64 f.kind) (.int .i64 f.number) (.slice A f.cols.length c) (.int .i64 f.seq) (.int .i64 f.first) (.int .i64 f.rows) (.slice B f.block.length d) f.kind (.int .i64 f.spot) (.int .i64 f.frames) (.int .i64 f.irows) (.slice E f.ents.length k) W
 change Calls _ _ #[.agg (frCells A c B d E k f)] _ (fun e w'=>e=.returned (ofV (frCells A c B d E k f) f.kind (ixCells E k f))∧Keeps W w') at hc
 rw [ai] at hc
 have HC:=Hi hc
 have HK:=Hi a8
 unfold frCells at *
 clear hc a8 ai
 go_enter Tryz.func27,Tryz.ntmps27
 go_wp2_with fail
 rw [← hW]
 clear hW
 refine HC.out.mono ?_
 rintro e w1 ⟨rfl,a5⟩
 have ak:=Hi (HK.out.trans a5)
 clear a5 HC
 go_wp2
 go_ret2
 exact ⟨rfl,ak.out⟩
theorem Table.later {w w':World} (h:Table w) (hb:Below w.heap.size w w'):Table w':=fun i hi=>by
 have:=h i hi
 rw [hb.cell (World.block_lt_of_cell? w _ this)]
 exact this
def le4 (S:Nat):List UInt8:=[UInt8.ofNat (S % 256),UInt8.ofNat (S / 256 % 256),UInt8.ofNat (S / 65536 % 256),UInt8.ofNat (S / 16777216 % 256)]
theorem reads_le4 (w:World) (S:Nat) (n:Nat) (hn:n=w.heap.size) :
 Reads (w.alloc (.cells #[.int .u8 ((S:Int) % 256),.int .u8 ((S:Int) / 256 % 256),.int .u8 ((S:Int) / 65536 % 256),.int .u8 ((S:Int) / 16777216 % 256)] 5)) (some ⟨n,0,none⟩) (le4 S):=by
 refine RowAt.new_at w _ _ _ _ ?_ n hn
 have h:∀ m:Nat,m<256→((UInt8.ofNat m).toNat:Int)=(m:Int):=fun m hm=>by
  rw [UInt8.toNat_ofNat']
  omega
 simp only [u8s,le4,List.map_cons,List.map_nil]
 rw [h _ (by omega),h _ (by omega),h _ (by omega),h _ (by omega)]
 rfl
def encFin (b:List UInt8):Except Int (List UInt8):=if 2200<(stuffOf b).length then .error 2 else .ok (0 :: (stuffOf b++[0]))
def FPost (w:World) (r:Except Int (List UInt8)) (e:Ending) (w':World):Prop:=
 match r with
 | .error x=>e=.returned (.tuple #[.slice none 0 0,.int .i64 x])∧Keeps w w'
 | .ok l=>∃ v,e=.returned (.tuple #[v,.int .i64 0])∧OwnB 5 w' w.heap.size v l∧Keeps w w'
theorem OwnB.new1 (w:World) (b:UInt8) (v:Value) (hv:v=.int .u8 ((b.toNat:Nat):Int)) (n base:Nat) (hn:n=w.heap.size) (hb:base≤n):OwnB 5 (w.alloc (.cells #[v] 5)) base (.slice (some ⟨n,0,none⟩) 1 1) [b]:=by
 subst hn hv
 exact ⟨rfl,.inr ⟨_,1,_,rfl,hb,obj_new w _,Nat.le_refl _,by unfold maxLen;omega,rfl,rfl⟩⟩
theorem encode_ok (A B E:Option Addr) (c d k:Nat) (f:Fr) (w:World) (ht:Table w) (t:TypeId) (x:Value) (Fw Fp:Nat) (ai:ofV (frCells A c B d E k f) f.kind (ixCells E k f)=.iface t x)
 (cV:∀ (n:Nat) (w:World),(method (n+1) t x "gabion/frame.wrong").run Tryz.prog w=.ok (Fw,x) w) (dw:∀ (n:Nat) (w:World),(method (n+1) t x "gabion/frame.put").run Tryz.prog w=.ok (Fp,x) w)
 (cW:∀ (args:Array Value) (w:World),(callFunc Fw args).run Tryz.prog w=.ok (.enter Fw args) w) (du:∀ (args:Array Value) (w:World),(callFunc Fp args).run Tryz.prog w=.ok (.enter Fp args) w)
 (kb:UInt8) (dv:IntKind.u8.wrap f.kind=((kb.toNat:Nat):Int)) (P:List UInt8) (ds:P.length≤34359738368)
 (hw:∀ w1,Keeps w w1→Calls Tryz.prog Fw #[x] w1 fun e w'=>e=.returned (.int .i64 0)∧Keeps w1 w')
 (hp:∀ w1 v l,Keeps w w1→OwnB 5 w1 w.heap.size v l→l.length≤10→Calls Tryz.prog Fp #[x,v] w1 fun e w'=>∃ v',e=.returned v'∧Grows w1 w' w.heap.size v v' (l++P)) :
 Calls Tryz.prog 27 #[.agg (frCells A c B d E k f)] w (FPost w (encFin (([kb]++P)++le4 (Crc.sum (nats ([kb]++P)))))):=by
 generalize hR:encFin (([kb]++P)++le4 (Crc.sum (nats ([kb]++P))))=R
 have HE:=Hi hR.symm
 clear hR
 obtain ⟨W,hW⟩:∃ W,W=w.alloc (.cells (frCells A c B d E k f) 36):=⟨_,rfl⟩
 have a8:Keeps w W:=by rw [hW];exact (Keeps.refl w).alloc _
 have cK:W.heap[w.heap.size]? = some (.cells (frCells A c B d E k f) 36):=by rw [hW];exact obj_new w _
 have hc:=frOf_calls (.int .i64 f.kind) (.int .i64 f.number) (.slice A f.cols.length c) (.int .i64 f.seq) (.int .i64 f.first) (.int .i64 f.rows) (.slice B f.block.length d) f.kind (.int .i64 f.spot) (.int .i64 f.frames) (.int .i64 f.irows) (.slice E f.ents.length k) W
 change Calls _ _ #[.agg (frCells A c B d E k f)] _ (fun e w'=>e=.returned (ofV (frCells A c B d E k f) f.kind (ixCells E k f))∧Keeps W w') at hc
 rw [ai] at hc
 have HC:=Hi hc
 have HK:=Hi a8
 have HB:=Hi cK
 have br:=Hi hw
 have cF:=Hi hp
 have HT:=Hi ht
 unfold frCells at *
 clear hc a8 cK ai hw hp ht
 go_enter Tryz.func27,Tryz.ntmps27
 go_wp2_with fail
 rw [← hW]
 clear hW
 refine HC.out.mono ?_
 rintro e w1 ⟨rfl,a5⟩
 have a7:=HK.out.trans a5
 have ce:=(a5.below.block _ (obj_lt HB.out)).trans HB.out
 have b9:=br.out w1 a7
 have bs:=Hi b9
 have ak:=Hi a7
 have bL:=Hi ce
 clear a5 a7 b9 HC ce HB HK br
 go_wp2_with fail
 refine bs.out.mono ?_
 rintro e w2 ⟨rfl,a7⟩
 have aD:=(a7.below.block _ (obj_lt bL.out)).trans bL.out
 have d0:w2.cell? ⟨w.heap.size,0,none⟩=some (.int .i64 f.kind):=by rw [obj_cell aD];rfl
 have aH:=ak.out.trans a7
 obtain ⟨W3,ba⟩:∃ W3,W3=w2.alloc (.cells #[.int .u8 ((kb.toNat:Nat):Int)] 5):=⟨_,rfl⟩
 have cc:Keeps w W3:=by rw [ba];exact aH.alloc _
 have aC:OwnB 5 W3 w.heap.size (.slice (some ⟨w2.heap.size,0,none⟩) 1 1) [kb]:=by rw [ba];exact OwnB.new1 w2 kb _ rfl _ _ rfl aH.size
 have bf:=cF.out W3 _ _ cc aC (by simp)
 have cM:=Hi bf
 have cw:=Hi cc
 have cJ:=Hi aC
 have dk:Hid (w2.heap.size≤W3.heap.size):=Hi (by rw [ba];simp)
 clear aD a7 aH cc aC bf bs cF ak bL
 go_wp2_with fail
 rw [← ba]
 clear ba
 refine cM.out.mono ?_
 rintro e w4 ⟨v4,rfl,ay⟩
 have bZ:Keeps w w4:=(Grows.first cw.out ay).keeps fun k e=>cJ.out.ge k e
 have af:=ay.own
 obtain ⟨A4,c4,rfl,cX,cR,_,_⟩:=af.form
 have cQ:([kb]++P).length≤34359738369:=by simp;omega
 have b6:=sum_calls A4 c4 ([kb]++P) w4 (by omega) cR (HT.out.later bZ.below)
 have HS:=Hi b6
 have cf:=Hi af
 have co:=Hi bZ
 generalize hb:[kb]++P=b at *
 generalize hL:b.length=L at *
 have HL:=Hi hL
 clear b6 af bZ ay hL cR cM cJ cw dk
 generalize Crc.sum (nats b)=S at *
 go_wp2_with fail
 refine HS.out.mono ?_
 rintro e w5 ⟨rfl,rfl⟩
 have bU:Keeps w (w4.alloc (.cells #[.int .u8 ((S:Int) % 256),.int .u8 ((S:Int) / 256 % 256),.int .u8 ((S:Int) / 65536 % 256),.int .u8 ((S:Int) / 16777216 % 256)] 5)):=co.out.alloc _
 have aE:=cf.out.below ((Keeps.refl w4).alloc (.cells #[.int .u8 ((S:Int) % 256),.int .u8 ((S:Int) / 256 % 256),.int .u8 ((S:Int) / 65536 % 256),.int .u8 ((S:Int) / 16777216 % 256)] 5)).below
 have bF:=reads_le4 w4 S _ rfl
 obtain ⟨W6,bS⟩:∃ W6,W6=w4.alloc (.cells #[.int .u8 ((S:Int) % 256),.int .u8 ((S:Int) / 256 % 256),.int .u8 ((S:Int) / 65536 % 256),.int .u8 ((S:Int) / 16777216 % 256)] 5):=⟨_,rfl⟩
 rw [← bS] at bU aE bF
 have ca:=Hi bU
 have cv:=Hi aE
 have ch:=Hi bF
 clear bU aE bF cf HS
 go_wp2_with (at_builtin;rw [← bS];refine wpList_append_bytes (w0:=w) w.heap.size rfl _ _ 31 5 rfl Tryz.underlying31 info_u8b (.slice A4 L c4) b (le4 S) rfl ?c0 (some ⟨w4.heap.size,0,none⟩) 4 (by rfl) ?cr ?c2 ?c3 ?c4 ?_)
 case c0=>exact cv.out
 case cr=>exact ch.out
 case c2=>have:=HL.out;simp [le4];omega
 case c3=>exact ca.out.size
 case c4=>exact ca.out
 intro v7 w7 aq cj _ _
 obtain ⟨A7,c7,rfl,bH,bX,dm,_⟩:=aq.form
 have cs:Keeps w w7:=cj
 have ap:(b++le4 S).length=L+4:=by rw [List.length_append,HL.out];rfl
 rw [ap] at bH
 have bP:=len_calls A7 c7 (b++le4 S) w7 (by omega) (by omega) bX
 rw [ap] at bP aq ⊢
 have bJ:=Hi bP
 have cI:=Hi cs
 have cx:=Hi aq
 have cb:=Hi bX
 have bq:=Hi ap
 clear bP cs aq bX cj ap bS co ca cv ch
 go_wp2_with fail
 refine bJ.out.mono ?_
 rintro e w8 ⟨rfl,bu⟩
 have bN:=stuff_length (b++le4 S)
 rw [bq.out] at bN
 have bC:=Hi (cI.out.trans bu)
 by_cases aJ:2200<(stuffOf (b++le4 S)).length
 · have ae:Hid (∀ e w',e=.returned (.tuple #[.slice none 0 0,.int .i64 2])∧Keeps w w'→FPost w R e w'):=Hi (by
    intro e w' h
    rw [HE.out]
    unfold encFin FPost
    rw [if_pos aJ]
    exact h)
   generalize (stuffOf (b++le4 S)).length=M at aJ bN ⊢
   clear HE bu bJ cx cb
   go_wp2
   go_ret2
   exact ae.out _ _ ⟨rfl,bC.out⟩
 · have ae:Hid (∀ e w',(∃ v,e=.returned (.tuple #[v,.int .i64 0])∧OwnB 5 w' w.heap.size v (0 :: (stuffOf (b++le4 S)++[0]))∧Keeps w w')→FPost w R e w'):=Hi (by
    intro e w' h
    rw [HE.out]
    unfold encFin FPost
    rw [if_neg aJ]
    exact h)
   obtain ⟨W9,bp⟩:∃ W9,W9=w8.alloc (.cells #[.int .u8 0] 5):=⟨_,rfl⟩
   have c6:Keeps w8 W9:=by rw [bp];exact (Keeps.refl w8).alloc _
   have cD:Reads W9 (some ⟨w8.heap.size,0,none⟩) [0]:=by rw [bp];exact Reads.new w8 [0] _ _ _ rfl
   have aK:=stuff_calls A7 c7 (b++le4 S) W9 (by rw [bq.out];omega) (by rw [bq.out];omega) (cb.out.below (bu.trans c6).below)
   rw [bq.out] at aK
   have cg:=Hi aK
   have cS:=Hi cD
   have bY:=Hi (bC.out.trans c6)
   have dc:Hid ((stuffOf (b++le4 S)).length≤2200):=Hi (by omega)
   generalize hM:(stuffOf (b++le4 S)).length=M at aJ bN ⊢
   have HM:=Hi hM
   clear hM HE bu bJ cx cb c6 cD aK cI bC
   go_wp2_with fail
   rw [← bp]
   clear bp
   refine cg.out.mono ?_
   rintro e w10 ⟨v10,rfl,aF,aL⟩
   obtain ⟨A10,c10,rfl,aP,bk,bW,_⟩:=aF.form
   obtain ⟨W11,av⟩:∃ W11,W11=(w10.alloc (.cells #[.int .u8 0] 5)).alloc (.cells #[.slice (some ⟨w8.heap.size,0,none⟩) 1 1,.slice A10 (stuffOf (b++le4 S)).length c10,.slice (some ⟨w10.heap.size,0,none⟩) 1 1] 31):=⟨_,rfl⟩
   have cB:Keeps w10 (w10.alloc (.cells #[.int .u8 0] 5)):=(Keeps.refl w10).alloc _
   have az:Keeps w10 W11:=by rw [av];exact cB.alloc _
   have cm:Reads W11 (some ⟨w10.heap.size,0,none⟩) [0]:=by
    rw [av]
    exact (Reads.new w10 [0] _ _ _ rfl).below ((Keeps.refl _).alloc _).below
   have bj:RowAt W11 (some ⟨w10.heap.size+1,0,none⟩) (partCells [(some ⟨w8.heap.size,0,none⟩,1,[0]),(A10,c10,stuffOf (b++le4 S)),(some ⟨w10.heap.size,0,none⟩,1,[0])]):=by
    rw [av]
    exact RowAt.new_at _ _ _ _ _ rfl _ (by simp)
   have bB:partBytes [(some ⟨w8.heap.size,0,none⟩,1,[0]),(A10,c10,stuffOf (b++le4 S)),(some ⟨w10.heap.size,0,none⟩,1,[0])]=0 :: (stuffOf (b++le4 S)++[0]):=by simp [partBytes]
   have aV:=concat_calls (some ⟨w10.heap.size+1,0,none⟩) 3 [(some ⟨w8.heap.size,0,none⟩,1,[0]),(A10,c10,stuffOf (b++le4 S)),(some ⟨w10.heap.size,0,none⟩,1,[0])] W11 bj (by
    intro p hp
    simp only [List.mem_cons,List.not_mem_nil,or_false] at hp
    rcases hp with rfl | rfl | rfl
    · exact ⟨cS.out.below (aL.trans az).below,by simp,by simp⟩
    · exact ⟨bk.below az.below,aP,bW⟩
    · exact ⟨cm,by simp,by simp⟩) (by rw [bB];simp) (by rw [bB];have:=dc.out;simp;omega) (by simp)
   rw [bB] at aV
   rw [HM.out] at aP av
   have bv:=Hi aV
   have bG:=Hi (bY.out.trans (aL.trans az))
   have dg:Hid (w.heap.size≤W11.heap.size):=Hi (bY.out.trans (aL.trans az)).size
   clear aV bj cm cB az bk aF aL cg cS bY bB
   rw [HM.out]
   go_wp2_with fail
   rw [← av]
   clear av
   refine bv.out.mono ?_
   rintro e w12 ⟨v12,rfl,aB,bl⟩
   have bI:=Hi (bG.out.trans bl)
   have bT:=Hi (aB.weaken dg.out)
   clear aB bl bv
   go_wp2
   go_ret2
   exact ae.out _ _ ⟨v12,rfl,bT.out,bI.out⟩
theorem meth_sw (x:Array Value) (n:Nat) (w:World):(method (n+1) 150 (.agg x) "gabion/frame.wrong").run Tryz.prog w=.ok (205,.agg x) w:=by kernel_rfl
theorem meth_sp (x:Array Value) (n:Nat) (w:World):(method (n+1) 150 (.agg x) "gabion/frame.put").run Tryz.prog w=.ok (204,.agg x) w:=by kernel_rfl
theorem meth_dw (x:Array Value) (n:Nat) (w:World):(method (n+1) 151 (.agg x) "gabion/frame.wrong").run Tryz.prog w=.ok (210,.agg x) w:=by kernel_rfl
theorem meth_dp (x:Array Value) (n:Nat) (w:World):(method (n+1) 151 (.agg x) "gabion/frame.put").run Tryz.prog w=.ok (209,.agg x) w:=by kernel_rfl
theorem meth_iw (x:Array Value) (n:Nat) (w:World):(method (n+1) 153 (.agg x) "gabion/frame.wrong").run Tryz.prog w=.ok (212,.agg x) w:=by kernel_rfl
theorem meth_ip (x:Array Value) (n:Nat) (w:World):(method (n+1) 153 (.agg x) "gabion/frame.put").run Tryz.prog w=.ok (211,.agg x) w:=by kernel_rfl
def frBody (f:Fr):List UInt8:=[UInt8.ofNat f.kind.toNat]++frPut f
def encF (f:Fr):Except Int (List UInt8):=if frWrong f=0 then encFin (frBody f++le4 (Crc.sum (nats (frBody f)))) else .error (frWrong f)
theorem encode_calls (A B E:Option Addr) (c d k:Nat) (f:Fr) (w:World) (hf:FrS w (fun b=>b<w.heap.size) A B E f) (hw:f.wf) (aS:Tabs w) (ht:Table w) :
 Calls Tryz.prog 27 #[.agg (frCells A c B d E k f)] w (FPost w (encF f)):=by
 have an:∀ w1,Keeps w w1→FrS w1 (fun b=>b<w1.heap.size) A B E f:=fun w1 hk=>by
  have h:=hf.later hk.below
  refine ⟨h.sch.mono fun b hb _=>hb,h.blk,fun a e hn=>Nat.lt_of_lt_of_le (h.blkS a e hn) hk.size,h.ent,fun a e hn=>Nat.lt_of_lt_of_le (h.entS a e hn) hk.size,h.lenB,h.lenE⟩
 by_cases h1:f.kind=1
 · have ai:ofV (frCells A c B d E k f) f.kind (ixCells E k f)=.iface 150 (.agg (frCells A c B d E k f)):=by simp [ofV,h1]
   have aY:frWrong f=schWrong f:=by simp [frWrong,h1]
   have hW:∀ w1,Keeps w w1→Calls Tryz.prog 205 #[.agg (frCells A c B d E k f)] w1 fun e w'=>e=.returned (.int .i64 (schWrong f))∧Keeps w1 w':=fun w1 hk=>schWrong_calls A B E c d k f w1 (an w1 hk) hw (aS.below hk.below)
   unfold encF
   rw [aY]
   by_cases h0:schWrong f=0
   · rw [if_pos h0]
     rw [h0] at hW
     have hb:frBody f=[UInt8.ofNat 1]++schPut f:=by simp [frBody,frPut,h1]
     rw [hb]
     obtain ⟨n,hn,bd,aK⟩:=schWrong_no h0
     have bK:=schCheck_len aK
     have ab:=lebs_le [f.number.toNat] (fun m hm=>by simp at hm;omega)
     refine encode_ok A B E c d k f w ht _ _ _ _ ai (meth_sw _) (meth_sp _) (run_callFunc_body Tryz.func205 (by kernel_rfl) (by kernel_rfl)) (run_callFunc_body Tryz.func204 (by kernel_rfl) (by kernel_rfl)) _ (by rw [h1];rfl) (schPut f) (by
      unfold schPut;rw [List.length_append];simp at ab;omega) hW (fun w1 v l hk ho hl=>?_)
     exact schPut_calls w.heap.size v l A B E c d k f w1 (an w1 hk) hw (aS.below hk.below) h0 ho hk.size (by omega)
   · rw [if_neg h0]
     exact encode_no A B E c d k f w _ _ _ ai (meth_sw _) (run_callFunc_body Tryz.func205 (by kernel_rfl) (by kernel_rfl)) _ h0 hW
 by_cases h2:f.kind=2
 · have ai:ofV (frCells A c B d E k f) f.kind (ixCells E k f)=.iface 151 (.agg (frCells A c B d E k f)):=by simp [ofV,h2]
   have aY:frWrong f=datWrong f:=by simp [frWrong,h2]
   have hW:∀ w1,Keeps w w1→Calls Tryz.prog 210 #[.agg (frCells A c B d E k f)] w1 fun e w'=>e=.returned (.int .i64 (datWrong f))∧Keeps w1 w':=fun w1 hk=>datWrong_calls A B E c d k f w1
   unfold encF
   rw [aY]
   by_cases h0:datWrong f=0
   · rw [if_pos h0]
     rw [h0] at hW
     have hb:frBody f=[UInt8.ofNat 2]++datPut f:=by simp [frBody,frPut,h2]
     rw [hb]
     obtain ⟨n,s,t,r,hn,hs,df,hr,bd,bD,bQ,_,aN⟩:=datWrong_no h0
     have ab:=lebs_le [f.number.toNat,f.seq.toNat,f.first.toNat,f.rows.toNat] (fun m hm=>by simp at hm;omega)
     have d7:=hf.lenB
     refine encode_ok A B E c d k f w ht _ _ _ _ ai (meth_dw _) (meth_dp _) (run_callFunc_body Tryz.func210 (by kernel_rfl) (by kernel_rfl)) (run_callFunc_body Tryz.func209 (by kernel_rfl) (by kernel_rfl)) _ (by rw [h2];rfl) (datPut f) (by
      unfold datPut;rw [List.length_append];simp at ab;omega) hW (fun w1 v l hk ho hl=>?_)
     exact datPut_calls w.heap.size v l A B E c d k f w1 (hf.later hk.below) h0 ho hk.size (by omega)
   · rw [if_neg h0]
     exact encode_no A B E c d k f w _ _ _ ai (meth_dw _) (run_callFunc_body Tryz.func210 (by kernel_rfl) (by kernel_rfl)) _ h0 hW
 by_cases h3:f.kind=3
 · have ai:ofV (frCells A c B d E k f) f.kind (ixCells E k f)=.iface 153 (.agg (ixCells E k f)):=by simp [ofV,h3]
   have aY:frWrong f=idxWrong f:=by simp [frWrong,h3]
   have hW:∀ w1,Keeps w w1→Calls Tryz.prog 212 #[.agg (ixCells E k f)] w1 fun e w'=>e=.returned (.int .i64 (idxWrong f))∧Keeps w1 w':=fun w1 hk=>idxWrong_calls A B E k f w1 (an w1 hk)
   unfold encF
   rw [aY]
   by_cases h0:idxWrong f=0
   · rw [if_pos h0]
     rw [h0] at hW
     have hb:frBody f=[UInt8.ofNat 3]++idxPut f:=by simp [frBody,frPut,h3]
     rw [hb]
     obtain ⟨n,s,t,hn,hs,df,bd,bD,bQ,bO,bA⟩:=idxWrong_no h0
     have ab:=lebs_le [f.spot.toNat,f.frames.toNat,f.irows.toNat,f.ents.length] (fun m hm=>by simp at hm;omega)
     have bE:=entsPut_le f.ents bA
     refine encode_ok A B E c d k f w ht _ _ _ _ ai (meth_iw _) (meth_ip _) (run_callFunc_body Tryz.func212 (by kernel_rfl) (by kernel_rfl)) (run_callFunc_body Tryz.func211 (by kernel_rfl) (by kernel_rfl)) _ (by rw [h3];rfl) (idxPut f) (by
      unfold idxPut;rw [List.length_append];simp at ab;omega) hW (fun w1 v l hk ho hl=>?_)
     exact idxPut_calls w.heap.size v l A B E k f w1 (hf.later hk.below) h0 ho hk.size (by omega)
   · rw [if_neg h0]
     exact encode_no A B E c d k f w _ _ _ ai (meth_iw _) (run_callFunc_body Tryz.func212 (by kernel_rfl) (by kernel_rfl)) _ h0 hW
 · have ai:ofV (frCells A c B d E k f) f.kind (ixCells E k f)=.nilIface:=by simp [ofV,h1,h2,h3]
   have aY:frWrong f=60:=by simp [frWrong,h1,h2,h3]
   unfold encF
   rw [aY,if_neg (by omega)]
   exact encode_kind A B E c d k f w ai
end
end Go.Proofs.YtihodcnnappkbaaGreatDoor
