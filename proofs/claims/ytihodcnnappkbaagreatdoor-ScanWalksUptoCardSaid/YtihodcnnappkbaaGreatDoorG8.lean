/-
  The reader of a frame's body in memory, and its number. Condition: the block stands for the reader. The reader's index. Condition: the block stands for the reader. slices.Equal of entries. Condition: the rows read. The walk of schema.Same. Condition: both schemas read. The walk of frame.Same. Condition: both frames read. What frame.take tells, plain; a frame of the call's own. No condition. The walk of frame.take. Condition: the bytes read, and are not none; the tables of unicode/utf8 are as laid.
-/
import Derived.Test.YtihodcnnappkbaaGreatDoorG7
import Derived.Test.YtihodcnnappkbaaGreatDoorG2
import Derived.Laws.StructEq
import Derived.Test.YtihodcnnappkbaaGreatDoorG3
import Derived.Test.YtihodcnnappkbaaGreatDoorShelf
import Derived.Test.YtihodcnnappkbaaGreatDoorG4
namespace Go.Proofs.YtihodcnnappkbaaGreatDoor
open Go.RowKit Go.BigFrame
set_option linter.unusedVariables false
set_option linter.unusedSimpArgs false
structure FrAt (w:World) (g:Nat) (A:Option Addr) (c:Nat) (l:List UInt8) (s:Nat×Bool):Prop where
 obj:w.heap[g]? = some (.cells #[.slice A l.length c,.int .i64 (s.1:Int),.bool s.2] 172 (0,0))
 reads:Reads w A l
 far:∀ b,A=some b→l≠[]→b.block≠g
 len:l.length≤140737488355328
 room:l.length≤c
 cap:c≤9223372036854775807
 within:s.1≤l.length
theorem cells3 {w:World} {g:Nat} {a b c:Value} {t:TypeId} (h:w.heap[g]? = some (.cells #[a,b,c] t (0,0))):w.cell? ⟨g,0,none⟩=some a∧w.cell? ⟨g,1,none⟩=some b∧w.cell? ⟨g,2,none⟩=some c∧w.frozen? ⟨g,0,none⟩=false∧w.frozen? ⟨g,1,none⟩=false∧w.frozen? ⟨g,2,none⟩=false:=
 ⟨by rw [obj_cell h];rfl,by rw [obj_cell h];rfl,by rw [obj_cell h];rfl,obj_frozen h 0,obj_frozen h 1,obj_frozen h 2⟩
theorem FrAt.touch {F:Nat→Prop} {w w':World} {g:Nat} {A:Option Addr} {c:Nat} {l:List UInt8} {s:Nat×Bool} (h:FrAt w g A c l s) (ht:Touch F w w') (hg:¬F g) (hA:∀ b,A=some b→l≠[]→¬F b.block):FrAt w' g A c l s:=
 ⟨ht.obj h.obj hg,ht.reads h.reads hA,h.far,h.len,h.room,h.cap,h.within⟩
theorem FrAt.below {w w':World} {g:Nat} {A:Option Addr} {c:Nat} {l:List UInt8} {s:Nat×Bool} (h:FrAt w g A c l s) (hb:Below w.heap.size w w'):FrAt w' g A c l s:=
 ⟨by rw [hb.block g (obj_lt h.obj)];exact h.obj,h.reads.below hb,h.far,h.len,h.room,h.cap,h.within⟩
theorem FrAt.drewN {w:World} {g:Nat} {A:Option Addr} {c:Nat} {l:List UInt8} {s:Nat×Bool} (h:FrAt w g A c l s) (n:Nat):FrAt (w.drewN n) g A c l s:=⟨h.obj,h.reads,h.far,h.len,h.room,h.cap,h.within⟩
theorem FrAt.setBad {w:World} {g:Nat} {A:Option Addr} {c:Nat} {l:List UInt8} {a:Nat} {b:Bool} (h:FrAt w g A c l (a,b)) (b':Bool):FrAt (w.setCell ⟨g,2,none⟩ (.bool b')) g A c l (a,b'):=
 ⟨obj_set h.obj 2 _,((Touch.refl (At g) w).set 2 _).reads h.reads (fun b e hn=>h.far b e hn),h.far,h.len,h.room,h.cap,h.within⟩
theorem FrAt.setAt {w:World} {g:Nat} {A:Option Addr} {c:Nat} {l:List UInt8} {a:Nat} {b:Bool} (h:FrAt w g A c l (a,b)) (k:Nat) (hk:k≤l.length):FrAt (w.setCell ⟨g,1,none⟩ (.int .i64 (k:Int))) g A c l (k,b):=
 ⟨obj_set h.obj 1 _,((Touch.refl (At g) w).set 1 _).reads h.reads (fun b e hn=>h.far b e hn),h.far,h.len,h.room,h.cap,hk⟩
def rnum (l:List UInt8) (m:Nat) (s:Nat×Bool):Int×(Nat×Bool):=
 if s.2 then (-1,(s.1,true)) else
  match lebGet l s.1 with
  | .error _=>(-1,(s.1,true))
  | .ok (n,k)=>if m≤n then (-1,(s.1,true)) else ((n:Int),(k,false))
set_option maxRecDepth 20000 in
set_option maxHeartbeats 1000000 in
theorem rnum_calls (g:Nat) (A:Option Addr) (c:Nat) (l:List UInt8) (s:Nat×Bool) (m:Nat) (hm:m≤4611686018427387904) (w:World) (hr:FrAt w g A c l s) :
 Calls Tryz.prog 125 #[.pointer (some ⟨g,0,none⟩),.int .i64 (m:Int)] w fun e w'=>e=.returned (.int .i64 (rnum l m s).1)∧FrAt w' g A c l (rnum l m s).2∧Touch (At g) w w':=by
 obtain ⟨a,b⟩:=s
 have hwi:=hr.within
 have hle:=hr.len
 have hcall:∀ w1,Quiet w w1→Calls Tryz.prog 156 #[.slice A l.length c,.int .i64 (a:Int)] w1 fun e w'=>e=.returned (getOut (lebGet l a))∧w1=w':=fun w1 hq=>
  lebGet_calls A c l a w1 hr.len hr.room hr.cap (hr.reads.quiet hq) (by simp only at hwi;omega)
 obtain ⟨c0,c1,c2,f0,f1,f2⟩:=cells3 hr.obj
 simp only at c0 c1 c2 hwi
 have hg:=obj_lt hr.obj
 have hmw:IntKind.u64.wrap (m:Int)=(m:Int):=IntWalk.u64_in _ (by omega)
 have HR:=Hi hr
 generalize hL:l.length=L at c0 hcall
 cases hq:lebGet l a with
 | error er=>
   have h0:=lebGet_err hq
   have hres:rnum l m (a,b)=(-1,(a,true)):=by unfold rnum;cases b <;> simp [hq]
   rw [hres]
   rw [hq] at hcall
   simp only [getOut] at hcall
   have HC:=Hi hcall
   have q0:(er != 0)=true:=by simpa using h0
   clear hr hcall hres hq hL h0
   cases b <;>
   · go_enter Tryz.func125,Tryz.ntmps125
     go_wp2_with fail
     go_quiet ((go_at_call 156;exact quiet_eq (HC.out _ ⟨_,rfl⟩)))
     go_wp2
     go_ret
     exact ⟨rfl,(HR.out.drewN nq).setBad true,((Touch.refl (At g) w).drewN nq).set 2 _⟩
 | ok r=>
   obtain ⟨n,k⟩:=r
   have hk:=lebGet_le hr.within hq
   have hn:=lebGet_num hq
   have hres:rnum l m (a,b)=if b then (-1,(a,true)) else if m≤n then (-1,(a,true)) else ((n:Int),(k,false)):=by
    unfold rnum;simp only [hq]
   rw [hres]
   rw [hq] at hcall
   simp only [getOut] at hcall
   have HC:=Hi hcall
   have HKL:=Hi hk
   clear hr hcall hres hq hL hk
   cases b with
   | true=>
     simp only [if_true]
     go_enter Tryz.func125,Tryz.ntmps125
     go_wp2_with fail
     go_quiet ((go_at_call 156;exact quiet_eq (HC.out _ ⟨_,rfl⟩)))
     go_wp2
     go_ret
     exact ⟨rfl,(HR.out.drewN nq).setBad true,((Touch.refl (At g) w).drewN nq).set 2 _⟩
   | false=>
     simp only [Bool.false_eq_true,if_false]
     by_cases hmn:m≤n
     · rw [if_pos hmn]
       go_enter Tryz.func125,Tryz.ntmps125
       go_wp2_with fail
       go_quiet ((go_at_call 156;exact quiet_eq (HC.out _ ⟨_,rfl⟩)))
       go_wp2
       go_ret
       exact ⟨rfl,(HR.out.drewN nq).setBad true,((Touch.refl (At g) w).drewN nq).set 2 _⟩
     · rw [if_neg hmn]
       have hnw:IntKind.i64.wrap (n:Int)=(n:Int):=IntWalk.i64_in _ (by omega)
       go_enter Tryz.func125,Tryz.ntmps125
       go_wp2_with fail
       go_quiet ((go_at_call 156;exact quiet_eq (HC.out _ ⟨_,rfl⟩)))
       go_wp2
       go_ret
       exact ⟨rfl,(HR.out.drewN nq).setAt k HKL.out,((Touch.refl (At g) w).drewN nq).set 1 _⟩
end Go.Proofs.YtihodcnnappkbaaGreatDoor
namespace Go.Proofs.YtihodcnnappkbaaGreatDoor
open Go.RowKit Go.BigFrame
set_option linter.unusedVariables false
set_option linter.unusedSimpArgs false
attribute [local go_sem ↓] Go.wp_at_zero Go.wp_at_succ
abbrev seqMax:Nat:=1099511627776
def rent (l:List UInt8) (s:Nat×Bool):Ent×(Nat×Bool):=
 (⟨(rnum l seqMax s).1,(rnum l seqMax (rnum l seqMax s).2).1,(rnum l seqMax (rnum l seqMax (rnum l seqMax s).2).2).1⟩,(rnum l seqMax (rnum l seqMax (rnum l seqMax s).2).2).2)
def rents (l:List UInt8):Nat→Nat×Bool→List Ent×(Nat×Bool)
 | 0,s=>([],s)
 | k+1,s=>if s.2 then ([],s) else ((rent l s).1 :: (rents l k (rent l s).2).1,(rents l k (rent l s).2).2)
theorem info_entry:(Tryz.prog.info? 78).map (fun i=>(i.zero,i.size,i.bytes))=some (some (.agg #[.int .i64 0,.int .i64 0,.int .i64 0]),3,24):=by kernel_rfl
theorem entCells_snoc (l:List Ent) (e:Ent):entCells (l++[e])=entCells l++[.int .i64 e.spot,.int .i64 e.row,.int .i64 e.sch]:=by simp [entCells]
theorem entCells_one (l:List Ent):∀ u∈entCells l,u.oneCell'=true:=by
 intro u hu
 simp only [entCells,List.mem_flatMap,List.mem_cons,List.not_mem_nil,or_false] at hu
 obtain ⟨e,_,rfl | rfl | rfl⟩:=hu <;> rfl
theorem rents_step (l:List UInt8) (k:Nat) (s:Nat×Bool) (h:s.2=false):rents l (k+1) s=((rent l s).1 :: (rents l k (rent l s).2).1,(rents l k (rent l s).2).2):=by
 rw [rents]
 simp [h]
theorem rents_bad (l:List UInt8) (k:Nat) (s:Nat×Bool) (h:s.2=true):rents l k s=([],s):=by
 cases k with
 | zero=>rfl
 | succ k=>rw [rents,if_pos h]
structure Ix where
 spot:Int
 frames:Int
 irows:Int
 ents:List Ent
def rindex (l:List UInt8) (s:Nat×Bool):Ix×(Nat×Bool):=
 let r1:=rnum l seqMax s
 let r2:=rnum l seqMax r1.2
 let r3:=rnum l seqMax r2.2
 let r4:=rnum l 65 r3.2
 let es:=rents l r4.1.toNat r4.2
 (⟨r1.1,r2.1,r3.1,es.1⟩,(es.2.1,es.2.2||es.2.1 != l.length))
theorem rnum_num (l:List UInt8) (m:Nat) (s:Nat×Bool):(rnum l m s).1 = -1∨∃ n:Nat,(rnum l m s).1=(n:Int)∧n<m:=by
 unfold rnum
 split
 · exact .inl rfl
 · split
   · exact .inl rfl
   · split
     · exact .inl rfl
     · rename_i n k _ h
       exact .inr ⟨n,rfl,by omega⟩
structure IxRel (w:World) (g xb:Nat) (A:Option Addr) (c:Nat) (l:List UInt8) (a0 a1 a2:Int) (all:List Ent×(Nat×Bool)) (n j:Nat) (wr:World):Prop where
 ex:∃ (es:List Ent) (s:Nat×Bool) (v:Value),es.length=j∧all=(es++(rents l (n-j) s).1,(rents l (n-j) s).2) ∧
  wr.heap[xb]? = some (.cells #[.int .i64 a0,.int .i64 a1,.int .i64 a2,v] 34)∧Loose wr w.heap.size 78 3 v es.length (entCells es)∧FrAt wr g A c l s
 touch:Touch (At g) w wr
 res:wr.heap[w.heap.size]? = some (.cells #[.int .i64 0,.int .i64 0,.int .i64 0,.slice none 0 0] 34)
theorem IxRel.step {w wr w3 w4:World} {g xb:Nat} {A:Option Addr} {c:Nat} {l:List UInt8} {n1 n2 n3:Int} {all:List Ent×(Nat×Bool)} {N j:Nat} {es:List Ent} {E E4:Option Addr} {k k4:Nat} {m1 m2 m3:Int} {t3:Nat×Bool}
 (hg:g<w.heap.size) (hxb:w.heap.size<xb) (hA:∀ b,A=some b→l≠[]→b.block<w.heap.size) (hrel:IxRel w g xb A c l n1 n2 n3 all N j wr) (hes:es.length=j)
 (hall:all=(es++[⟨m1,m2,m3⟩]++(rents l (N-(j+1)) t3).1,(rents l (N-(j+1)) t3).2)) (hr3:FrAt w3 g A c l t3) (ht3:Touch (At g) (wr.drewN 1) w3)
 (hv3:Loose w3 w.heap.size 78 3 (.slice E j k) j (entCells es))
 (hl4:Loose w4 w.heap.size 78 3 (.slice E4 (j+1) k4) (j+1) (entCells es++[.int .i64 m1,.int .i64 m2,.int .i64 m3]))
 (hg4:(w3.alloc (.cells #[.int .i64 m1,.int .i64 m2,.int .i64 m3] 78)).grownBy w4 (blk (.slice E j k)))
 (hx4:w4.heap[xb]? = some (.cells #[.int .i64 n1,.int .i64 n2,.int .i64 n3,.slice E j k] 34)) :
 IxRel w g xb A c l n1 n2 n3 all N (j+1) (w4.setCell ⟨xb,3,none⟩ (.slice E4 (j+1) k4)):=by
 have hsz3:w.heap.size≤w3.heap.size:=Nat.le_trans hrel.touch.size ht3.size
 have hlt3:=hv3.lt
 have tg:=Touch.of_grown (F:=fun i=>blk (.slice E j k)=some i) hg4 fun i e=>e
 refine ⟨⟨es++[⟨m1,m2,m3⟩],t3,_,by simp [hes],hall,obj_set hx4 3 _,?_,?_⟩,?_,?_⟩
 · rw [entCells_snoc,List.length_append,hes]
   exact hl4.far (hl4.ne hx4 (by decide)) _
 · have h1:=(hr3.below ((Keeps.refl w3).alloc (.cells #[.int .i64 m1,.int .i64 m2,.int .i64 m3] 78)).below).touch tg (fun e=>by have:=hlt3 _ e;omega) (fun b e hn e2=>by have:=hlt3 _ e2;have:=hA b e hn;omega)
   exact h1.touch ((Touch.refl (At xb) w4).set 3 _) (fun e=>by rw [At] at e;omega) (fun b e hn e2=>by have:=hA b e hn;rw [At] at e2;omega)
 · refine Touch.setCell ?_ _ _ (fun h=>by simp only at h;omega)
   exact (((hrel.touch.drewN 1).then ht3).alloc _).grown hg4 (fun i e hi=>by have:=hlt3 _ e;omega)
 · have h1:(wr.drewN 1).heap[w.heap.size]? = _:=hrel.res
   have h2:=ht3.obj h1 (fun e=>by rw [At] at e;omega)
   have h3:=tg.obj (obj_old h2 _) (hv3.ne h2 (by decide))
   exact obj_far h3 (by simp;omega) _
theorem IxRel.done {w wr:World} {g xb:Nat} {A:Option Addr} {c:Nat} {l:List UInt8} {n1 n2 n3:Int} {all:List Ent×(Nat×Bool)} {N j:Nat} {es:List Ent} {E:Option Addr} {k:Nat} {sa:Nat} {sb:Bool}
 (hg:g<w.heap.size) (hA:∀ b,A=some b→l≠[]→b.block<w.heap.size) (hrel:IxRel w g xb A c l n1 n2 n3 all N j wr) (hfr:FrAt wr g A c l (sa,sb))
 (hv:Loose wr w.heap.size 78 3 (.slice E j k) j (entCells es)) (b':Bool) (x0 x1 x2 x3:Value) (W:World)
 (hW:W=(((((wr.setCell ⟨g,2,none⟩ (.bool b')).setCell ⟨w.heap.size,0,none⟩ x0).setCell ⟨w.heap.size,1,none⟩ x1).setCell ⟨w.heap.size,2,none⟩ x2).setCell ⟨w.heap.size,3,none⟩ x3).drew) :
 Loose W w.heap.size 78 3 (.slice E j k) j (entCells es)∧FrAt W g A c l (sa,b')∧Touch (At g) w W:=by
 have h1:=hfr.setBad b'
 have t1:Touch (At g) wr (wr.setCell ⟨g,2,none⟩ (.bool b')):=(Touch.refl _ _).set 2 _
 have v1:=hv.keep t1 (fun k hk e=>by have:=(hv.lt k hk).1;rw [At] at e;omega)
 have r1:=t1.obj hrel.res (fun e=>by rw [At] at e;omega)
 have t2:Touch (At w.heap.size) (wr.setCell ⟨g,2,none⟩ (.bool b')) W:=by
  rw [hW]
  exact ((((((Touch.refl _ _).set 0 _).set 1 _).set 2 _).set 3 _)).drew
 refine ⟨v1.keep t2 (fun k hk e=>?_),h1.touch t2 (fun e=>by rw [At] at e;omega) (fun b e hn e2=>by have:=hA b e hn;rw [At] at e2;omega),?_⟩
 · rw [At] at e
   subst e
   exact v1.ne r1 (by decide) hk
 · exact (hrel.touch.then t1).trans t2 fun i hi e=>by rw [At] at e;omega
theorem cells4 {w:World} {g:Nat} {a b c d:Value} {t:TypeId} (h:w.heap[g]? = some (.cells #[a,b,c,d] t (0,0))):w.cell? ⟨g,0,none⟩=some a∧w.cell? ⟨g,1,none⟩=some b∧w.cell? ⟨g,2,none⟩=some c∧w.cell? ⟨g,3,none⟩=some d∧w.frozen? ⟨g,0,none⟩=false∧w.frozen? ⟨g,1,none⟩=false∧w.frozen? ⟨g,2,none⟩=false∧w.frozen? ⟨g,3,none⟩=false:=
 ⟨by rw [obj_cell h];rfl,by rw [obj_cell h];rfl,by rw [obj_cell h];rfl,by rw [obj_cell h];rfl,obj_frozen h 0,obj_frozen h 1,obj_frozen h 2,obj_frozen h 3⟩
def IxPost (w:World) (g:Nat) (A:Option Addr) (c:Nat) (l:List UInt8) (r:Ix×(Nat×Bool)) (e:Ending) (w':World):Prop:=
 ∃ v,e=.returned (.agg #[.int .i64 r.1.spot,.int .i64 r.1.frames,.int .i64 r.1.irows,v])∧Loose w' w.heap.size 78 3 v r.1.ents.length (entCells r.1.ents)∧FrAt w' g A c l r.2∧Touch (At g) w w'
set_option maxRecDepth 20000 in
set_option maxHeartbeats 1000000 in
theorem rindex_calls (g:Nat) (A:Option Addr) (c:Nat) (l:List UInt8) (s:Nat×Bool) (w:World) (hr:FrAt w g A c l s) :
 Calls Tryz.prog 126 #[.pointer (some ⟨g,0,none⟩)] w (IxPost w g A c l (rindex l s)):=by
 obtain ⟨W,hW⟩:∃ W,W=w.alloc (.cells #[.int .i64 0,.int .i64 0,.int .i64 0,.slice none 0 0] 34):=⟨_,rfl⟩
 have hk0:Keeps w W:=by rw [hW];exact (Keeps.refl w).alloc _
 have hb0:W.heap[w.heap.size]? = some (.cells #[.int .i64 0,.int .i64 0,.int .i64 0,.slice none 0 0] 34):=by rw [hW];exact obj_new w _
 have hc1:=rnum_calls g A c l s seqMax (by decide) W (hr.below hk0.below)
 have hg:=obj_lt hr.obj
 have hne:¬At g w.heap.size:=fun e=>by rw [At] at e;omega
 have hAw:∀ b,A=some b→l≠[]→b.block<w.heap.size:=fun b e hn=>by
  have hp:0<l.length:=List.length_pos_iff.2 hn
  obtain ⟨ad,e1,hcell⟩:=hr.reads.out 0 hp
  rw [e] at e1
  cases e1
  have:=World.block_lt_of_cell? w _ hcell
  rwa [addr_add_block] at this
 have HAW:=Hi hAw
 clear hAw
 have HC1:=Hi hc1
 have HB0:=Hi hb0
 have HT0:Hid (Touch (At g) w W):=Hi ((Touch.refl (At g) w).below hk0.below)
 have HNE:=Hi hne
 clear hc1 hb0 hk0 hne hr
 obtain ⟨R,hR⟩:∃ R,R=rindex l s:=⟨_,rfl⟩
 rw [← hR]
 unfold rindex at hR
 generalize rnum l seqMax s=r1 at hR HC1
 obtain ⟨n1,s1⟩:=r1
 simp only at hR HC1
 go_enter Tryz.func126,Tryz.ntmps126
 go_wp2_with fail
 rw [← hW]
 clear hW
 refine HC1.out.mono ?_
 rintro e w1 ⟨rfl,hr1,ht1⟩
 have hc2:=rnum_calls g A c l s1 seqMax (by decide) w1 hr1
 have HC2:=Hi hc2
 have HB1:=Hi (ht1.obj HB0.out HNE.out)
 have HT1:=Hi (HT0.out.then ht1)
 clear hc2 hr1 ht1 HC1 HB0 HT0
 generalize rnum l seqMax s1=r2 at hR HC2
 obtain ⟨n2,s2⟩:=r2
 simp only at hR HC2
 go_wp2_with fail
 refine HC2.out.mono ?_
 rintro e w2 ⟨rfl,hr2,ht2⟩
 have hc3:=rnum_calls g A c l s2 seqMax (by decide) w2 hr2
 have HC3:=Hi hc3
 have HB2:=Hi (ht2.obj HB1.out HNE.out)
 have HT2:=Hi (HT1.out.then ht2)
 clear hc3 hr2 ht2 HC2 HB1 HT1
 generalize rnum l seqMax s2=r3 at hR HC3
 obtain ⟨n3,s3⟩:=r3
 simp only at hR HC3
 go_wp2_with fail
 refine HC3.out.mono ?_
 rintro e w3 ⟨rfl,hr3,ht3⟩
 have hk3:=(Keeps.refl w3).alloc (.cells #[.int .i64 n1,.int .i64 n2,.int .i64 n3,.slice none 0 0] 34)
 obtain ⟨W3,hW3⟩:∃ W3,W3=w3.alloc (.cells #[.int .i64 n1,.int .i64 n2,.int .i64 n3,.slice none 0 0] 34):=⟨_,rfl⟩
 have hx3:W3.heap[w3.heap.size]? = some (.cells #[.int .i64 n1,.int .i64 n2,.int .i64 n3,.slice none 0 0] 34):=by rw [hW3];exact obj_new w3 _
 rw [← hW3] at hk3
 have hb3:=ht3.obj HB2.out HNE.out
 have hb3':=(hk3.below.block _ (obj_lt hb3)).trans hb3
 have ht3':=(HT2.out.then ht3).below hk3.below
 have hsz3:w.heap.size<w3.heap.size:=obj_lt hb3
 have hnx:¬At g w3.heap.size:=fun e=>by rw [At] at e;omega
 have hc4:=rnum_calls g A c l s3 65 (by decide) W3 (hr3.below hk3.below)
 have hnum:=rnum_num l 65 s3
 have HC4:=Hi hc4
 have HB3:=Hi hb3'
 have HX3:=Hi hx3
 have HT3:=Hi ht3'
 have HNX:=Hi hnx
 clear hc4 hr3 ht3 HC3 HB2 HT2 hb3 hb3' hx3 ht3' hnx hk3
 generalize rnum l 65 s3=r4 at hR HC4 hnum
 obtain ⟨n4,s4⟩:=r4
 simp only at hR HC4 hnum
 go_wp2_with fail
 rw [← hW3]
 clear hW3
 refine HC4.out.mono ?_
 rintro e w4 ⟨rfl,hr4,ht4⟩
 have HB4:=Hi (ht4.obj HB3.out HNE.out)
 have HX4:=Hi (ht4.obj HX3.out HNX.out)
 have HT4:=Hi (HT3.out.then ht4)
 have HR4:=Hi hr4
 generalize hxb:w3.heap.size=xb at *
 obtain ⟨N,hN⟩:∃ N,N=n4.toNat:=⟨_,rfl⟩
 rw [← hN] at hR
 obtain ⟨all,hall⟩:∃ all,all=rents l N s4:=⟨_,rfl⟩
 rw [← hall] at hR
 have HALL:=Hi hall
 have HR:=Hi hR
 have hrel0:IxRel w g xb A c l n1 n2 n3 all N 0 w4:=⟨⟨[],s4,.slice none 0 0,rfl,by rw [hall];rfl,HX4.out,Loose.empty _ _ _ _ none,HR4.out⟩,HT4.out,HB4.out⟩
 have HREL0:=Hi hrel0
 clear hrel0 hall hR hr4 ht4 HC4 HB3 HX3 HT3 HB4 HX4 HT4 HR4
 go_wp2_with fail
 go_loopw [5] (fun i wr=>∃ j:Nat,j≤N∧i=.int .i64 (j:Int)∧IxRel w g xb A c l n1 n2 n3 all N j wr) (fun i _=>N-(intOf i).toNat)
 case atStart=>exact ⟨0,by omega,rfl,HREL0.out⟩
 case round=>
  obtain ⟨j,hj,rfl,hrel⟩:=hrel
  obtain ⟨es,ss,v,hes,hall,hx,hv,hfr⟩:=hrel.ex
  rw [hes] at hv
  obtain ⟨E,k,rfl,_⟩:=hv.form
  have HES:=Hi hes
  clear hes
  obtain ⟨x0,x1,x2,x3,y0,y1,y2,y3⟩:=cells4 hx
  obtain ⟨b0,b1,b2,f0,f1,f2⟩:=cells3 hfr.obj
  have HFR:=Hi hfr
  have HV:=Hi hv
  have HX:=Hi hx
  have HREL:=Hi hrel
  have hgw:g<wr.heap.size:=obj_lt hfr.obj
  have hxw:xb<wr.heap.size:=obj_lt hx
  clear hfr hv hx hrel HREL0
  obtain ⟨sa,sb⟩:=ss
  simp only at b0 b1 b2
  by_cases hlt:j<N
  · have hlt4:(j:Int)<n4:=by omega
    cases sb with
    | false=>
      obtain ⟨⟨m1,t1⟩,hm1⟩:∃ r,r=rnum l seqMax (sa,false):=⟨_,rfl⟩
      obtain ⟨⟨m2,t2⟩,hm2⟩:∃ r,r=rnum l seqMax t1:=⟨_,rfl⟩
      obtain ⟨⟨m3,t3⟩,hm3⟩:∃ r,r=rnum l seqMax t2:=⟨_,rfl⟩
      have hcA:∀ w',FrAt w' g A c l (sa,false)→Calls Tryz.prog 125 #[.pointer (some ⟨g,0,none⟩),.int .i64 ((seqMax:Nat):Int)] w' fun e w''=>e=.returned (.int .i64 m1)∧FrAt w'' g A c l t1∧Touch (At g) w' w'':=fun w' h=>by
       have:=rnum_calls g A c l _ seqMax (by decide) w' h
       rwa [← hm1] at this
      have hcB:∀ w',FrAt w' g A c l t1→Calls Tryz.prog 125 #[.pointer (some ⟨g,0,none⟩),.int .i64 ((seqMax:Nat):Int)] w' fun e w''=>e=.returned (.int .i64 m2)∧FrAt w'' g A c l t2∧Touch (At g) w' w'':=fun w' h=>by
       have:=rnum_calls g A c l _ seqMax (by decide) w' h
       rwa [← hm2] at this
      have hcC:∀ w',FrAt w' g A c l t2→Calls Tryz.prog 125 #[.pointer (some ⟨g,0,none⟩),.int .i64 ((seqMax:Nat):Int)] w' fun e w''=>e=.returned (.int .i64 m3)∧FrAt w'' g A c l t3∧Touch (At g) w' w'':=fun w' h=>by
       have:=rnum_calls g A c l _ seqMax (by decide) w' h
       rwa [← hm3] at this
      have hall2:all=(es++[⟨m1,m2,m3⟩]++(rents l (N-(j+1)) t3).1,(rents l (N-(j+1)) t3).2):=by
       rw [hall,show N-j=N-(j+1)+1 by omega,rents_step _ _ _ rfl]
       have e1:rent l (sa,false)=(⟨m1,m2,m3⟩,t3):=by
        unfold rent
        rw [← hm1]
        simp only
        rw [← hm2]
        simp only
        rw [← hm3]
       rw [e1]
       simp
      have HA:=Hi hcA
      have HB:=Hi hcB
      have HC:=Hi hcC
      have HALL2:=Hi hall2
      clear hcA hcB hcC hall2 hm1 hm2 hm3 hall
      go_wp2_with fail
      go_region_law (first
       | (go_simp;go_at_call 125;refine (HA.out _ (HFR.out.drewN 1)).mono ?_;rintro e w1 ⟨rfl,hr1,ht1⟩
          have hx1:=ht1.obj (w:=wr.drew) HX.out HNX.out
          have d3:=(cells4 hx1).2.2.2.1
          have HR1:=Hi hr1;have HX1:=Hi hx1;have HT1:=Hi ht1
          clear hr1 hx1 ht1)
       | (go_simp;go_at_call 125;refine (HB.out _ HR1.out).mono ?_;rintro e w2 ⟨rfl,hr2,ht2⟩
          have hx2:=ht2.obj HX1.out HNX.out
          have d3:=(cells4 hx2).2.2.2.1
          have HR2:=Hi hr2;have HX2:=Hi hx2;have HT2:=Hi (HT1.out.then ht2)
          clear hr2 hx2 ht2)
       | (go_simp;go_at_call 125;refine (HC.out _ HR2.out).mono ?_;rintro e w3 ⟨rfl,hr3,ht3⟩
          have hx3:=ht3.obj HX2.out HNX.out
          have d3:=(cells4 hx3).2.2.2.1
          have u3:=obj_lt hx3
          have HR3:=Hi hr3;have HX3:=Hi hx3;have HT3:=Hi (HT2.out.then ht3)
          have HV3:=Hi (HV.out.keep (w':=w3) (F:=At g) ((Touch.refl (At g) wr).drew.then (HT2.out.then ht3)) (fun k hk h=>by have:=(HV.out.lt k hk).1;rw [At] at h;omega))
          clear hr3 hx3 ht3)
       | (refine step_append_rows w.heap.size (by rfl) _ _ 32 78 (.agg #[.int .i64 0,.int .i64 0,.int .i64 0]) 3 24 (by rfl) Tryz.underlying32 info_entry rfl (by omega) (.slice E j k) j (entCells es) (by rfl)
           (HV3.out.below ((Keeps.refl w3).alloc _).below) (some ⟨w3.heap.size,0,none⟩) 1 1 [.int .i64 m1,.int .i64 m2,.int .i64 m3] (by rfl) (by rfl) (RowAt.new_at w3 _ _ _ _ rfl _ rfl) (by simp [Value.oneCell']) (by simp only [maxLen];omega) (by omega) (Nat.le_trans (Nat.le_trans HREL.out.touch.size HT3.out.size) ((Keeps.refl w3).alloc _).size) ?_
          intro v4 w4 hl4 hg4 hat4
          obtain ⟨E4,k4,rfl,_⟩:=hl4.form
          have hx4:=(hg4.block xb (Nat.lt_of_lt_of_le u3 ((Keeps.refl w3).alloc _).size) (fun e=>HV3.out.ne HX3.out (by decide) e.symm)).trans (obj_old HX3.out _)
          obtain ⟨_,_,_,d3,z0,z1,z2,z3⟩:=cells4 hx4
          have u4:=obj_lt hx4
          have HX4:=Hi hx4;have HL4:=Hi hl4;have HG4:=Hi hg4;have HA4:=Hi hat4
          clear hx4 hl4 hg4 hat4))
      all_goals
       have HS:=Hi (IxRel.step hg hsz3 HAW.out HREL.out HES.out HALL2.out HR3.out HT3.out HV3.out HL4.out HG4.out HX4.out)
       go_wp2
       first
        | exact ⟨⟨j+1,by omega,by go_num,HS.out⟩,by simp [intOf];omega⟩
        | (go_roundw
           case rel=>exact ⟨j+1,by omega,by go_num,HS.out⟩
           case measure=>simp [intOf];omega)
    | true=>
      have hall3:all=(es,(sa,true)):=by rw [hall,rents_bad _ _ _ rfl];simp
      have HALL3:=Hi hall3
      clear hall hall3
      obtain ⟨r0,r1,r2,r3,q0,q1,q2,q3⟩:=cells4 HREL.out.res
      go_wp2_with fail
      go_region
      all_goals
       go_wp2
       obtain ⟨g1,g2,g3⟩:=IxRel.done hg HAW.out HREL.out HFR.out HV.out true (.int .i64 n1) (.int .i64 n2) (.int .i64 n3) (.slice E j k) _ rfl
       refine bodyPost_ret (v:=.agg #[.int .i64 n1,.int .i64 n2,.int .i64 n3,.slice E j k]) (by simp [results,Tryz.results126,go_sem, *]) rfl ⟨_,by rw [HR.out,HALL3.out],?_⟩
       have hRR:=HR.out
       rw [HALL3.out] at hRR
       rw [hRR]
       try simp only
       rw [HES.out]
       exact ⟨g1,by first | exact g2 | simpa using g2,g3⟩
  · have hlt4:¬(j:Int)<n4:=by omega
    have hall3:all=(es,(sa,sb)):=by rw [hall,show N-j=0 by omega,rents];simp
    have HALL3:=Hi hall3
    clear hall hall3
    obtain ⟨r0,r1,r2,r3,q0,q1,q2,q3⟩:=cells4 HREL.out.res
    cases sb with
    | true=>
      go_wp2_with fail
      go_region
      all_goals
       go_wp2
       obtain ⟨g1,g2,g3⟩:=IxRel.done hg HAW.out HREL.out HFR.out HV.out true (.int .i64 n1) (.int .i64 n2) (.int .i64 n3) (.slice E j k) _ rfl
       refine bodyPost_ret (v:=.agg #[.int .i64 n1,.int .i64 n2,.int .i64 n3,.slice E j k]) (by simp [results,Tryz.results126,go_sem, *]) rfl ⟨_,by rw [HR.out,HALL3.out],?_⟩
       have hRR:=HR.out
       rw [HALL3.out] at hRR
       rw [hRR]
       try simp only
       rw [HES.out]
       exact ⟨g1,by first | exact g2 | simpa using g2,g3⟩
    | false=>
      have hbb:((sa:Int) != (l.length:Int))=(sa != l.length):=by
       rw [Bool.eq_iff_iff,bne_iff_ne,bne_iff_ne]
       omega
      go_wp2_with fail
      go_region
      all_goals
       go_wp2
       obtain ⟨g1,g2,g3⟩:=IxRel.done hg HAW.out HREL.out HFR.out HV.out (sa != l.length) (.int .i64 n1) (.int .i64 n2) (.int .i64 n3) (.slice E j k) _ rfl
       refine bodyPost_ret (v:=.agg #[.int .i64 n1,.int .i64 n2,.int .i64 n3,.slice E j k]) (by simp [results,Tryz.results126,go_sem, *]) rfl ⟨_,by rw [HR.out,HALL3.out],?_⟩
       have hRR:=HR.out
       rw [HALL3.out] at hRR
       rw [hRR]
       try simp only
       rw [HES.out]
       exact ⟨g1,by first | exact g2 | simpa using g2,g3⟩
end Go.Proofs.YtihodcnnappkbaaGreatDoor
namespace Go.Proofs.YtihodcnnappkbaaGreatDoor
open Go.RowKit Go.BigFrame
set_option linter.unusedVariables false
set_option linter.unusedSimpArgs false
theorem Keeps.drewN (w:World) (n:Nat):Keeps w (w.drewN n):=⟨rfl,rfl,rfl,Nat.le_refl _,fun _ _=>rfl⟩
theorem row_ent {w:World} {A:Option Addr} {l:List Ent} (h:RowAt w A (entCells l)) (j:Nat) (hj:j<l.length) :
 ∃ ad,A=some ad∧w.cell? (ad.add (j*3))=some (.int .i64 (l[j]'hj).spot)∧w.cell? ⟨(ad.add (j*3)).block,(ad.add (j*3)).off+1,none⟩=some (.int .i64 (l[j]'hj).row) ∧
   w.cell? ⟨(ad.add (j*3)).block,(ad.add (j*3)).off+2,none⟩=some (.int .i64 (l[j]'hj).sch):=by
 obtain ⟨g0,g1,g2⟩:=entCells_get l j hj
 obtain ⟨ad,e,c0⟩:=h _ _ g0
 subst e
 have hg:∀ {i:Nat} {u:Value},0<i→(entCells l)[3*j+i]? = some u→w.cell? ⟨(ad.add (j*3)).block,(ad.add (j*3)).off+i,none⟩=some u:=fun hi hx=>by
  obtain ⟨ad',e,hcl⟩:=h _ _ hx
  cases e
  rw [← addr_add_pos _ _ hi,addr_add_add,Nat.mul_comm j 3]
  exact hcl
 exact ⟨ad,rfl,by rw [Nat.mul_comm];exact c0,hg (by omega) g1,hg (by omega) g2⟩
@[go_sem] theorem entEq_run (a b c d e f:Int) (w:World):(Op.equalIn 10000 78 (.agg #[.int .i64 a,.int .i64 b,.int .i64 c]) (.agg #[.int .i64 d,.int .i64 e,.int .i64 f])).run Tryz.prog w=.ok (a==d&&(b==e&&c==f)) w:=by
  have hp:Tryz.prog.stoodInHeld 78=false:=by kernel_rfl
  have hS:Tryz.prog.underlying 78=some (.struct (Tryz.prog.fieldsOf 78)):=by kernel_rfl
  have hi:∀ (d:Nat) (x y:Int) (w:World),(Op.equalIn (d+1) 2 (.int .i64 x) (.int .i64 y)).run Tryz.prog w=.ok (x==y) w:=fun d x y w=>run_equalIn_int w d _ .i64 .i64 x y Tryz.underlying2
  rw [show (10000:Nat)=9999+1 from rfl,run_equalIn_agg w 9999 78 _ _ hS hp]
  simp only [Program.fieldsOf,Tryz.underlying78]
  cases h1:a==d <;> cases h2:b==e <;> cases h3:c==f <;> simp [Op.eqFields,part,go_sem,show (9999:Nat)=9998+1 from rfl,hi,h1,h2,h3]
set_option maxRecDepth 20000 in
set_option maxHeartbeats 1000000 in
theorem entsEq_calls (A B:Option Addr) (c d:Nat) (l m:List Ent) (w:World) (hl:l.length≤17179869184) (hm:m.length≤17179869184) (hr:RowAt w A (entCells l)) (hs:RowAt w B (entCells m)) :
 Calls Tryz.prog 83 #[.slice A l.length c,.slice B m.length d] w fun e w'=>e=.returned (.bool (decide (l=m)))∧Keeps w w':=by
 by_cases hlen:l.length=m.length
 · obtain ⟨R,hR⟩:∃ R,R=decide (l=m):=⟨_,rfl⟩
   rw [← hR]
   have h0:R=decide (l.drop 0=m.drop 0):=by simpa using hR
   rw [← hlen]
   have HR:=Hi hr
   have HS:=Hi hs
   have H0:=Hi h0
   clear hr hs hR h0 hm
   generalize hN:l.length=N at hl hlen ⊢
   have HN:=Hi hN
   have HM:=Hi hlen
   clear hN hlen
   have hgd:Tryz.prog.eqGuardType Tryz.prog.depth 78=false:=by kernel_rfl
   go_enter Tryz.func83,Tryz.ntmps83
   go_wp2_with fail
   go_loopw [13] (fun i wr=>∃ j:Nat,j≤N∧i=.int .i64 (j:Int)∧R=decide (l.drop j=m.drop j)∧Keeps w wr) (fun i _=>N-(intOf i).toNat)
   case atStart=>exact ⟨0,by omega,rfl,H0.out,Keeps.refl w⟩
   case round=>
    obtain ⟨j,hj,rfl,hres,hkw⟩:=hrel
    by_cases hlt:j<N
    · have hl1:j<l.length:=by rw [HN.out];exact hlt
      have hm1:j<m.length:=by rw [← HM.out];exact hlt
      obtain ⟨a1,rfl,p0,p1,p2⟩:=row_ent (HR.out.below hkw.below) j hl1
      obtain ⟨a2,rfl,q0,q1,q2⟩:=row_ent (HS.out.below hkw.below) j hm1
      rw [List.drop_eq_getElem_cons hl1,List.drop_eq_getElem_cons hm1] at hres
      generalize l[j]'hl1=x at p0 p1 p2 hres
      generalize m[j]'hm1=y at q0 q1 q2 hres
      obtain ⟨x1,x2,x3⟩:=x
      obtain ⟨y1,y2,y3⟩:=y
      simp only at p0 p1 p2 q0 q1 q2
      have HRES:=Hi hres
      have HK:=Hi hkw
      clear hres hkw H0
      by_cases hxy:(⟨x1,x2,x3⟩:Ent)=⟨y1,y2,y3⟩
      · injection hxy with h1 h2 h3
        subst h1 h2 h3
        have hres:=HRES.out
        have e9:decide ((⟨x1,x2,x3⟩:Ent) :: l.drop (j+1)=⟨x1,x2,x3⟩ :: m.drop (j+1))=decide (l.drop (j+1)=m.drop (j+1)):=by simp
        rw [e9] at hres
        have HRR:=Hi hres
        clear hres e9 HRES
        go_wp2_with fail
        go_quiet (fail)
        go_wp2
        first
         | exact ⟨⟨j+1,by omega,by go_num,HRR.out,HK.out.trans (Keeps.drewN wr nq)⟩,by simp [intOf];omega⟩
         | (go_roundw
            case rel=>exact ⟨j+1,by omega,by go_num,HRR.out,HK.out.trans (Keeps.drewN wr nq)⟩
            case measure=>simp [intOf];omega)
      · have hres:=HRES.out
        have e9:decide ((⟨x1,x2,x3⟩:Ent) :: l.drop (j+1)=⟨y1,y2,y3⟩ :: m.drop (j+1))=false:=by
         rw [decide_eq_false_iff_not]
         intro h
         injection h with h _
         exact hxy h
        rw [e9] at hres
        have HRR:=Hi hres
        clear hres e9 HRES
        by_cases h1:x1=y1
        · by_cases h2:x2=y2
          · have h3:¬x3=y3:=fun h3=>hxy (by rw [h1,h2,h3])
            subst h1 h2
            clear hxy
            go_wp2_with fail
            go_quiet (fail)
            go_wp2
            go_ret
            exact ⟨by rw [HRR.out];rfl,HK.out.trans (Keeps.drewN wr nq)⟩
          · subst h1
            clear hxy
            go_wp2_with fail
            go_quiet (fail)
            go_wp2
            go_ret
            exact ⟨by rw [HRR.out];rfl,HK.out.trans (Keeps.drewN wr nq)⟩
        · clear hxy
          go_wp2_with fail
          go_quiet (fail)
          go_wp2
          go_ret
          exact ⟨by rw [HRR.out];rfl,HK.out.trans (Keeps.drewN wr nq)⟩
    · have e1:l.drop j=[]:=List.drop_eq_nil_of_le (by rw [HN.out];omega)
      have e2:m.drop j=[]:=List.drop_eq_nil_of_le (by rw [← HM.out];omega)
      rw [e1,e2] at hres
      have HRES:=Hi hres
      clear hres e1 e2 H0
      go_wp2
      go_ret
      exact ⟨by rw [HRES.out];rfl,hkw⟩
 · have e:decide (l=m)=false:=by
    rw [decide_eq_false_iff_not]
    intro h
    exact hlen (by rw [h])
   rw [e]
   clear e hr hs
   have hq:¬((l.length:Nat):Int)=((m.length:Nat):Int):=by omega
   generalize l.length=N at *
   generalize m.length=M at *
   go_enter Tryz.func83,Tryz.ntmps83
   go_wp2
   go_ret
   exact ⟨rfl,Keeps.refl w⟩
end Go.Proofs.YtihodcnnappkbaaGreatDoor
namespace Go.Proofs.YtihodcnnappkbaaGreatDoor
open Go.RowKit Go.BigFrame
set_option linter.unusedVariables false
set_option linter.unusedSimpArgs false
attribute [local go_sem] run_store_float
def Col.same (c d:Col):Bool:=decide (c.name=d.name)&&decide (c.has=d.has)&&Ty.same c.ty d.ty&&Va.same c.dflt d.dflt
def sameCols:List Col→List Col→Bool
 | [],[]=>true
 | c :: l,d :: m=>Col.same c d&&sameCols l m
 | _,_=>false
theorem sameCols_length:∀ (l m:List Col),sameCols l m=true→l.length=m.length
 | [],[],_=>rfl
 | c :: l,d :: m,h=>by
   rw [sameCols,Bool.and_eq_true] at h
   simp [sameCols_length l m h.2]
 | [],_ :: _,h=>by simp [sameCols] at h
 | _ :: _,[],h=>by simp [sameCols] at h
set_option maxRecDepth 20000 in
set_option maxHeartbeats 2000000 in
theorem schSame_calls (A B:Option Addr) (c d:Nat) (S T:Nat→Prop) (l m:List Col) (w:World) (hs:SchS w S A l) (ht:SchS w T B m) :
 Calls Tryz.prog 82 #[.agg #[.slice A l.length c],.agg #[.slice B m.length d]] w fun e w'=>e=.returned (.bool (sameCols l m))∧Keeps w w':=by
 have hll:=hs.len
 have hlm:=ht.len
 by_cases hlen:l.length=m.length
 · obtain ⟨R,hR⟩:∃ R,R=sameCols l m:=⟨_,rfl⟩
   rw [← hR]
   have h0:R=sameCols (l.drop 0) (m.drop 0):=hR
   rw [← hlen]
   have HS:=Hi hs
   have HT:=Hi ht
   have H0:=Hi h0
   clear hs ht hR h0 hlm
   generalize hN:l.length=N at hll hlen ⊢
   have HN:=Hi hN
   have HM:=Hi hlen
   clear hN hlen
   obtain ⟨W,hW⟩:∃ W,W=(w.alloc (.cells #[.slice A N c] 30)).alloc (.cells #[.slice B N d] 30):=⟨_,rfl⟩
   have hk0:Keeps w W:=by rw [hW];exact ((Keeps.refl w).alloc _).alloc _
   have hb1:W.heap[w.heap.size+1]? = some (.cells #[.slice B N d] 30):=by rw [hW];exact obj_new_at _ _ _ (by simp)
   have HB:=Hi hb1
   have HK:=Hi hk0
   have hk1:=Keeps.refl W
   rw [hW] at hk1
   clear hb1 hk0
   go_enter Tryz.func82,Tryz.ntmps82
   go_wp2_with fail
   go_loopw [18] (fun i wr=>∃ j:Nat,j≤N∧i=.int .i64 (j:Int)∧R=sameCols (l.drop j) (m.drop j)∧Keeps W wr) (fun i _=>N-(intOf i).toNat)
   case atStart=>exact ⟨0,by omega,rfl,H0.out,by rw [hW];exact hk1⟩
   case round=>
    obtain ⟨j,hj,rfl,hres,hkw⟩:=hrel
    clear hW hk1
    have hkk:=HK.out.trans hkw
    have hb:=(hkw.below.block _ (obj_lt HB.out)).trans HB.out
    have hbc:=(cells1 hb).1
    have hbl:=obj_lt hb
    by_cases hlt:j<N
    · have hl1:j<l.length:=by rw [HN.out];exact hlt
      have hm1:j<m.length:=by rw [← HM.out];exact hlt
      obtain ⟨ad,x0,x1,x2,x3,x4,x5,x6,x7,x8,rfl,_,hcol,c0,c1,c2,c3,c4,c5,c6,c7,c8⟩:=(HS.out.later hkk.below).get j hl1
      obtain ⟨bd,y0,y1,y2,y3,y4,y5,y6,y7,y8,rfl,_,hdol,d0,d1,d2,d3,d4,d5,d6,d7,d8⟩:=(HT.out.later hkk.below).get j hm1
      rw [List.drop_eq_getElem_cons hl1,List.drop_eq_getElem_cons hm1,sameCols,Col.same] at hres
      generalize l[j]'hl1=x at hcol hres
      generalize m[j]'hm1=y at hdol hres
      obtain ⟨⟨A2,k2,e2⟩,A8,k8,e8⟩:=hcol.form
      obtain ⟨⟨B2,q2,g2⟩,B8,q8,g8⟩:=hdol.form
      have hty:=hcol.ty
      have hdv:=hcol.dv
      have hty':=hdol.ty
      have hdv':=hdol.dv
      rw [hcol.nm] at c0
      rw [hcol.tk] at c1 hty
      rw [e2] at c2 hty
      rw [hcol.hs] at c3
      rw [hcol.dk] at c4 hdv
      rw [hcol.di] at c5 hdv
      rw [hcol.df] at c6 hdv
      rw [hcol.dt] at c7 hdv
      rw [e8] at c8 hdv
      rw [hdol.nm] at d0
      rw [hdol.tk] at d1 hty'
      rw [g2] at d2 hty'
      rw [hdol.hs] at d3
      rw [hdol.dk] at d4 hdv'
      rw [hdol.di] at d5 hdv'
      rw [hdol.df] at d6 hdv'
      rw [hdol.dt] at d7 hdv'
      rw [g8] at d8 hdv'
      have hst:∀ w',Keeps wr w'→Calls Tryz.prog 116 _ w' fun e w''=>e=.returned (.bool (Ty.same x.ty y.ty))∧Keeps w' w'':=fun w' hk=>sameType_calls _ _ _ _ _ w' (Nat.lt_succ_self _) (hty.later hk.below).at (hty'.later hk.below).at
      have hsv:∀ w',Keeps wr w'→Calls Tryz.prog 101 _ w' fun e w''=>e=.returned (.bool (Va.same x.dflt y.dflt))∧Keeps w' w'':=fun w' hk=>sameValue_calls _ _ _ _ _ w' (Nat.lt_succ_self _) (hdv.later hk.below).at (hdv'.later hk.below).at
      generalize Ty.same x.ty y.ty=p1 at *
      generalize Va.same x.dflt y.dflt=p2 at *
      generalize x.name=nx at *
      generalize y.name=ny at *
      generalize x.has=hx at *
      generalize y.has=hy at *
      generalize x.ty.of.length=z1 at *
      generalize y.ty.of.length=z2 at *
      generalize x.ty.kind=z3 at *
      generalize y.ty.kind=z4 at *
      generalize x.dflt.items.length=z5 at *
      generalize y.dflt.items.length=z6 at *
      generalize x.dflt.kind=z7 at *
      generalize y.dflt.kind=z8 at *
      generalize x.dflt.int=z9 at *
      generalize y.dflt.int=z10 at *
      generalize x.dflt.fl=z11 at *
      generalize y.dflt.fl=z12 at *
      generalize x.dflt.text=z13 at *
      generalize y.dflt.text=z14 at *
      have hbd:(bd.add (j*9)).block<wr.heap.size:=World.block_lt_of_cell? wr _ d0
      obtain ⟨W2,hW2⟩:∃ W2,W2=(wr.alloc (.cells #[.string nx,.int .i64 z3,.slice A2 z1 k2,.bool hx,.int .i64 z7,.int .i64 z9,.float .f64 z11,.string z13,.slice A8 z5 k8] 103)).alloc (.cells #[.string ny,.int .i64 z4,.slice B2 z2 q2,.bool hy,.int .i64 z8,.int .i64 z10,.float .f64 z12,.string z14,.slice B8 z6 q8] 103):=⟨_,rfl⟩
      have hk2:Keeps wr W2:=by rw [hW2];exact ((Keeps.refl wr).alloc _).alloc _
      have bx:W2.heap[wr.heap.size]? = some (.cells #[.string nx,.int .i64 z3,.slice A2 z1 k2,.bool hx,.int .i64 z7,.int .i64 z9,.float .f64 z11,.string z13,.slice A8 z5 k8] 103):=by rw [hW2];exact obj_old (obj_new wr _) _
      have bY:W2.heap[wr.heap.size+1]? = some (.cells #[.string ny,.int .i64 z4,.slice B2 z2 q2,.bool hy,.int .i64 z8,.int .i64 z10,.float .f64 z12,.string z14,.slice B8 z6 q8] 103):=by rw [hW2];exact obj_new_at _ _ _ (by simp)
      have HST:=Hi (hst W2 hk2)
      have HSV:=Hi hsv
      have HBX:=Hi bx
      have HBY:=Hi bY
      have HK2:=Hi hk2
      have HKW:=Hi hkw
      have HRES:=Hi hres
      clear hst hsv bx bY hk2 hkw hres hcol hdol hty hty' hdv hdv' e2 e8 g2 g8 hkk hb
      by_cases hname:nx=ny
      · by_cases hhas:hx=hy
        · subst hname hhas
          have qn:(nx.toList==nx.toList)=true:=by simp
          have hres:=HRES.out
          simp only [decide_true,Bool.true_and] at hres
          have HRES:=Hi hres
          clear hres
          go_wp2_with fail
          rw [← hW2]
          clear hW2
          refine HST.out.mono ?_
          rintro e w3 ⟨rfl,hk3⟩
          have hk23:=HK2.out.trans hk3
          have bx3:=(hk3.below.block _ (obj_lt HBX.out)).trans HBX.out
          have bY3:=(hk3.below.block _ (obj_lt HBY.out)).trans HBY.out
          have HSV3:=Hi (HSV.out w3 hk23)
          have HK3:=Hi (HKW.out.trans hk23)
          obtain ⟨⟨a0,a1,a2,a3,a4,a5,a6,a7,a8⟩,_⟩:=cells9 bx3
          obtain ⟨⟨b0,b1,b2,b3,b4,b5,b6,b7,b8⟩,_⟩:=cells9 bY3
          clear hk3 bx3 bY3 HST HSV
          cases p1 with
          | false=>
            have hres:=HRES.out
            try simp only [Bool.false_and,Bool.and_false] at hres
            have HRR:=Hi hres
            clear hres
            go_wp2
            go_ret
            exact ⟨by rw [HRR.out];rfl,HK.out.trans HK3.out⟩
          | true=>
            go_wp2_with fail
            refine HSV3.out.mono ?_
            rintro e w4 ⟨rfl,hk4⟩
            have HK4:=Hi (HK3.out.trans hk4)
            clear hk4
            cases p2 with
            | false=>
              have hres:=HRES.out
              try simp only [Bool.and_false,Bool.false_and] at hres
              have HRR:=Hi hres
              clear hres
              go_wp2
              go_ret
              exact ⟨by rw [HRR.out];rfl,HK.out.trans HK4.out⟩
            | true=>
              have hres:=HRES.out
              try simp only [Bool.true_and,Bool.and_true] at hres
              have HRR:=Hi hres
              clear hres
              go_wp2
              first
               | exact ⟨⟨j+1,by omega,by go_num,HRR.out,HK4.out⟩,by simp [intOf];omega⟩
               | (go_roundw
                  case rel=>exact ⟨j+1,by omega,by go_num,HRR.out,HK4.out⟩
                  case measure=>simp [intOf];omega)
        · subst hname
          have hres:=HRES.out
          simp only [hhas,decide_false,decide_true,Bool.true_and,Bool.false_and] at hres
          have qn:(nx.toList==nx.toList)=true:=by simp
          have qh:(hx != hy)=true:=by simpa using hhas
          have HRR:=Hi hres
          have HK5:=Hi (HKW.out.trans HK2.out)
          clear hres HRES
          go_wp2
          go_ret
          exact ⟨by rw [HRR.out];rfl,by rw [← hW2];exact HK.out.trans HK5.out⟩
      · have hres:=HRES.out
        simp only [hname,decide_false,Bool.false_and] at hres
        have qn:=texts_ne hname
        have HRR:=Hi hres
        have HK5:=Hi (HKW.out.trans HK2.out)
        clear hres HRES
        go_wp2
        go_ret
        exact ⟨by rw [HRR.out];rfl,by rw [← hW2];exact HK.out.trans HK5.out⟩
    · have e1:l.drop j=[]:=List.drop_eq_nil_of_le (by rw [HN.out];omega)
      have e2:m.drop j=[]:=List.drop_eq_nil_of_le (by rw [← HM.out];omega)
      rw [e1,e2,sameCols] at hres
      have HRES:=Hi hres
      clear hres e1 e2 H0
      go_wp2
      go_ret
      exact ⟨by rw [HRES.out];rfl,hkk⟩
 · have e:sameCols l m=false:=by
    cases h:sameCols l m with
    | false=>rfl
    | true=>exact absurd (sameCols_length l m h) hlen
   rw [e]
   clear e hs ht
   have hq:¬((l.length:Nat):Int)=((m.length:Nat):Int):=by omega
   generalize l.length=N at *
   generalize m.length=M at *
   go_enter Tryz.func82,Tryz.ntmps82
   go_wp2
   go_ret
   exact ⟨rfl,((Keeps.refl w).alloc _).alloc _⟩
end Go.Proofs.YtihodcnnappkbaaGreatDoor
namespace Go.Proofs.YtihodcnnappkbaaGreatDoor
open Go.RowKit Go.BigFrame
set_option linter.unusedVariables false
set_option linter.unusedSimpArgs false
def ixSame (a b:Fr):Bool:=decide (a.spot=b.spot)&&decide (a.frames=b.frames)&&decide (a.irows=b.irows)&&decide (a.ents=b.ents)
def frSame (a b:Fr):Bool:=
 if a.kind=b.kind then
  if a.kind=1 then decide (a.number=b.number)&&sameCols a.cols b.cols
  else if a.kind=2 then decide (a.number=b.number)&&decide (a.seq=b.seq)&&decide (a.first=b.first)&&decide (a.rows=b.rows)&&decide (a.block=b.block)
  else if a.kind=3 then ixSame a b
  else true
 else false
def frZero:Fr:=⟨0,0,[],0,0,0,[],0,0,0,[]⟩
def takeS (l:List UInt8):Except Int Fr:=
 let r:=rnum l 2147483648 (1,false)
 if r.2.2 then .error 5 else
  match decodeS (l.drop r.2.1) with
  | .error e=>.error e
  | .ok cols=>.ok { frZero with kind:=1,number:=r.1,cols:=cols }
def takeD (l:List UInt8):Except Int Fr:=
 let r1:=rnum l 2147483648 (1,false)
 let r2:=rnum l seqMax r1.2
 let r3:=rnum l seqMax r2.2
 let r4:=rnum l 65 r3.2
 if r4.2.2||decide (r4.1<1) then .error 5
 else .ok { frZero with kind:=2,number:=r1.1,seq:=r2.1,first:=r3.1,rows:=r4.1,block:=l.drop r4.2.1 }
def takeI (l:List UInt8):Except Int Fr:=
 let r:=rindex l (1,false)
 if r.2.2 then .error 5 else .ok { frZero with kind:=3,spot:=r.1.spot,frames:=r.1.frames,irows:=r.1.irows,ents:=r.1.ents }
def takeF:List UInt8→Except Int Fr
 | []=>.error 60
 | b :: l=>if b=1 then takeS (b :: l) else if b=2 then takeD (b :: l) else if b=3 then takeI (b :: l) else .error 60
structure FrO (w:World) (base:Nat) (A:Option Addr) (B:Option Addr) (d:Nat) (E:Option Addr) (k:Nat) (f:Fr):Prop where
 sch:SchS w (fun b=>base≤b) A f.cols
 blk:OwnL 5 w base (.slice B f.block.length d) f.block
 ent:Loose w base 78 3 (.slice E f.ents.length k) f.ents.length (entCells f.ents)
theorem FrO.below {w w':World} {base:Nat} {A B E:Option Addr} {d k:Nat} {f:Fr} (h:FrO w base A B d E k f) (hb:Below w.heap.size w w'):FrO w' base A B d E k f:=
 ⟨h.sch.later hb,h.blk.below hb,h.ent.below hb⟩
def TakePost (w:World) (r:Except Int Fr) (e:Ending) (w':World):Prop:=
 match r with
 | .error x=>e=.returned (.tuple #[.agg (frCells none 0 none 0 none 0 frZero),.int .i64 x])∧Keeps w w'
 | .ok f=>∃ A c B d E k,e=.returned (.tuple #[.agg (frCells A c B d E k f),.int .i64 0])∧FrO w' w.heap.size A B d E k f∧Keeps w w'
abbrev zero11:Array Value:=#[.int .i64 0,.int .i64 0,.slice none 0 0,.int .i64 0,.int .i64 0,.int .i64 0,.slice none 0 0,.int .i64 0,.int .i64 0,.int .i64 0,.slice none 0 0]
structure TkAt (w wr:World) (A:Option Addr) (c:Nat) (l:List UInt8) (s:Nat×Bool) (F:Array Value):Prop where
 res:wr.heap[w.heap.size]? = some (.cells zero11 36)
 fr:wr.heap[w.heap.size+1]? = some (.cells F 36)
 rd:FrAt wr (w.heap.size+1+1) A c l s
 keeps:Keeps w wr
theorem TkAt.start (w:World) (A:Option Addr) (c:Nat) (l:List UInt8) (hr:Reads w A l) (F:Array Value) (hl:l.length≤140737488355328) (hlc:l.length≤c) (hc:c≤9223372036854775807) (h1:1≤l.length) :
 TkAt w (((w.alloc (.cells zero11 36)).alloc (.cells F 36)).alloc (.cells #[.slice A l.length c,.int .i64 1,.bool false] 172)) A c l (1,false) F:=by
 have hk:Keeps w (((w.alloc (.cells zero11 36)).alloc (.cells F 36)).alloc (.cells #[.slice A l.length c,.int .i64 1,.bool false] 172)):=(((Keeps.refl w).alloc _).alloc _).alloc _
 refine ⟨obj_old (obj_old (obj_new w _) _) _,obj_old (obj_new_at _ _ _ (by simp)) _,⟨obj_new_at _ _ _ (by simp),hr.below hk.below,fun b e hn=>?_,hl,hlc,hc,h1⟩,hk⟩
 obtain ⟨ad,e1,hcell⟩:=hr.out 0 h1
 rw [e] at e1
 cases e1
 have:=World.block_lt_of_cell? w _ hcell
 rw [addr_add_block] at this
 omega
theorem TkAt.later {w wr w':World} {A:Option Addr} {c:Nat} {l:List UInt8} {s:Nat×Bool} {F:Array Value} (h:TkAt w wr A c l s F) (hk:Keeps wr w'):TkAt w w' A c l s F:=
 ⟨(hk.below.block _ (obj_lt h.res)).trans h.res,(hk.below.block _ (obj_lt h.fr)).trans h.fr,h.rd.below hk.below,h.keeps.trans hk⟩
theorem TkAt.call {w wr w':World} {A:Option Addr} {c:Nat} {l:List UInt8} {s s':Nat×Bool} {F:Array Value} (h:TkAt w wr A c l s F) (hr:FrAt w' (w.heap.size+1+1) A c l s') (ht:Touch (At (w.heap.size+1+1)) wr w'):TkAt w w' A c l s' F:=
 ⟨ht.obj h.res (by rw [At];omega),ht.obj h.fr (by rw [At];omega),hr,Touch.nothing (((Touch.of_below (F:=At (w.heap.size+1+1)) h.keeps.below fun k hk e=>absurd hk (by omega))).then ht) fun k hk e=>by rw [At] at e;omega⟩
theorem TkAt.low {w wr:World} {A:Option Addr} {c:Nat} {l:List UInt8} {s:Nat×Bool} {F:Array Value} (h:TkAt w wr A c l s F) (hr:Reads w A l):∀ b,A=some b→l≠[]→b.block<w.heap.size:=fun b e hn=>by
 have hp:0<l.length:=List.length_pos_iff.2 hn
 obtain ⟨ad,e1,hcell⟩:=hr.out 0 hp
 rw [e] at e1
 cases e1
 have:=World.block_lt_of_cell? w _ hcell
 rwa [addr_add_block] at this
theorem TkAt.set {w wr:World} {A:Option Addr} {c:Nat} {l:List UInt8} {s:Nat×Bool} {F:Array Value} (h:TkAt w wr A c l s F) (hr:Reads w A l) (i:Nat) (u:Value):TkAt w (wr.setCell ⟨w.heap.size+1,i,none⟩ u) A c l s (F.setIfInBounds i u):=by
 have ht:Touch (At (w.heap.size+1)) wr (wr.setCell ⟨w.heap.size+1,i,none⟩ u):=(Touch.refl _ _).set i u
 have hlow:=h.low hr
 exact ⟨ht.obj h.res (by rw [At];omega),obj_set h.fr i u,h.rd.touch ht (by rw [At];omega) (fun b e hn e2=>by have:=hlow b e hn;rw [At] at e2;omega),
  Touch.nothing (((Touch.of_below (F:=At (w.heap.size+1)) h.keeps.below fun k hk e=>absurd hk (by omega))).then ht) fun k hk e=>by rw [At] at e;omega⟩
theorem TkAt.bad {w wr:World} {A:Option Addr} {c:Nat} {l:List UInt8} {a:Nat} {b:Bool} {F:Array Value} (h:TkAt w wr A c l (a,b) F) (b':Bool):TkAt w (wr.setCell ⟨w.heap.size+1+1,2,none⟩ (.bool b')) A c l (a,b') F:=
 h.call (h.rd.setBad b') ((Touch.refl _ _).set 2 _)
theorem cells11 {w:World} {g:Nat} {x0 x1 x2 x3 x4 x5 x6 x7 x8 x9 x10:Value} {t:TypeId} (h:w.heap[g]? = some (.cells #[x0,x1,x2,x3,x4,x5,x6,x7,x8,x9,x10] t (0,0))) :
 (w.cell? ⟨g,0,none⟩=some x0∧w.cell? ⟨g,1,none⟩=some x1∧w.cell? ⟨g,2,none⟩=some x2∧w.cell? ⟨g,3,none⟩=some x3∧w.cell? ⟨g,4,none⟩=some x4∧w.cell? ⟨g,5,none⟩=some x5∧w.cell? ⟨g,6,none⟩=some x6∧w.cell? ⟨g,7,none⟩=some x7∧w.cell? ⟨g,8,none⟩=some x8∧w.cell? ⟨g,9,none⟩=some x9∧w.cell? ⟨g,10,none⟩=some x10) ∧
 (w.frozen? ⟨g,0,none⟩=false∧w.frozen? ⟨g,1,none⟩=false∧w.frozen? ⟨g,2,none⟩=false∧w.frozen? ⟨g,3,none⟩=false∧w.frozen? ⟨g,4,none⟩=false∧w.frozen? ⟨g,5,none⟩=false∧w.frozen? ⟨g,6,none⟩=false∧w.frozen? ⟨g,7,none⟩=false∧w.frozen? ⟨g,8,none⟩=false∧w.frozen? ⟨g,9,none⟩=false∧w.frozen? ⟨g,10,none⟩=false):=
 ⟨⟨by rw [obj_cell h];rfl,by rw [obj_cell h];rfl,by rw [obj_cell h];rfl,by rw [obj_cell h];rfl,by rw [obj_cell h];rfl,by rw [obj_cell h];rfl,by rw [obj_cell h];rfl,by rw [obj_cell h];rfl,by rw [obj_cell h];rfl,by rw [obj_cell h];rfl,by rw [obj_cell h];rfl⟩,
  obj_frozen h 0,obj_frozen h 1,obj_frozen h 2,obj_frozen h 3,obj_frozen h 4,obj_frozen h 5,obj_frozen h 6,obj_frozen h 7,obj_frozen h 8,obj_frozen h 9,obj_frozen h 10⟩
def store11 (w:World) (g:Nat) (x0 x1 x2 x3 x4 x5 x6 x7 x8 x9 x10:Value):World:=
 ((((((((((w.setCell ⟨g,0,none⟩ x0).setCell ⟨g,1,none⟩ x1).setCell ⟨g,2,none⟩ x2).setCell ⟨g,3,none⟩ x3).setCell ⟨g,4,none⟩ x4).setCell ⟨g,5,none⟩ x5).setCell ⟨g,6,none⟩ x6).setCell ⟨g,7,none⟩ x7).setCell ⟨g,8,none⟩ x8).setCell ⟨g,9,none⟩ x9).setCell ⟨g,10,none⟩ x10
theorem store11_touch (w:World) (g:Nat) (x0 x1 x2 x3 x4 x5 x6 x7 x8 x9 x10:Value):Touch (At g) w (store11 w g x0 x1 x2 x3 x4 x5 x6 x7 x8 x9 x10):=
 (((((((((((Touch.refl _ _).set 0 _).set 1 _).set 2 _).set 3 _).set 4 _).set 5 _).set 6 _).set 7 _).set 8 _).set 9 _).set 10 _
theorem TkAt.done {w wr:World} {A:Option Addr} {c:Nat} {l:List UInt8} {s:Nat×Bool} {F:Array Value} (h:TkAt w wr A c l s F) (x0 x1 x2 x3 x4 x5 x6 x7 x8 x9 x10:Value):Keeps w (store11 wr w.heap.size x0 x1 x2 x3 x4 x5 x6 x7 x8 x9 x10):=
 Touch.nothing ((Touch.of_below (F:=At w.heap.size) h.keeps.below fun k hk e=>absurd hk (by omega)).then (store11_touch wr w.heap.size x0 x1 x2 x3 x4 x5 x6 x7 x8 x9 x10)) fun k hk e=>by rw [At] at e;omega
theorem ta_ss (x:Array Value) (w:World):(Instr.typeAssert (.iface 150 (.agg x)) 118 150 true).run Tryz.prog w=.ok (.tuple #[.agg x,.bool true]) w:=by kernel_rfl
theorem ta_dd (x:Array Value) (w:World):(Instr.typeAssert (.iface 151 (.agg x)) 118 151 true).run Tryz.prog w=.ok (.tuple #[.agg x,.bool true]) w:=by kernel_rfl
theorem ta_xx (x:Array Value) (w:World):(Instr.typeAssert (.iface 153 (.agg x)) 118 153 true).run Tryz.prog w=.ok (.tuple #[.agg x,.bool true]) w:=by kernel_rfl
theorem ta_ds (x:Array Value) (w:World):(Instr.typeAssert (.iface 151 (.agg x)) 118 150 true).run Tryz.prog w=.ok (.tuple #[.agg zero11,.bool false]) w:=by kernel_rfl
theorem ta_xs (x:Array Value) (w:World):(Instr.typeAssert (.iface 153 (.agg x)) 118 150 true).run Tryz.prog w=.ok (.tuple #[.agg zero11,.bool false]) w:=by kernel_rfl
theorem ta_xd (x:Array Value) (w:World):(Instr.typeAssert (.iface 153 (.agg x)) 118 151 true).run Tryz.prog w=.ok (.tuple #[.agg zero11,.bool false]) w:=by kernel_rfl
theorem ta_ns (w:World):(Instr.typeAssert .nilIface 118 150 true).run Tryz.prog w=.ok (.tuple #[.agg zero11,.bool false]) w:=by kernel_rfl
theorem ta_nd (w:World):(Instr.typeAssert .nilIface 118 151 true).run Tryz.prog w=.ok (.tuple #[.agg zero11,.bool false]) w:=by kernel_rfl
theorem ta_nx (w:World):(Instr.typeAssert .nilIface 118 153 true).run Tryz.prog w=.ok (.tuple #[.agg #[.int .i64 0,.int .i64 0,.int .i64 0,.slice none 0 0],.bool false]) w:=by kernel_rfl
attribute [local go_sem] ta_ss ta_dd ta_xx ta_ds ta_xs ta_xd ta_ns ta_nd ta_nx
def d1 (l:List UInt8):=rnum l 2147483648 (1,false)
def d2 (l:List UInt8):=rnum l seqMax (d1 l).2
def d3 (l:List UInt8):=rnum l seqMax (d2 l).2
def d4 (l:List UInt8):=rnum l 65 (d3 l).2
set_option maxRecDepth 20000 in
set_option maxHeartbeats 4000000 in
theorem take_s1 (A:Option Addr) (c:Nat) (l:List UInt8) (w:World) (hr:Reads w A l) (hl0:0<l.length) (hl:l.length≤140737488355328) (hlc:l.length≤c) (hc:c≤9223372036854775807) (htb:Tabs w) (hk:((l[0]'hl0).toNat:Int)=1) (hbad:(rnum l 2147483648 (1,false)).2.2=true) :
 Calls Tryz.prog 93 #[.slice A l.length c] w (fun e w'=>e=.returned (.tuple #[.agg zero11,.int .i64 5])∧Keeps w w'):=by
 obtain ⟨ad,rfl,hcell⟩:=hr.out 0 hl0
 have had:=World.block_lt_of_cell? w _ hcell
 rw [addr_add_block] at had
 rw [addr_add_zero,hk] at hcell
 have h0:=TkAt.start w (some ad) c l hr #[.int .i64 1,.int .i64 0,.slice none 0 0,.int .i64 0,.int .i64 0,.int .i64 0,.slice none 0 0,.int .i64 0,.int .i64 0,.int .i64 0,.slice none 0 0] hl hlc hc hl0
 obtain ⟨W,hW⟩:∃ W,W=(((w.alloc (.cells zero11 36)).alloc (.cells #[.int .i64 1,.int .i64 0,.slice none 0 0,.int .i64 0,.int .i64 0,.int .i64 0,.slice none 0 0,.int .i64 0,.int .i64 0,.int .i64 0,.slice none 0 0] 36)).alloc (.cells #[.slice (some ad) l.length c,.int .i64 1,.bool false] 172)):=⟨_,rfl⟩
 rw [← hW] at h0
 have hof:=frOf_calls (.int .i64 0) (.int .i64 0) (.slice none 0 0) (.int .i64 0) (.int .i64 0) (.int .i64 0) (.slice none 0 0) (1) (.int .i64 0) (.int .i64 0) (.int .i64 0) (.slice none 0 0) W
 have H0:=Hi h0
 have HOF:=Hi hof
 have HRD:=Hi hr
 have hv:ofV #[.int .i64 1,.int .i64 0,.slice none 0 0,.int .i64 0,.int .i64 0,.int .i64 0,.slice none 0 0,.int .i64 0,.int .i64 0,.int .i64 0,.slice none 0 0] 1 #[.int .i64 0,.int .i64 0,.int .i64 0,.slice none 0 0]=.iface 150 (.agg #[.int .i64 1,.int .i64 0,.slice none 0 0,.int .i64 0,.int .i64 0,.int .i64 0,.slice none 0 0,.int .i64 0,.int .i64 0,.int .i64 0,.slice none 0 0]):=rfl
 obtain ⟨⟨n1,⟨a1,b1⟩⟩,hn1⟩:∃ r,r=rnum l 2147483648 (1,false):=⟨_,rfl⟩
 rw [← hn1] at hbad
 simp only at hbad
 subst hbad
 have HN1:=Hi hn1
 clear hn1 hk
 have HTB:=Hi htb
 have HLC:=Hi hlc
 have HC:=Hi hc
 clear hof h0 hr hlc hc htb
 have hL1:0<l.length:=hl0
 clear hl0
 generalize hLL:l.length=L at hl hW hL1 ⊢
 have HLL:=Hi hLL
 clear hLL
 go_enter Tryz.func93,Tryz.ntmps93
 go_wp2_with fail
 rw [← hW]
 clear hW
 refine HOF.out.mono ?_
 rintro e w1 ⟨rfl,hk1⟩
 have h1:=H0.out.later hk1
 rw [hv]
 clear hv HOF H0
 obtain ⟨⟨c0,c1,c2,c3,c4,c5,c6,c7,c8,c9,c10⟩,z0,z1,z2,z3,z4,z5,z6,z7,z8,z9,z10⟩:=cells11 h1.fr
 have hc2:=rnum_calls (w.heap.size+1+1) (some ad) c l (1,false) 2147483648 (by decide) w1 h1.rd
 rw [← HN1.out] at hc2
 have HC2:=Hi hc2
 have H1:=Hi h1
 clear h1 hc2
 go_wp2_with fail
 refine HC2.out.mono ?_
 rintro e w2 ⟨rfl,hr2,ht2⟩
 have h2:=H1.out.call hr2 ht2
 clear hr2 ht2 HC2 H1
 obtain ⟨⟨c0,c1,c2,c3,c4,c5,c6,c7,c8,c9,c10⟩,z0,z1,z2,z3,z4,z5,z6,z7,z8,z9,z10⟩:=cells11 h2.fr
 obtain ⟨⟨d0,d1,d2,d3,d4,d5,d6,d7,d8,d9,d10⟩,y0,y1,y2,y3,y4,y5,y6,y7,y8,y9,y10⟩:=cells11 h2.res
 obtain ⟨r0,r1,r2,x0,x1,x2⟩:=cells3 h2.rd.obj
 have u2:=obj_lt h2.rd.obj
 have H2:=Hi h2
 clear h2 r0 x0 x1 x2
 go_wp2
 refine bodyPost_ret (v:=.tuple #[.agg zero11,.int .i64 5]) (by simp [results,Tryz.results93,go_sem, *]) rfl ⟨rfl,(H2.out.set HRD.out 1 _).done (.int .i64 0) (.int .i64 0) (.slice none 0 0) (.int .i64 0) (.int .i64 0) (.int .i64 0) (.slice none 0 0) (.int .i64 0) (.int .i64 0) (.int .i64 0) (.slice none 0 0)⟩
set_option maxRecDepth 20000 in
set_option maxHeartbeats 4000000 in
theorem take_s2 (A:Option Addr) (c:Nat) (l:List UInt8) (w:World) (hr:Reads w A l) (hl0:0<l.length) (hl:l.length≤140737488355328) (hlc:l.length≤c) (hc:c≤9223372036854775807) (htb:Tabs w) (hk:((l[0]'hl0).toNat:Int)=1) (hbad:(rnum l 2147483648 (1,false)).2.2=false) (er:Int) (hd:decodeS (l.drop (rnum l 2147483648 (1,false)).2.1)=.error er) :
 Calls Tryz.prog 93 #[.slice A l.length c] w (fun e w'=>e=.returned (.tuple #[.agg zero11,.int .i64 er])∧Keeps w w'):=by
 obtain ⟨ad,rfl,hcell⟩:=hr.out 0 hl0
 have had:=World.block_lt_of_cell? w _ hcell
 rw [addr_add_block] at had
 rw [addr_add_zero,hk] at hcell
 have h0:=TkAt.start w (some ad) c l hr #[.int .i64 1,.int .i64 0,.slice none 0 0,.int .i64 0,.int .i64 0,.int .i64 0,.slice none 0 0,.int .i64 0,.int .i64 0,.int .i64 0,.slice none 0 0] hl hlc hc hl0
 obtain ⟨W,hW⟩:∃ W,W=(((w.alloc (.cells zero11 36)).alloc (.cells #[.int .i64 1,.int .i64 0,.slice none 0 0,.int .i64 0,.int .i64 0,.int .i64 0,.slice none 0 0,.int .i64 0,.int .i64 0,.int .i64 0,.slice none 0 0] 36)).alloc (.cells #[.slice (some ad) l.length c,.int .i64 1,.bool false] 172)):=⟨_,rfl⟩
 rw [← hW] at h0
 have hof:=frOf_calls (.int .i64 0) (.int .i64 0) (.slice none 0 0) (.int .i64 0) (.int .i64 0) (.int .i64 0) (.slice none 0 0) (1) (.int .i64 0) (.int .i64 0) (.int .i64 0) (.slice none 0 0) W
 have H0:=Hi h0
 have HOF:=Hi hof
 have HRD:=Hi hr
 have hv:ofV #[.int .i64 1,.int .i64 0,.slice none 0 0,.int .i64 0,.int .i64 0,.int .i64 0,.slice none 0 0,.int .i64 0,.int .i64 0,.int .i64 0,.slice none 0 0] 1 #[.int .i64 0,.int .i64 0,.int .i64 0,.slice none 0 0]=.iface 150 (.agg #[.int .i64 1,.int .i64 0,.slice none 0 0,.int .i64 0,.int .i64 0,.int .i64 0,.slice none 0 0,.int .i64 0,.int .i64 0,.int .i64 0,.slice none 0 0]):=rfl
 obtain ⟨⟨n1,⟨a1,b1⟩⟩,hn1⟩:∃ r,r=rnum l 2147483648 (1,false):=⟨_,rfl⟩
 rw [← hn1] at hbad hd
 simp only at hbad hd
 subst hbad
 have HD:=Hi hd
 clear hd
 have HN1:=Hi hn1
 clear hn1 hk
 have HTB:=Hi htb
 have HLC:=Hi hlc
 have HC:=Hi hc
 clear hof h0 hr hlc hc htb
 have hL1:0<l.length:=hl0
 clear hl0
 generalize hLL:l.length=L at hl hW hL1 ⊢
 have HLL:=Hi hLL
 clear hLL
 go_enter Tryz.func93,Tryz.ntmps93
 go_wp2_with fail
 rw [← hW]
 clear hW
 refine HOF.out.mono ?_
 rintro e w1 ⟨rfl,hk1⟩
 have h1:=H0.out.later hk1
 rw [hv]
 clear hv HOF H0
 obtain ⟨⟨c0,c1,c2,c3,c4,c5,c6,c7,c8,c9,c10⟩,z0,z1,z2,z3,z4,z5,z6,z7,z8,z9,z10⟩:=cells11 h1.fr
 have hc2:=rnum_calls (w.heap.size+1+1) (some ad) c l (1,false) 2147483648 (by decide) w1 h1.rd
 rw [← HN1.out] at hc2
 have HC2:=Hi hc2
 have H1:=Hi h1
 clear h1 hc2
 go_wp2_with fail
 refine HC2.out.mono ?_
 rintro e w2 ⟨rfl,hr2,ht2⟩
 have h2:=H1.out.call hr2 ht2
 clear hr2 ht2 HC2 H1
 obtain ⟨⟨c0,c1,c2,c3,c4,c5,c6,c7,c8,c9,c10⟩,z0,z1,z2,z3,z4,z5,z6,z7,z8,z9,z10⟩:=cells11 h2.fr
 obtain ⟨⟨d0,d1,d2,d3,d4,d5,d6,d7,d8,d9,d10⟩,y0,y1,y2,y3,y4,y5,y6,y7,y8,y9,y10⟩:=cells11 h2.res
 obtain ⟨r0,r1,r2,x0,x1,x2⟩:=cells3 h2.rd.obj
 obtain ⟨Z,hif⟩:∃ Z,(if c=a1 then some ad else some (ad.add a1))=Z:=⟨_,rfl⟩
 have hrz:Reads (w2.setCell ⟨w.heap.size+1,1,none⟩ (.int .i64 n1)) Z (l.drop a1):=by
  have h3:=h2.set HRD.out 1 (.int .i64 n1)
  refine h3.rd.reads.drop_any a1 Z fun hlt ad' e=>?_
  cases e
  have:=HLC.out
  rw [← hif,if_neg (by omega)]
 have ha1:a1≤L:=by have:=h2.rd.within;rw [HLL.out] at this;exact this
 have hLc:L≤c:=by have:=HLC.out;rw [HLL.out] at this;exact this
 have hdl:(l.drop a1).length=L-a1:=by rw [List.length_drop,HLL.out]
 have hdec:=schDecode_calls Z (c-a1) (l.drop a1) (w2.setCell ⟨w.heap.size+1,1,none⟩ (.int .i64 n1)) hrz (by omega) (by omega) (by have:=HC.out;omega) (HTB.out.below (h2.set HRD.out 1 (.int .i64 n1)).keeps.below)
 rw [hdl] at hdec
 have u2:=obj_lt h2.rd.obj
 have H2:=Hi (h2.set HRD.out 1 (.int .i64 n1))
 have HU:=Hi (obj_lt (h2.set HRD.out 1 (.int .i64 n1)).rd.obj)
 clear h2 r0 x0 x1 x2 hrz hdl
 have q0:(er != 0)=true:=by simpa using decodeS_nz HD.out
 rw [HD.out] at hdec
 have HDEC:=Hi hdec
 clear hdec
 go_wp2_with fail
 clear hif
 refine HDEC.out.mono ?_
 rintro e w3 ⟨rfl,hk3⟩
 have h3:=H2.out.later hk3
 obtain ⟨⟨c0,c1,c2,c3,c4,c5,c6,c7,c8,c9,c10⟩,z0,z1,z2,z3,z4,z5,z6,z7,z8,z9,z10⟩:=cells11 h3.fr
 obtain ⟨⟨d0,d1,d2,d3,d4,d5,d6,d7,d8,d9,d10⟩,y0,y1,y2,y3,y4,y5,y6,y7,y8,y9,y10⟩:=cells11 h3.res
 obtain ⟨r0,r1,r2,x0,x1,x2⟩:=cells3 h3.rd.obj
 have u3:=obj_lt h3.rd.obj
 have H3:=Hi h3
 clear h3 H2 HDEC hk3
 go_wp2
 refine bodyPost_ret (v:=.tuple #[.agg zero11,.int .i64 er]) (by simp [results,Tryz.results93,go_sem, *]) rfl ⟨rfl,(H3.out.set HRD.out 2 _).done (.int .i64 0) (.int .i64 0) (.slice none 0 0) (.int .i64 0) (.int .i64 0) (.int .i64 0) (.slice none 0 0) (.int .i64 0) (.int .i64 0) (.int .i64 0) (.slice none 0 0)⟩
set_option maxRecDepth 20000 in
set_option maxHeartbeats 4000000 in
theorem take_s3 (A:Option Addr) (c:Nat) (l:List UInt8) (w:World) (hr:Reads w A l) (hl0:0<l.length) (hl:l.length≤140737488355328) (hlc:l.length≤c) (hc:c≤9223372036854775807) (htb:Tabs w) (hk:((l[0]'hl0).toNat:Int)=1) (hbad:(rnum l 2147483648 (1,false)).2.2=false) (cols:List Col) (hd:decodeS (l.drop (rnum l 2147483648 (1,false)).2.1)=.ok cols) :
 Calls Tryz.prog 93 #[.slice A l.length c] w (TakePost w (.ok { frZero with kind:=1,number:=(rnum l 2147483648 (1,false)).1,cols:=cols })):=by
 obtain ⟨ad,rfl,hcell⟩:=hr.out 0 hl0
 have had:=World.block_lt_of_cell? w _ hcell
 rw [addr_add_block] at had
 rw [addr_add_zero,hk] at hcell
 have h0:=TkAt.start w (some ad) c l hr #[.int .i64 1,.int .i64 0,.slice none 0 0,.int .i64 0,.int .i64 0,.int .i64 0,.slice none 0 0,.int .i64 0,.int .i64 0,.int .i64 0,.slice none 0 0] hl hlc hc hl0
 obtain ⟨W,hW⟩:∃ W,W=(((w.alloc (.cells zero11 36)).alloc (.cells #[.int .i64 1,.int .i64 0,.slice none 0 0,.int .i64 0,.int .i64 0,.int .i64 0,.slice none 0 0,.int .i64 0,.int .i64 0,.int .i64 0,.slice none 0 0] 36)).alloc (.cells #[.slice (some ad) l.length c,.int .i64 1,.bool false] 172)):=⟨_,rfl⟩
 rw [← hW] at h0
 have hof:=frOf_calls (.int .i64 0) (.int .i64 0) (.slice none 0 0) (.int .i64 0) (.int .i64 0) (.int .i64 0) (.slice none 0 0) (1) (.int .i64 0) (.int .i64 0) (.int .i64 0) (.slice none 0 0) W
 have H0:=Hi h0
 have HOF:=Hi hof
 have HRD:=Hi hr
 have hv:ofV #[.int .i64 1,.int .i64 0,.slice none 0 0,.int .i64 0,.int .i64 0,.int .i64 0,.slice none 0 0,.int .i64 0,.int .i64 0,.int .i64 0,.slice none 0 0] 1 #[.int .i64 0,.int .i64 0,.int .i64 0,.slice none 0 0]=.iface 150 (.agg #[.int .i64 1,.int .i64 0,.slice none 0 0,.int .i64 0,.int .i64 0,.int .i64 0,.slice none 0 0,.int .i64 0,.int .i64 0,.int .i64 0,.slice none 0 0]):=rfl
 obtain ⟨⟨n1,⟨a1,b1⟩⟩,hn1⟩:∃ r,r=rnum l 2147483648 (1,false):=⟨_,rfl⟩
 rw [← hn1] at hbad hd ⊢
 simp only at hbad hd ⊢
 subst hbad
 have HD:=Hi hd
 clear hd
 have HN1:=Hi hn1
 clear hn1 hk
 have HTB:=Hi htb
 have HLC:=Hi hlc
 have HC:=Hi hc
 clear hof h0 hr hlc hc htb
 have hL1:0<l.length:=hl0
 clear hl0
 generalize hLL:l.length=L at hl hW hL1 ⊢
 have HLL:=Hi hLL
 clear hLL
 go_enter Tryz.func93,Tryz.ntmps93
 go_wp2_with fail
 rw [← hW]
 clear hW
 refine HOF.out.mono ?_
 rintro e w1 ⟨rfl,hk1⟩
 have h1:=H0.out.later hk1
 rw [hv]
 clear hv HOF H0
 obtain ⟨⟨c0,c1,c2,c3,c4,c5,c6,c7,c8,c9,c10⟩,z0,z1,z2,z3,z4,z5,z6,z7,z8,z9,z10⟩:=cells11 h1.fr
 have hc2:=rnum_calls (w.heap.size+1+1) (some ad) c l (1,false) 2147483648 (by decide) w1 h1.rd
 rw [← HN1.out] at hc2
 have HC2:=Hi hc2
 have H1:=Hi h1
 clear h1 hc2
 go_wp2_with fail
 refine HC2.out.mono ?_
 rintro e w2 ⟨rfl,hr2,ht2⟩
 have h2:=H1.out.call hr2 ht2
 clear hr2 ht2 HC2 H1
 obtain ⟨⟨c0,c1,c2,c3,c4,c5,c6,c7,c8,c9,c10⟩,z0,z1,z2,z3,z4,z5,z6,z7,z8,z9,z10⟩:=cells11 h2.fr
 obtain ⟨⟨d0,d1,d2,d3,d4,d5,d6,d7,d8,d9,d10⟩,y0,y1,y2,y3,y4,y5,y6,y7,y8,y9,y10⟩:=cells11 h2.res
 obtain ⟨r0,r1,r2,x0,x1,x2⟩:=cells3 h2.rd.obj
 obtain ⟨Z,hif⟩:∃ Z,(if c=a1 then some ad else some (ad.add a1))=Z:=⟨_,rfl⟩
 have hrz:Reads (w2.setCell ⟨w.heap.size+1,1,none⟩ (.int .i64 n1)) Z (l.drop a1):=by
  have h3:=h2.set HRD.out 1 (.int .i64 n1)
  refine h3.rd.reads.drop_any a1 Z fun hlt ad' e=>?_
  cases e
  have:=HLC.out
  rw [← hif,if_neg (by omega)]
 have ha1:a1≤L:=by have:=h2.rd.within;rw [HLL.out] at this;exact this
 have hLc:L≤c:=by have:=HLC.out;rw [HLL.out] at this;exact this
 have hdl:(l.drop a1).length=L-a1:=by rw [List.length_drop,HLL.out]
 have hdec:=schDecode_calls Z (c-a1) (l.drop a1) (w2.setCell ⟨w.heap.size+1,1,none⟩ (.int .i64 n1)) hrz (by omega) (by omega) (by have:=HC.out;omega) (HTB.out.below (h2.set HRD.out 1 (.int .i64 n1)).keeps.below)
 rw [hdl] at hdec
 have u2:=obj_lt h2.rd.obj
 have H2:=Hi (h2.set HRD.out 1 (.int .i64 n1))
 have HU:=Hi (obj_lt (h2.set HRD.out 1 (.int .i64 n1)).rd.obj)
 clear h2 r0 x0 x1 x2 hrz hdl
 rw [HD.out] at hdec
 have HDEC:=Hi hdec
 clear hdec
 go_wp2_with fail
 clear hif
 refine HDEC.out.mono ?_
 rintro e w3 ⟨As,cs,rfl,hs3,hk3⟩
 have h3:=H2.out.later hk3
 obtain ⟨⟨c0,c1,c2,c3,c4,c5,c6,c7,c8,c9,c10⟩,z0,z1,z2,z3,z4,z5,z6,z7,z8,z9,z10⟩:=cells11 h3.fr
 obtain ⟨⟨d0,d1,d2,d3,d4,d5,d6,d7,d8,d9,d10⟩,y0,y1,y2,y3,y4,y5,y6,y7,y8,y9,y10⟩:=cells11 h3.res
 obtain ⟨r0,r1,r2,x0,x1,x2⟩:=cells3 h3.rd.obj
 have u3:=obj_lt h3.rd.obj
 have H3:=Hi h3
 have HS3:=Hi hs3
 clear h3 hk3 hs3 H2 HDEC
 go_wp2
 have h4:=H3.out.set HRD.out 2 (.slice As cols.length cs)
 have hs4:SchS (w3.setCell ⟨w.heap.size+1,2,none⟩ (.slice As cols.length cs)) (fun b=>w.heap.size+1<b) As cols:=by
  refine (HS3.out.mono fun b _ hb=>?_).touch ((Touch.refl (At (w.heap.size+1)) w3).set 2 _) fun b hb e=>?_
  · have hb':(w2.setCell ⟨w.heap.size+1,1,none⟩ (.int .i64 n1)).heap.size≤b:=hb
    have:=HU.out
    show w.heap.size+1<b
    omega
  · have hb':w.heap.size+1<b:=hb
    rw [At] at e
    omega
 refine bodyPost_ret (v:=.tuple #[.agg #[.int .i64 1,.int .i64 n1,.slice As cols.length cs,.int .i64 0,.int .i64 0,.int .i64 0,.slice none 0 0,.int .i64 0,.int .i64 0,.int .i64 0,.slice none 0 0],.int .i64 0]) (by simp [results,Tryz.results93,go_sem, *]) rfl ?_
 refine ⟨As,cs,none,0,none,0,rfl,⟨?_,OwnL.empty _ _ _ _,Loose.empty _ _ _ _ _⟩,h4.done _ _ _ _ _ _ _ _ _ _ _⟩
 exact (hs4.touch (store11_touch _ _ _ _ _ _ _ _ _ _ _ _ _) (fun b hb e=>by rw [At] at e;have hb':w.heap.size+1<b:=hb;omega)).mono fun b _ hb=>by have hb':w.heap.size+1<b:=hb;omega
end Go.Proofs.YtihodcnnappkbaaGreatDoor
