/-
  The reader of a frame's body in memory, and its number. Condition: the block stands for the reader. The reader's index. Condition: the block stands for the reader. slices.Equal of entries. Condition: the rows read. The walk of schema.Same. Condition: both schemas read. The walk of frame.Same. Condition: both frames read. What frame.take tells, plain; a frame of the call's own. No condition. The walk of frame.take. Condition: the bytes read, and are not none; the tables of unicode/utf8 are as laid.
-/
import Derived.Test.YtihodcnnappkbaaGreatDoorG7
import Derived.Test.YtihodcnnappkbaaGreatDoorG2
import Derived.Laws.StructEq
import Derived.Test.YtihodcnnappkbaaGreatDoorG3
import Derived.Test.YtihodcnnappkbaaGreatDoorShelf
import Derived.Test.YtihodcnnappkbaaGreatDoorG4
set_option linter.unusedVariables false
set_option linter.unusedSimpArgs false
set_option maxHeartbeats 4000000
set_option maxRecDepth 20000
namespace Go.Proofs.YtihodcnnappkbaaGreatDoor
section
open Go.RowKit Go.BigFrame
structure FrAt (w:World) (g:Nat) (A:Option Addr) (c:Nat) (l:List UInt8) (s:Nat×Bool):Prop where
 obj:w.heap[g]? = some (.cells #[.slice A l.length c,.int .i64 (s.1:Int),.bool s.2] 172 (0,0))
 reads:Reads w A l
 far:∀ b,A=some b→l≠[]→b.block≠g
 len:l.length≤140737488355328
 room:l.length≤c
 cap:c≤9223372036854775807
 within:s.1≤l.length
theorem cells3 {w:World} {g:Nat} {a b c:Value} {t:TypeId} (h:w.heap[g]? = some (.cells #[a,b,c] t (0,0))):w.cell? ⟨g,0,none⟩=some a∧w.cell? ⟨g,1,none⟩=some b∧w.cell? ⟨g,2,none⟩=some c∧w.frozen? ⟨g,0,none⟩=false∧w.frozen? ⟨g,1,none⟩=false∧w.frozen? ⟨g,2,none⟩=false:=
 ⟨by rw [obj_cell h];rfl,by rw [obj_cell h];rfl,by rw [obj_cell h];rfl,obj_frozen h 0,obj_frozen h 1,obj_frozen h 2⟩
theorem FrAt.touch {F:Nat→Prop} {w w':World} {g:Nat} {A:Option Addr} {c:Nat} {l:List UInt8} {s:Nat×Bool} (h:FrAt w g A c l s) (ht:Touch F w w') (hg:¬F g) (hA:∀ b,A=some b→l≠[]→¬F b.block):FrAt w' g A c l s:=
 ⟨ht.obj h.obj hg,ht.reads h.reads hA,h.far,h.len,h.room,h.cap,h.within⟩
theorem FrAt.below {w w':World} {g:Nat} {A:Option Addr} {c:Nat} {l:List UInt8} {s:Nat×Bool} (h:FrAt w g A c l s) (hb:Below w.heap.size w w'):FrAt w' g A c l s:=
 ⟨by rw [hb.block g (obj_lt h.obj)];exact h.obj,h.reads.below hb,h.far,h.len,h.room,h.cap,h.within⟩
theorem FrAt.drewN {w:World} {g:Nat} {A:Option Addr} {c:Nat} {l:List UInt8} {s:Nat×Bool} (h:FrAt w g A c l s) (n:Nat):FrAt (w.drewN n) g A c l s:=⟨h.obj,h.reads,h.far,h.len,h.room,h.cap,h.within⟩
theorem FrAt.setBad {w:World} {g:Nat} {A:Option Addr} {c:Nat} {l:List UInt8} {a:Nat} {b:Bool} (h:FrAt w g A c l (a,b)) (b':Bool):FrAt (w.setCell ⟨g,2,none⟩ (.bool b')) g A c l (a,b'):=
 ⟨obj_set h.obj 2 _,((Touch.refl (At g) w).set 2 _).reads h.reads (fun b e hn=>h.far b e hn),h.far,h.len,h.room,h.cap,h.within⟩
theorem FrAt.setAt {w:World} {g:Nat} {A:Option Addr} {c:Nat} {l:List UInt8} {a:Nat} {b:Bool} (h:FrAt w g A c l (a,b)) (k:Nat) (hk:k≤l.length):FrAt (w.setCell ⟨g,1,none⟩ (.int .i64 (k:Int))) g A c l (k,b):=
 ⟨obj_set h.obj 1 _,((Touch.refl (At g) w).set 1 _).reads h.reads (fun b e hn=>h.far b e hn),h.far,h.len,h.room,h.cap,hk⟩
def rnum (l:List UInt8) (m:Nat) (s:Nat×Bool):Int×(Nat×Bool):=
 if s.2 then (-1,(s.1,true)) else
  match lebGet l s.1 with
  | .error _=>(-1,(s.1,true))
  | .ok (n,k)=>if m≤n then (-1,(s.1,true)) else ((n:Int),(k,false))
theorem rnum_calls (g:Nat) (A:Option Addr) (c:Nat) (l:List UInt8) (s:Nat×Bool) (m:Nat) (hm:m≤4611686018427387904) (w:World) (hr:FrAt w g A c l s) :
 Calls Tryz.prog 125 #[.pointer (some ⟨g,0,none⟩),.int .i64 (m:Int)] w fun e w'=>e=.returned (.int .i64 (rnum l m s).1)∧FrAt w' g A c l (rnum l m s).2∧Touch (At g) w w':=by
 obtain ⟨a,b⟩:=s
 have ck:=hr.within
 have dd:=hr.len
 have ac:∀ w1,Quiet w w1→Calls Tryz.prog 156 #[.slice A l.length c,.int .i64 (a:Int)] w1 fun e w'=>e=.returned (getOut (lebGet l a))∧w1=w':=fun w1 hq=>
  lebGet_calls A c l a w1 hr.len hr.room hr.cap (hr.reads.quiet hq) (by simp only at ck;omega)
 obtain ⟨c0,c1,c2,f0,f1,f2⟩:=cells3 hr.obj
 simp only at c0 c1 c2 ck
 have hg:=obj_lt hr.obj
 have dq:IntKind.u64.wrap (m:Int)=(m:Int):=IntWalk.u64_in _ (by omega)
 have HR:=Hi hr
 generalize hL:l.length=L at c0 ac
 cases hq:lebGet l a with
 | error er=>
   have h0:=lebGet_err hq
   have a9:rnum l m (a,b)=(-1,(a,true)):=by unfold rnum;cases b <;> simp [hq]
   rw [a9]
   rw [hq] at ac
   simp only [getOut] at ac
   have HC:=Hi ac
   have q0:(er != 0)=true:=by simpa using h0
   clear hr ac a9 hq hL h0
   cases b <;>
   · go_enter Tryz.func125,Tryz.ntmps125
     go_wp2_with fail
     go_quiet ((go_at_call 156;exact quiet_eq (HC.out _ ⟨_,rfl⟩)))
     go_wp2
     go_ret
     exact ⟨rfl,(HR.out.drewN nq).setBad true,((Touch.refl (At g) w).drewN nq).set 2 _⟩
 | ok r=>
   obtain ⟨n,k⟩:=r
   have hk:=lebGet_le hr.within hq
   have hn:=lebGet_num hq
   have a9:rnum l m (a,b)=if b then (-1,(a,true)) else if m≤n then (-1,(a,true)) else ((n:Int),(k,false)):=by
    unfold rnum;simp only [hq]
   rw [a9]
   rw [hq] at ac
   simp only [getOut] at ac
   have HC:=Hi ac
   have dc:=Hi hk
   clear hr ac a9 hq hL hk
   cases b with
   | true=>
     simp only [if_true]
     go_enter Tryz.func125,Tryz.ntmps125
     go_wp2_with fail
     go_quiet ((go_at_call 156;exact quiet_eq (HC.out _ ⟨_,rfl⟩)))
     go_wp2
     go_ret
     exact ⟨rfl,(HR.out.drewN nq).setBad true,((Touch.refl (At g) w).drewN nq).set 2 _⟩
   | false=>
     simp only [Bool.false_eq_true,if_false]
     by_cases ct:m≤n
     · rw [if_pos ct]
       go_enter Tryz.func125,Tryz.ntmps125
       go_wp2_with fail
       go_quiet ((go_at_call 156;exact quiet_eq (HC.out _ ⟨_,rfl⟩)))
       go_wp2
       go_ret
       exact ⟨rfl,(HR.out.drewN nq).setBad true,((Touch.refl (At g) w).drewN nq).set 2 _⟩
     · rw [if_neg ct]
       have de:IntKind.i64.wrap (n:Int)=(n:Int):=IntWalk.i64_in _ (by omega)
       go_enter Tryz.func125,Tryz.ntmps125
       go_wp2_with fail
       go_quiet ((go_at_call 156;exact quiet_eq (HC.out _ ⟨_,rfl⟩)))
       go_wp2
       go_ret
       exact ⟨rfl,(HR.out.drewN nq).setAt k dc.out,((Touch.refl (At g) w).drewN nq).set 1 _⟩
end
section
open Go.RowKit Go.BigFrame
attribute [local go_sem ↓] Go.wp_at_zero Go.wp_at_succ
abbrev seqMax:Nat:=1099511627776
def rent (l:List UInt8) (s:Nat×Bool):Ent×(Nat×Bool):=
 (⟨(rnum l seqMax s).1,(rnum l seqMax (rnum l seqMax s).2).1,(rnum l seqMax (rnum l seqMax (rnum l seqMax s).2).2).1⟩,(rnum l seqMax (rnum l seqMax (rnum l seqMax s).2).2).2)
def rents (l:List UInt8):Nat→Nat×Bool→List Ent×(Nat×Bool)
 | 0,s=>([],s)
 | k+1,s=>if s.2 then ([],s) else ((rent l s).1 :: (rents l k (rent l s).2).1,(rents l k (rent l s).2).2)
theorem info_entry:(Tryz.prog.info? 78).map (fun i=>(i.zero,i.size,i.bytes))=some (some (.agg #[.int .i64 0,.int .i64 0,.int .i64 0]),3,24):=by kernel_rfl
theorem entCells_snoc (l:List Ent) (e:Ent):entCells (l++[e])=entCells l++[.int .i64 e.spot,.int .i64 e.row,.int .i64 e.sch]:=by simp [entCells]
theorem entCells_one (l:List Ent):∀ u∈entCells l,u.oneCell'=true:=by
 intro u hu
 simp only [entCells,List.mem_flatMap,List.mem_cons,List.not_mem_nil,or_false] at hu
 obtain ⟨e,_,rfl | rfl | rfl⟩:=hu <;> rfl
theorem rents_step (l:List UInt8) (k:Nat) (s:Nat×Bool) (h:s.2=false):rents l (k+1) s=((rent l s).1 :: (rents l k (rent l s).2).1,(rents l k (rent l s).2).2):=by
 rw [rents]
 simp [h]
theorem rents_bad (l:List UInt8) (k:Nat) (s:Nat×Bool) (h:s.2=true):rents l k s=([],s):=by
 cases k with
 | zero=>rfl
 | succ k=>rw [rents,if_pos h]
structure Ix where
 spot:Int
 frames:Int
 irows:Int
 ents:List Ent
def rindex (l:List UInt8) (s:Nat×Bool):Ix×(Nat×Bool):=
 let r1:=rnum l seqMax s
 let r2:=rnum l seqMax r1.2
 let r3:=rnum l seqMax r2.2
 let r4:=rnum l 65 r3.2
 let es:=rents l r4.1.toNat r4.2
 (⟨r1.1,r2.1,r3.1,es.1⟩,(es.2.1,es.2.2||es.2.1 != l.length))
theorem rnum_num (l:List UInt8) (m:Nat) (s:Nat×Bool):(rnum l m s).1 = -1∨∃ n:Nat,(rnum l m s).1=(n:Int)∧n<m:=by
 unfold rnum
 split
 · exact .inl rfl
 · split
   · exact .inl rfl
   · split
     · exact .inl rfl
     · rename_i n k _ h
       exact .inr ⟨n,rfl,by omega⟩
structure IxRel (w:World) (g xb:Nat) (A:Option Addr) (c:Nat) (l:List UInt8) (a0 a1 a2:Int) (all:List Ent×(Nat×Bool)) (n j:Nat) (wr:World):Prop where
 ex:∃ (es:List Ent) (s:Nat×Bool) (v:Value),es.length=j∧all=(es++(rents l (n-j) s).1,(rents l (n-j) s).2) ∧
  wr.heap[xb]? = some (.cells #[.int .i64 a0,.int .i64 a1,.int .i64 a2,v] 34)∧Loose wr w.heap.size 78 3 v es.length (entCells es)∧FrAt wr g A c l s
 touch:Touch (At g) w wr
 res:wr.heap[w.heap.size]? = some (.cells #[.int .i64 0,.int .i64 0,.int .i64 0,.slice none 0 0] 34)
theorem IxRel.step {w wr w3 w4:World} {g xb:Nat} {A:Option Addr} {c:Nat} {l:List UInt8} {n1 n2 n3:Int} {all:List Ent×(Nat×Bool)} {N j:Nat} {es:List Ent} {E E4:Option Addr} {k k4:Nat} {m1 m2 m3:Int} {t3:Nat×Bool}
 (hg:g<w.heap.size) (cP:w.heap.size<xb) (hA:∀ b,A=some b→l≠[]→b.block<w.heap.size) (hrel:IxRel w g xb A c l n1 n2 n3 all N j wr) (bg:es.length=j)
 (ae:all=(es++[⟨m1,m2,m3⟩]++(rents l (N-(j+1)) t3).1,(rents l (N-(j+1)) t3).2)) (aX:FrAt w3 g A c l t3) (aA:Touch (At g) (wr.drewN 1) w3)
 (cj:Loose w3 w.heap.size 78 3 (.slice E j k) j (entCells es))
 (bc:Loose w4 w.heap.size 78 3 (.slice E4 (j+1) k4) (j+1) (entCells es++[.int .i64 m1,.int .i64 m2,.int .i64 m3]))
 (b9:(w3.alloc (.cells #[.int .i64 m1,.int .i64 m2,.int .i64 m3] 78)).grownBy w4 (blk (.slice E j k)))
 (aV:w4.heap[xb]? = some (.cells #[.int .i64 n1,.int .i64 n2,.int .i64 n3,.slice E j k] 34)) :
 IxRel w g xb A c l n1 n2 n3 all N (j+1) (w4.setCell ⟨xb,3,none⟩ (.slice E4 (j+1) k4)):=by
 have bt:w.heap.size≤w3.heap.size:=Nat.le_trans hrel.touch.size aA.size
 have aY:=cj.lt
 have tg:=Touch.of_grown (F:=fun i=>blk (.slice E j k)=some i) b9 fun i e=>e
 refine ⟨⟨es++[⟨m1,m2,m3⟩],t3,_,by simp [bg],ae,obj_set aV 3 _, ?_, ?_⟩, ?_, ?_⟩
 · rw [entCells_snoc,List.length_append,bg]
   exact bc.far (bc.ne aV (by decide)) _
 · have h1:=(aX.below ((Keeps.refl w3).alloc (.cells #[.int .i64 m1,.int .i64 m2,.int .i64 m3] 78)).below).touch tg (fun e=>by have:=aY _ e;omega) (fun b e hn e2=>by have:=aY _ e2;have:=hA b e hn;omega)
   exact h1.touch ((Touch.refl (At xb) w4).set 3 _) (fun e=>by rw [At] at e;omega) (fun b e hn e2=>by have:=hA b e hn;rw [At] at e2;omega)
 · refine Touch.setCell ?_ _ _ (fun h=>by simp only at h;omega)
   exact (((hrel.touch.drewN 1).then aA).alloc _).grown b9 (fun i e hi=>by have:=aY _ e;omega)
 · have h1:(wr.drewN 1).heap[w.heap.size]? = _:=hrel.res
   have h2:=aA.obj h1 (fun e=>by rw [At] at e;omega)
   have h3:=tg.obj (obj_old h2 _) (cj.ne h2 (by decide))
   exact obj_far h3 (by simp;omega) _
theorem IxRel.done {w wr:World} {g xb:Nat} {A:Option Addr} {c:Nat} {l:List UInt8} {n1 n2 n3:Int} {all:List Ent×(Nat×Bool)} {N j:Nat} {es:List Ent} {E:Option Addr} {k:Nat} {sa:Nat} {sb:Bool}
 (hg:g<w.heap.size) (hA:∀ b,A=some b→l≠[]→b.block<w.heap.size) (hrel:IxRel w g xb A c l n1 n2 n3 all N j wr) (be:FrAt wr g A c l (sa,sb))
 (hv:Loose wr w.heap.size 78 3 (.slice E j k) j (entCells es)) (b':Bool) (x0 x1 x2 x3:Value) (W:World)
 (hW:W=(((((wr.setCell ⟨g,2,none⟩ (.bool b')).setCell ⟨w.heap.size,0,none⟩ x0).setCell ⟨w.heap.size,1,none⟩ x1).setCell ⟨w.heap.size,2,none⟩ x2).setCell ⟨w.heap.size,3,none⟩ x3).drew) :
 Loose W w.heap.size 78 3 (.slice E j k) j (entCells es)∧FrAt W g A c l (sa,b')∧Touch (At g) w W:=by
 have h1:=be.setBad b'
 have t1:Touch (At g) wr (wr.setCell ⟨g,2,none⟩ (.bool b')):=(Touch.refl _ _).set 2 _
 have v1:=hv.keep t1 (fun k hk e=>by have:=(hv.lt k hk).1;rw [At] at e;omega)
 have r1:=t1.obj hrel.res (fun e=>by rw [At] at e;omega)
 have t2:Touch (At w.heap.size) (wr.setCell ⟨g,2,none⟩ (.bool b')) W:=by
  rw [hW]
  exact ((((((Touch.refl _ _).set 0 _).set 1 _).set 2 _).set 3 _)).drew
 refine ⟨v1.keep t2 (fun k hk e=>?_),h1.touch t2 (fun e=>by rw [At] at e;omega) (fun b e hn e2=>by have:=hA b e hn;rw [At] at e2;omega), ?_⟩
 · rw [At] at e
   subst e
   exact v1.ne r1 (by decide) hk
 · exact (hrel.touch.then t1).trans t2 fun i hi e=>by rw [At] at e;omega
theorem cells4 {w:World} {g:Nat} {a b c d:Value} {t:TypeId} (h:w.heap[g]? = some (.cells #[a,b,c,d] t (0,0))):w.cell? ⟨g,0,none⟩=some a∧w.cell? ⟨g,1,none⟩=some b∧w.cell? ⟨g,2,none⟩=some c∧w.cell? ⟨g,3,none⟩=some d∧w.frozen? ⟨g,0,none⟩=false∧w.frozen? ⟨g,1,none⟩=false∧w.frozen? ⟨g,2,none⟩=false∧w.frozen? ⟨g,3,none⟩=false:=
 ⟨by rw [obj_cell h];rfl,by rw [obj_cell h];rfl,by rw [obj_cell h];rfl,by rw [obj_cell h];rfl,obj_frozen h 0,obj_frozen h 1,obj_frozen h 2,obj_frozen h 3⟩
def IxPost (w:World) (g:Nat) (A:Option Addr) (c:Nat) (l:List UInt8) (r:Ix×(Nat×Bool)) (e:Ending) (w':World):Prop:=
 ∃ v,e=.returned (.agg #[.int .i64 r.1.spot,.int .i64 r.1.frames,.int .i64 r.1.irows,v])∧Loose w' w.heap.size 78 3 v r.1.ents.length (entCells r.1.ents)∧FrAt w' g A c l r.2∧Touch (At g) w w'
theorem rindex_calls (g:Nat) (A:Option Addr) (c:Nat) (l:List UInt8) (s:Nat×Bool) (w:World) (hr:FrAt w g A c l s) :
 Calls Tryz.prog 126 #[.pointer (some ⟨g,0,none⟩)] w (IxPost w g A c l (rindex l s)):=by
 obtain ⟨W,hW⟩:∃ W,W=w.alloc (.cells #[.int .i64 0,.int .i64 0,.int .i64 0,.slice none 0 0] 34):=⟨_,rfl⟩
 have bb:Keeps w W:=by rw [hW];exact (Keeps.refl w).alloc _
 have cH:W.heap[w.heap.size]? = some (.cells #[.int .i64 0,.int .i64 0,.int .i64 0,.slice none 0 0] 34):=by rw [hW];exact obj_new w _
 have co:=rnum_calls g A c l s seqMax (by decide) W (hr.below bb.below)
 have hg:=obj_lt hr.obj
 have cy:¬At g w.heap.size:=fun e=>by rw [At] at e;omega
 have cz:∀ b,A=some b→l≠[]→b.block<w.heap.size:=fun b e hn=>by
  have hp:0<l.length:=List.length_pos_iff.2 hn
  obtain ⟨ad,e1,aa⟩:=hr.reads.out 0 hp
  rw [e] at e1
  cases e1
  have:=World.block_lt_of_cell? w _ aa
  rwa [addr_add_block] at this
 have bP:=Hi cz
 clear cz
 have bB:=Hi co
 have cm:=Hi cH
 have cu:Hid (Touch (At g) w W):=Hi ((Touch.refl (At g) w).below bb.below)
 have bL:=Hi cy
 clear co cH bb cy hr
 obtain ⟨R,hR⟩:∃ R,R=rindex l s:=⟨_,rfl⟩
 rw [← hR]
 unfold rindex at hR
 generalize rnum l seqMax s=r1 at hR bB
 obtain ⟨n1,s1⟩:=r1
 simp only at hR bB
 go_enter Tryz.func126,Tryz.ntmps126
 go_wp2_with fail
 rw [← hW]
 clear hW
 refine bB.out.mono ?_
 rintro e w1 ⟨rfl,bi,aU⟩
 have aw:=rnum_calls g A c l s1 seqMax (by decide) w1 bi
 have ax:=Hi aw
 have cn:=Hi (aU.obj cm.out bL.out)
 have bE:=Hi (cu.out.then aU)
 clear aw bi aU bB cm cu
 generalize rnum l seqMax s1=r2 at hR ax
 obtain ⟨n2,s2⟩:=r2
 simp only at hR ax
 go_wp2_with fail
 refine ax.out.mono ?_
 rintro e w2 ⟨rfl,au,ap⟩
 have ci:=rnum_calls g A c l s2 seqMax (by decide) w2 au
 have bH:=Hi ci
 have cx:=Hi (ap.obj cn.out bL.out)
 have bo:=Hi (bE.out.then ap)
 clear ci au ap ax cn bE
 generalize rnum l seqMax s2=r3 at hR bH
 obtain ⟨n3,s3⟩:=r3
 simp only at hR bH
 go_wp2_with fail
 refine bH.out.mono ?_
 rintro e w3 ⟨rfl,aX,aA⟩
 have ao:=(Keeps.refl w3).alloc (.cells #[.int .i64 n1,.int .i64 n2,.int .i64 n3,.slice none 0 0] 34)
 obtain ⟨W3,bD⟩:∃ W3,W3=w3.alloc (.cells #[.int .i64 n1,.int .i64 n2,.int .i64 n3,.slice none 0 0] 34):=⟨_,rfl⟩
 have aZ:W3.heap[w3.heap.size]? = some (.cells #[.int .i64 n1,.int .i64 n2,.int .i64 n3,.slice none 0 0] 34):=by rw [bD];exact obj_new w3 _
 rw [← bD] at ao
 have bN:=aA.obj cx.out bL.out
 have br:=(ao.below.block _ (obj_lt bN)).trans bN
 have bj:=(bo.out.then aA).below ao.below
 have bt:w.heap.size<w3.heap.size:=obj_lt bN
 have cL:¬At g w3.heap.size:=fun e=>by rw [At] at e;omega
 have cG:=rnum_calls g A c l s3 65 (by decide) W3 (aX.below ao.below)
 have bz:=rnum_num l 65 s3
 have bJ:=Hi cG
 have cl:=Hi br
 have bl:=Hi aZ
 have bu:=Hi bj
 have bF:=Hi cL
 clear cG aX aA bH cx bo bN br aZ bj cL ao
 generalize rnum l 65 s3=r4 at hR bJ bz
 obtain ⟨n4,s4⟩:=r4
 simp only at hR bJ bz
 go_wp2_with fail
 rw [← bD]
 clear bD
 refine bJ.out.mono ?_
 rintro e w4 ⟨rfl,cJ,bA⟩
 have cC:=Hi (bA.obj cl.out bL.out)
 have bG:=Hi (bA.obj bl.out bF.out)
 have cp:=Hi (bu.out.then bA)
 have ch:=Hi cJ
 generalize cP:w3.heap.size=xb at *
 obtain ⟨N,hN⟩:∃ N,N=n4.toNat:=⟨_,rfl⟩
 rw [← hN] at hR
 obtain ⟨all,ae⟩:∃ all,all=rents l N s4:=⟨_,rfl⟩
 rw [← ae] at hR
 have cO:=Hi ae
 have HR:=Hi hR
 have aJ:IxRel w g xb A c l n1 n2 n3 all N 0 w4:=⟨⟨[],s4,.slice none 0 0,rfl,by rw [ae];rfl,bG.out,Loose.empty _ _ _ _ none,ch.out⟩,cp.out,cC.out⟩
 have aH:=Hi aJ
 clear aJ ae hR cJ bA bJ cl bl bu cC bG cp ch
 go_wp2_with fail
 go_loopw [5] (fun i wr=>∃ j:Nat,j≤N∧i=.int .i64 (j:Int)∧IxRel w g xb A c l n1 n2 n3 all N j wr) (fun i _=>N-(intOf i).toNat)
 case atStart=>exact ⟨0,by omega,rfl,aH.out⟩
 case round=>
  obtain ⟨j,hj,rfl,hrel⟩:=hrel
  obtain ⟨es,ss,v,bg,ae,hx,hv,be⟩:=hrel.ex
  rw [bg] at hv
  obtain ⟨E,k,rfl,_⟩:=hv.form
  have bO:=Hi bg
  clear bg
  obtain ⟨x0,x1,x2,x3,y0,y1,y2,y3⟩:=cells4 hx
  obtain ⟨b0,b1,b2,f0,f1,f2⟩:=cells3 be.obj
  have bI:=Hi be
  have HV:=Hi hv
  have HX:=Hi hx
  have ar:=Hi hrel
  have dh:g<wr.heap.size:=obj_lt be.obj
  have dl:xb<wr.heap.size:=obj_lt hx
  clear be hv hx hrel aH
  obtain ⟨sa,sb⟩:=ss
  simp only at b0 b1 b2
  by_cases aO:j<N
  · have bS:(j:Int)<n4:=by omega
    cases sb with
    | false=>
      obtain ⟨⟨m1,t1⟩,aB⟩:∃ r,r=rnum l seqMax (sa,false):=⟨_,rfl⟩
      obtain ⟨⟨m2,t2⟩,bU⟩:∃ r,r=rnum l seqMax t1:=⟨_,rfl⟩
      obtain ⟨⟨m3,t3⟩,bX⟩:∃ r,r=rnum l seqMax t2:=⟨_,rfl⟩
      have cF:∀ w',FrAt w' g A c l (sa,false)→Calls Tryz.prog 125 #[.pointer (some ⟨g,0,none⟩),.int .i64 ((seqMax:Nat):Int)] w' fun e w''=>e=.returned (.int .i64 m1)∧FrAt w'' g A c l t1∧Touch (At g) w' w'':=fun w' h=>by
       have:=rnum_calls g A c l _ seqMax (by decide) w' h
       rwa [← aB] at this
      have cD:∀ w',FrAt w' g A c l t1→Calls Tryz.prog 125 #[.pointer (some ⟨g,0,none⟩),.int .i64 ((seqMax:Nat):Int)] w' fun e w''=>e=.returned (.int .i64 m2)∧FrAt w'' g A c l t2∧Touch (At g) w' w'':=fun w' h=>by
       have:=rnum_calls g A c l _ seqMax (by decide) w' h
       rwa [← bU] at this
      have cI:∀ w',FrAt w' g A c l t2→Calls Tryz.prog 125 #[.pointer (some ⟨g,0,none⟩),.int .i64 ((seqMax:Nat):Int)] w' fun e w''=>e=.returned (.int .i64 m3)∧FrAt w'' g A c l t3∧Touch (At g) w' w'':=fun w' h=>by
       have:=rnum_calls g A c l _ seqMax (by decide) w' h
       rwa [← bX] at this
      have aI:all=(es++[⟨m1,m2,m3⟩]++(rents l (N-(j+1)) t3).1,(rents l (N-(j+1)) t3).2):=by
       rw [ae,show N-j=N-(j+1)+1 by omega,rents_step _ _ _ rfl]
       have e1:rent l (sa,false)=(⟨m1,m2,m3⟩,t3):=by
        unfold rent
        rw [← aB]
        simp only
        rw [← bU]
        simp only
        rw [← bX]
       rw [e1]
       simp
      have HA:=Hi cF
      have HB:=Hi cD
      have HC:=Hi cI
      have bw:=Hi aI
      clear cF cD cI aI aB bU bX ae
      go_wp2_with fail
      go_region_law (first
       | (go_simp;go_at_call 125;refine (HA.out _ (bI.out.drewN 1)).mono ?_;rintro e w1 ⟨rfl,bi,aU⟩
          have ce:=aU.obj (w:=wr.drew) HX.out bF.out
          have d3:=(cells4 ce).2.2.2.1
          have cM:=Hi bi;have cQ:=Hi ce;have bE:=Hi aU
          clear bi ce aU)
       | (go_simp;go_at_call 125;refine (HB.out _ cM.out).mono ?_;rintro e w2 ⟨rfl,au,ap⟩
          have cc:=ap.obj cQ.out bF.out
          have d3:=(cells4 cc).2.2.2.1
          have cX:=Hi au;have cT:=Hi cc;have bo:=Hi (bE.out.then ap)
          clear au cc ap)
       | (go_simp;go_at_call 125;refine (HC.out _ cX.out).mono ?_;rintro e w3 ⟨rfl,aX,aA⟩
          have aZ:=aA.obj cT.out bF.out
          have d3:=(cells4 aZ).2.2.2.1
          have u3:=obj_lt aZ
          have cU:=Hi aX;have bl:=Hi aZ;have bu:=Hi (bo.out.then aA)
          have cb:=Hi (HV.out.keep (w':=w3) (F:=At g) ((Touch.refl (At g) wr).drew.then (bo.out.then aA)) (fun k hk h=>by have:=(HV.out.lt k hk).1;rw [At] at h;omega))
          clear aX aZ aA)
       | (refine step_append_rows w.heap.size (by rfl) _ _ 32 78 (.agg #[.int .i64 0,.int .i64 0,.int .i64 0]) 3 24 (by rfl) Tryz.underlying32 info_entry rfl (by omega) (.slice E j k) j (entCells es) (by rfl)
           (cb.out.below ((Keeps.refl w3).alloc _).below) (some ⟨w3.heap.size,0,none⟩) 1 1 [.int .i64 m1,.int .i64 m2,.int .i64 m3] (by rfl) (by rfl) (RowAt.new_at w3 _ _ _ _ rfl _ rfl) (by simp [Value.oneCell']) (by simp only [maxLen];omega) (by omega) (Nat.le_trans (Nat.le_trans ar.out.touch.size bu.out.size) ((Keeps.refl w3).alloc _).size) ?_
          intro v4 w4 bc b9 bk
          obtain ⟨E4,k4,rfl,_⟩:=bc.form
          have aV:=(b9.block xb (Nat.lt_of_lt_of_le u3 ((Keeps.refl w3).alloc _).size) (fun e=>cb.out.ne bl.out (by decide) e.symm)).trans (obj_old bl.out _)
          obtain ⟨_,_,_,d3,z0,z1,z2,z3⟩:=cells4 aV
          have u4:=obj_lt aV
          have bG:=Hi aV;have cR:=Hi bc;have cW:=Hi b9;have dm:=Hi bk
          clear aV bc b9 bk))
      all_goals
       have HS:=Hi (IxRel.step hg bt bP.out ar.out bO.out bw.out cU.out bu.out cb.out cR.out cW.out bG.out)
       go_wp2
       first
        | exact ⟨⟨j+1,by omega,by go_num,HS.out⟩,by simp [intOf];omega⟩
        | (go_roundw
           case rel=>exact ⟨j+1,by omega,by go_num,HS.out⟩
           case measure=>simp [intOf];omega)
    | true=>
      have al:all=(es,(sa,true)):=by rw [ae,rents_bad _ _ _ rfl];simp
      have ai:=Hi al
      clear ae al
      obtain ⟨r0,r1,r2,r3,q0,q1,q2,q3⟩:=cells4 ar.out.res
      go_wp2_with fail
      go_region
      all_goals
       go_wp2
       obtain ⟨g1,g2,g3⟩:=IxRel.done hg bP.out ar.out bI.out HV.out true (.int .i64 n1) (.int .i64 n2) (.int .i64 n3) (.slice E j k) _ rfl
       refine bodyPost_ret (v:=.agg #[.int .i64 n1,.int .i64 n2,.int .i64 n3,.slice E j k]) (by simp [results,Tryz.results126,go_sem, *]) rfl ⟨_,by rw [HR.out,ai.out], ?_⟩
       have aN:=HR.out
       rw [ai.out] at aN
       rw [aN]
       try simp only
       rw [bO.out]
       exact ⟨g1,by first | exact g2 | simpa using g2,g3⟩
  · have bS:¬(j:Int)<n4:=by omega
    have al:all=(es,(sa,sb)):=by rw [ae,show N-j=0 by omega,rents];simp
    have ai:=Hi al
    clear ae al
    obtain ⟨r0,r1,r2,r3,q0,q1,q2,q3⟩:=cells4 ar.out.res
    cases sb with
    | true=>
      go_wp2_with fail
      go_region
      all_goals
       go_wp2
       obtain ⟨g1,g2,g3⟩:=IxRel.done hg bP.out ar.out bI.out HV.out true (.int .i64 n1) (.int .i64 n2) (.int .i64 n3) (.slice E j k) _ rfl
       refine bodyPost_ret (v:=.agg #[.int .i64 n1,.int .i64 n2,.int .i64 n3,.slice E j k]) (by simp [results,Tryz.results126,go_sem, *]) rfl ⟨_,by rw [HR.out,ai.out], ?_⟩
       have aN:=HR.out
       rw [ai.out] at aN
       rw [aN]
       try simp only
       rw [bO.out]
       exact ⟨g1,by first | exact g2 | simpa using g2,g3⟩
    | false=>
      have dr:((sa:Int) != (l.length:Int))=(sa != l.length):=by
       rw [Bool.eq_iff_iff,bne_iff_ne,bne_iff_ne]
       omega
      go_wp2_with fail
      go_region
      all_goals
       go_wp2
       obtain ⟨g1,g2,g3⟩:=IxRel.done hg bP.out ar.out bI.out HV.out (sa != l.length) (.int .i64 n1) (.int .i64 n2) (.int .i64 n3) (.slice E j k) _ rfl
       refine bodyPost_ret (v:=.agg #[.int .i64 n1,.int .i64 n2,.int .i64 n3,.slice E j k]) (by simp [results,Tryz.results126,go_sem, *]) rfl ⟨_,by rw [HR.out,ai.out], ?_⟩
       have aN:=HR.out
       rw [ai.out] at aN
       rw [aN]
       try simp only
       rw [bO.out]
       exact ⟨g1,by first | exact g2 | simpa using g2,g3⟩
end
section
open Go.RowKit Go.BigFrame
theorem Keeps.drewN (w:World) (n:Nat):Keeps w (w.drewN n):=⟨rfl,rfl,rfl,Nat.le_refl _,fun _ _=>rfl⟩
theorem row_ent {w:World} {A:Option Addr} {l:List Ent} (h:RowAt w A (entCells l)) (j:Nat) (hj:j<l.length) :
 ∃ ad,A=some ad∧w.cell? (ad.add (j*3))=some (.int .i64 (l[j]'hj).spot)∧w.cell? ⟨(ad.add (j*3)).block,(ad.add (j*3)).off+1,none⟩=some (.int .i64 (l[j]'hj).row) ∧
   w.cell? ⟨(ad.add (j*3)).block,(ad.add (j*3)).off+2,none⟩=some (.int .i64 (l[j]'hj).sch):=by
 obtain ⟨g0,g1,g2⟩:=entCells_get l j hj
 obtain ⟨ad,e,c0⟩:=h _ _ g0
 subst e
 have hg:∀ {i:Nat} {u:Value},0<i→(entCells l)[3*j+i]? = some u→w.cell? ⟨(ad.add (j*3)).block,(ad.add (j*3)).off+i,none⟩=some u:=fun hi hx=>by
  obtain ⟨ad',e,da⟩:=h _ _ hx
  cases e
  rw [← addr_add_pos _ _ hi,addr_add_add,Nat.mul_comm j 3]
  exact da
 exact ⟨ad,rfl,by rw [Nat.mul_comm];exact c0,hg (by omega) g1,hg (by omega) g2⟩
@[go_sem] theorem entEq_run (a b c d e f:Int) (w:World):(Op.equalIn 10000 78 (.agg #[.int .i64 a,.int .i64 b,.int .i64 c]) (.agg #[.int .i64 d,.int .i64 e,.int .i64 f])).run Tryz.prog w=.ok (a==d&&(b==e&&c==f)) w:=by
  have hp:Tryz.prog.stoodInHeld 78=false:=by kernel_rfl
  have hS:Tryz.prog.underlying 78=some (.struct (Tryz.prog.fieldsOf 78)):=by kernel_rfl
  have hi:∀ (d:Nat) (x y:Int) (w:World),(Op.equalIn (d+1) 2 (.int .i64 x) (.int .i64 y)).run Tryz.prog w=.ok (x==y) w:=fun d x y w=>run_equalIn_int w d _ .i64 .i64 x y Tryz.underlying2
  rw [show (10000:Nat)=9999+1 from rfl,run_equalIn_agg w 9999 78 _ _ hS hp]
  simp only [Program.fieldsOf,Tryz.underlying78]
  cases h1:a==d <;> cases h2:b==e <;> cases h3:c==f <;> simp [Op.eqFields,part,go_sem,show (9999:Nat)=9998+1 from rfl,hi,h1,h2,h3]
theorem entsEq_calls (A B:Option Addr) (c d:Nat) (l m:List Ent) (w:World) (hl:l.length≤17179869184) (hm:m.length≤17179869184) (hr:RowAt w A (entCells l)) (hs:RowAt w B (entCells m)) :
 Calls Tryz.prog 83 #[.slice A l.length c,.slice B m.length d] w fun e w'=>e=.returned (.bool (decide (l=m)))∧Keeps w w':=by
 by_cases ah:l.length=m.length
 · obtain ⟨R,hR⟩:∃ R,R=decide (l=m):=⟨_,rfl⟩
   rw [← hR]
   have h0:R=decide (l.drop 0=m.drop 0):=by simpa using hR
   rw [← ah]
   have HR:=Hi hr
   have HS:=Hi hs
   have H0:=Hi h0
   clear hr hs hR h0 hm
   generalize hN:l.length=N at hl ah ⊢
   have HN:=Hi hN
   have HM:=Hi ah
   clear hN ah
   have dn:Tryz.prog.eqGuardType Tryz.prog.depth 78=false:=by kernel_rfl
   go_enter Tryz.func83,Tryz.ntmps83
   go_wp2_with fail
   go_loopw [13] (fun i wr=>∃ j:Nat,j≤N∧i=.int .i64 (j:Int)∧R=decide (l.drop j=m.drop j)∧Keeps w wr) (fun i _=>N-(intOf i).toNat)
   case atStart=>exact ⟨0,by omega,rfl,H0.out,Keeps.refl w⟩
   case round=>
    obtain ⟨j,hj,rfl,a9,aE⟩:=hrel
    by_cases aO:j<N
    · have aW:j<l.length:=by rw [HN.out];exact aO
      have aB:j<m.length:=by rw [← HM.out];exact aO
      obtain ⟨a1,rfl,p0,p1,p2⟩:=row_ent (HR.out.below aE.below) j aW
      obtain ⟨a2,rfl,q0,q1,q2⟩:=row_ent (HS.out.below aE.below) j aB
      rw [List.drop_eq_getElem_cons aW,List.drop_eq_getElem_cons aB] at a9
      generalize l[j]'aW=x at p0 p1 p2 a9
      generalize m[j]'aB=y at q0 q1 q2 a9
      obtain ⟨x1,x2,x3⟩:=x
      obtain ⟨y1,y2,y3⟩:=y
      simp only at p0 p1 p2 q0 q1 q2
      have ab:=Hi a9
      have HK:=Hi aE
      clear a9 aE H0
      by_cases bf:(⟨x1,x2,x3⟩:Ent)=⟨y1,y2,y3⟩
      · injection bf with h1 h2 h3
        subst h1 h2 h3
        have a9:=ab.out
        have e9:decide ((⟨x1,x2,x3⟩:Ent) :: l.drop (j+1)=⟨x1,x2,x3⟩ :: m.drop (j+1))=decide (l.drop (j+1)=m.drop (j+1)):=by simp
        rw [e9] at a9
        have am:=Hi a9
        clear a9 e9 ab
        go_wp2_with fail
        go_quiet (fail)
        go_wp2
        first
         | exact ⟨⟨j+1,by omega,by go_num,am.out,HK.out.trans (Keeps.drewN wr nq)⟩,by simp [intOf];omega⟩
         | (go_roundw
            case rel=>exact ⟨j+1,by omega,by go_num,am.out,HK.out.trans (Keeps.drewN wr nq)⟩
            case measure=>simp [intOf];omega)
      · have a9:=ab.out
        have e9:decide ((⟨x1,x2,x3⟩:Ent) :: l.drop (j+1)=⟨y1,y2,y3⟩ :: m.drop (j+1))=false:=by
         rw [decide_eq_false_iff_not]
         intro h
         injection h with h _
         exact bf h
        rw [e9] at a9
        have am:=Hi a9
        clear a9 e9 ab
        by_cases h1:x1=y1
        · by_cases h2:x2=y2
          · have h3:¬x3=y3:=fun h3=>bf (by rw [h1,h2,h3])
            subst h1 h2
            clear bf
            go_wp2_with fail
            go_quiet (fail)
            go_wp2
            go_ret
            exact ⟨by rw [am.out];rfl,HK.out.trans (Keeps.drewN wr nq)⟩
          · subst h1
            clear bf
            go_wp2_with fail
            go_quiet (fail)
            go_wp2
            go_ret
            exact ⟨by rw [am.out];rfl,HK.out.trans (Keeps.drewN wr nq)⟩
        · clear bf
          go_wp2_with fail
          go_quiet (fail)
          go_wp2
          go_ret
          exact ⟨by rw [am.out];rfl,HK.out.trans (Keeps.drewN wr nq)⟩
    · have e1:l.drop j=[]:=List.drop_eq_nil_of_le (by rw [HN.out];omega)
      have e2:m.drop j=[]:=List.drop_eq_nil_of_le (by rw [← HM.out];omega)
      rw [e1,e2] at a9
      have ab:=Hi a9
      clear a9 e1 e2 H0
      go_wp2
      go_ret
      exact ⟨by rw [ab.out];rfl,aE⟩
 · have e:decide (l=m)=false:=by
    rw [decide_eq_false_iff_not]
    intro h
    exact ah (by rw [h])
   rw [e]
   clear e hr hs
   have hq:¬((l.length:Nat):Int)=((m.length:Nat):Int):=by omega
   generalize l.length=N at *
   generalize m.length=M at *
   go_enter Tryz.func83,Tryz.ntmps83
   go_wp2
   go_ret
   exact ⟨rfl,Keeps.refl w⟩
end
section
open Go.RowKit Go.BigFrame
attribute [local go_sem] run_store_float
def Col.same (c d:Col):Bool:=decide (c.name=d.name)&&decide (c.has=d.has)&&Ty.same c.ty d.ty&&Va.same c.dflt d.dflt
def sameCols:List Col→List Col→Bool
 | [],[]=>true
 | c :: l,d :: m=>Col.same c d&&sameCols l m
 | _,_=>false
theorem sameCols_length:∀ (l m:List Col),sameCols l m=true→l.length=m.length
 | [],[],_=>rfl
 | c :: l,d :: m,h=>by
   rw [sameCols,Bool.and_eq_true] at h
   simp [sameCols_length l m h.2]
 | [],_ :: _,h=>by simp [sameCols] at h
 | _ :: _,[],h=>by simp [sameCols] at h
theorem schSame_calls (A B:Option Addr) (c d:Nat) (S T:Nat→Prop) (l m:List Col) (w:World) (hs:SchS w S A l) (ht:SchS w T B m) :
 Calls Tryz.prog 82 #[.agg #[.slice A l.length c],.agg #[.slice B m.length d]] w fun e w'=>e=.returned (.bool (sameCols l m))∧Keeps w w':=by
 have cS:=hs.len
 have cY:=ht.len
 by_cases ah:l.length=m.length
 · obtain ⟨R,hR⟩:∃ R,R=sameCols l m:=⟨_,rfl⟩
   rw [← hR]
   have h0:R=sameCols (l.drop 0) (m.drop 0):=hR
   rw [← ah]
   have HS:=Hi hs
   have HT:=Hi ht
   have H0:=Hi h0
   clear hs ht hR h0 cY
   generalize hN:l.length=N at cS ah ⊢
   have HN:=Hi hN
   have HM:=Hi ah
   clear hN ah
   obtain ⟨W,hW⟩:∃ W,W=(w.alloc (.cells #[.slice A N c] 30)).alloc (.cells #[.slice B N d] 30):=⟨_,rfl⟩
   have bb:Keeps w W:=by rw [hW];exact ((Keeps.refl w).alloc _).alloc _
   have cf:W.heap[w.heap.size+1]? = some (.cells #[.slice B N d] 30):=by rw [hW];exact obj_new_at _ _ _ (by simp)
   have HB:=Hi cf
   have HK:=Hi bb
   have aG:=Keeps.refl W
   rw [hW] at aG
   clear cf bb
   go_enter Tryz.func82,Tryz.ntmps82
   go_wp2_with fail
   go_loopw [18] (fun i wr=>∃ j:Nat,j≤N∧i=.int .i64 (j:Int)∧R=sameCols (l.drop j) (m.drop j)∧Keeps W wr) (fun i _=>N-(intOf i).toNat)
   case atStart=>exact ⟨0,by omega,rfl,H0.out,by rw [hW];exact aG⟩
   case round=>
    obtain ⟨j,hj,rfl,a9,aE⟩:=hrel
    clear hW aG
    have bK:=HK.out.trans aE
    have hb:=(aE.below.block _ (obj_lt HB.out)).trans HB.out
    have dp:=(cells1 hb).1
    have dj:=obj_lt hb
    by_cases aO:j<N
    · have aW:j<l.length:=by rw [HN.out];exact aO
      have aB:j<m.length:=by rw [← HM.out];exact aO
      obtain ⟨ad,x0,x1,x2,x3,x4,x5,x6,x7,x8,rfl,_,ag,c0,c1,c2,c3,c4,c5,c6,c7,c8⟩:=(HS.out.later bK.below).get j aW
      obtain ⟨bd,y0,y1,y2,y3,y4,y5,y6,y7,y8,rfl,_,af,d0,d1,d2,d3,d4,d5,d6,d7,d8⟩:=(HT.out.later bK.below).get j aB
      rw [List.drop_eq_getElem_cons aW,List.drop_eq_getElem_cons aB,sameCols,Col.same] at a9
      generalize l[j]'aW=x at ag a9
      generalize m[j]'aB=y at af a9
      obtain ⟨⟨A2,k2,e2⟩,A8,k8,e8⟩:=ag.form
      obtain ⟨⟨B2,q2,g2⟩,B8,q8,g8⟩:=af.form
      have bC:=ag.ty
      have aT:=ag.dv
      have aF:=af.ty
      have aq:=af.dv
      rw [ag.nm] at c0
      rw [ag.tk] at c1 bC
      rw [e2] at c2 bC
      rw [ag.hs] at c3
      rw [ag.dk] at c4 aT
      rw [ag.di] at c5 aT
      rw [ag.df] at c6 aT
      rw [ag.dt] at c7 aT
      rw [e8] at c8 aT
      rw [af.nm] at d0
      rw [af.tk] at d1 aF
      rw [g2] at d2 aF
      rw [af.hs] at d3
      rw [af.dk] at d4 aq
      rw [af.di] at d5 aq
      rw [af.df] at d6 aq
      rw [af.dt] at d7 aq
      rw [g8] at d8 aq
      have cq:∀ w',Keeps wr w'→Calls Tryz.prog 116 _ w' fun e w''=>e=.returned (.bool (Ty.same x.ty y.ty))∧Keeps w' w'':=fun w' hk=>sameType_calls _ _ _ _ _ w' (Nat.lt_succ_self _) (bC.later hk.below).at (aF.later hk.below).at
      have cg:∀ w',Keeps wr w'→Calls Tryz.prog 101 _ w' fun e w''=>e=.returned (.bool (Va.same x.dflt y.dflt))∧Keeps w' w'':=fun w' hk=>sameValue_calls _ _ _ _ _ w' (Nat.lt_succ_self _) (aT.later hk.below).at (aq.later hk.below).at
      generalize Ty.same x.ty y.ty=p1 at *
      generalize Va.same x.dflt y.dflt=p2 at *
      generalize x.name=nx at *
      generalize y.name=ny at *
      generalize x.has=hx at *
      generalize y.has=hy at *
      generalize x.ty.of.length=z1 at *
      generalize y.ty.of.length=z2 at *
      generalize x.ty.kind=z3 at *
      generalize y.ty.kind=z4 at *
      generalize x.dflt.items.length=z5 at *
      generalize y.dflt.items.length=z6 at *
      generalize x.dflt.kind=z7 at *
      generalize y.dflt.kind=z8 at *
      generalize x.dflt.int=z9 at *
      generalize y.dflt.int=z10 at *
      generalize x.dflt.fl=z11 at *
      generalize y.dflt.fl=z12 at *
      generalize x.dflt.text=z13 at *
      generalize y.dflt.text=z14 at *
      have dg:(bd.add (j*9)).block<wr.heap.size:=World.block_lt_of_cell? wr _ d0
      obtain ⟨W2,aS⟩:∃ W2,W2=(wr.alloc (.cells #[.string nx,.int .i64 z3,.slice A2 z1 k2,.bool hx,.int .i64 z7,.int .i64 z9,.float .f64 z11,.string z13,.slice A8 z5 k8] 103)).alloc (.cells #[.string ny,.int .i64 z4,.slice B2 z2 q2,.bool hy,.int .i64 z8,.int .i64 z10,.float .f64 z12,.string z14,.slice B8 z6 q8] 103):=⟨_,rfl⟩
      have bV:Keeps wr W2:=by rw [aS];exact ((Keeps.refl wr).alloc _).alloc _
      have bx:W2.heap[wr.heap.size]? = some (.cells #[.string nx,.int .i64 z3,.slice A2 z1 k2,.bool hx,.int .i64 z7,.int .i64 z9,.float .f64 z11,.string z13,.slice A8 z5 k8] 103):=by rw [aS];exact obj_old (obj_new wr _) _
      have bY:W2.heap[wr.heap.size+1]? = some (.cells #[.string ny,.int .i64 z4,.slice B2 z2 q2,.bool hy,.int .i64 z8,.int .i64 z10,.float .f64 z12,.string z14,.slice B8 z6 q8] 103):=by rw [aS];exact obj_new_at _ _ _ (by simp)
      have cw:=Hi (cq W2 bV)
      have cv:=Hi cg
      have cE:=Hi bx
      have cr:=Hi bY
      have ca:=Hi bV
      have bW:=Hi aE
      have ab:=Hi a9
      clear cq cg bx bY bV aE a9 ag af bC aF aT aq e2 e8 g2 g8 bK hb
      by_cases av:nx=ny
      · by_cases aR:hx=hy
        · subst av aR
          have qn:(nx.toList==nx.toList)=true:=by simp
          have a9:=ab.out
          simp only [decide_true,Bool.true_and] at a9
          have ab:=Hi a9
          clear a9
          go_wp2_with fail
          rw [← aS]
          clear aS
          refine cw.out.mono ?_
          rintro e w3 ⟨rfl,ao⟩
          have bp:=ca.out.trans ao
          have bx3:=(ao.below.block _ (obj_lt cE.out)).trans cE.out
          have bY3:=(ao.below.block _ (obj_lt cr.out)).trans cr.out
          have bQ:=Hi (cv.out w3 bp)
          have cB:=Hi (bW.out.trans bp)
          obtain ⟨⟨a0,a1,a2,a3,a4,a5,a6,a7,a8⟩,_⟩:=cells9 bx3
          obtain ⟨⟨b0,b1,b2,b3,b4,b5,b6,b7,b8⟩,_⟩:=cells9 bY3
          clear ao bx3 bY3 cw cv
          cases p1 with
          | false=>
            have a9:=ab.out
            try simp only [Bool.false_and,Bool.and_false] at a9
            have am:=Hi a9
            clear a9
            go_wp2
            go_ret
            exact ⟨by rw [am.out];rfl,HK.out.trans cB.out⟩
          | true=>
            go_wp2_with fail
            refine bQ.out.mono ?_
            rintro e w4 ⟨rfl,cK⟩
            have bT:=Hi (cB.out.trans cK)
            clear cK
            cases p2 with
            | false=>
              have a9:=ab.out
              try simp only [Bool.and_false,Bool.false_and] at a9
              have am:=Hi a9
              clear a9
              go_wp2
              go_ret
              exact ⟨by rw [am.out];rfl,HK.out.trans bT.out⟩
            | true=>
              have a9:=ab.out
              try simp only [Bool.true_and,Bool.and_true] at a9
              have am:=Hi a9
              clear a9
              go_wp2
              first
               | exact ⟨⟨j+1,by omega,by go_num,am.out,bT.out⟩,by simp [intOf];omega⟩
               | (go_roundw
                  case rel=>exact ⟨j+1,by omega,by go_num,am.out,bT.out⟩
                  case measure=>simp [intOf];omega)
        · subst av
          have a9:=ab.out
          simp only [aR,decide_false,decide_true,Bool.true_and,Bool.false_and] at a9
          have qn:(nx.toList==nx.toList)=true:=by simp
          have qh:(hx != hy)=true:=by simpa using aR
          have am:=Hi a9
          have bR:=Hi (bW.out.trans ca.out)
          clear a9 ab
          go_wp2
          go_ret
          exact ⟨by rw [am.out];rfl,by rw [← aS];exact HK.out.trans bR.out⟩
      · have a9:=ab.out
        simp only [av,decide_false,Bool.false_and] at a9
        have qn:=texts_ne av
        have am:=Hi a9
        have bR:=Hi (bW.out.trans ca.out)
        clear a9 ab
        go_wp2
        go_ret
        exact ⟨by rw [am.out];rfl,by rw [← aS];exact HK.out.trans bR.out⟩
    · have e1:l.drop j=[]:=List.drop_eq_nil_of_le (by rw [HN.out];omega)
      have e2:m.drop j=[]:=List.drop_eq_nil_of_le (by rw [← HM.out];omega)
      rw [e1,e2,sameCols] at a9
      have ab:=Hi a9
      clear a9 e1 e2 H0
      go_wp2
      go_ret
      exact ⟨by rw [ab.out];rfl,bK⟩
 · have e:sameCols l m=false:=by
    cases h:sameCols l m with
    | false=>rfl
    | true=>exact absurd (sameCols_length l m h) ah
   rw [e]
   clear e hs ht
   have hq:¬((l.length:Nat):Int)=((m.length:Nat):Int):=by omega
   generalize l.length=N at *
   generalize m.length=M at *
   go_enter Tryz.func82,Tryz.ntmps82
   go_wp2
   go_ret
   exact ⟨rfl,((Keeps.refl w).alloc _).alloc _⟩
end
section
open Go.RowKit Go.BigFrame
def ixSame (a b:Fr):Bool:=decide (a.spot=b.spot)&&decide (a.frames=b.frames)&&decide (a.irows=b.irows)&&decide (a.ents=b.ents)
def frSame (a b:Fr):Bool:=
 if a.kind=b.kind then
  if a.kind=1 then decide (a.number=b.number)&&sameCols a.cols b.cols
  else if a.kind=2 then decide (a.number=b.number)&&decide (a.seq=b.seq)&&decide (a.first=b.first)&&decide (a.rows=b.rows)&&decide (a.block=b.block)
  else if a.kind=3 then ixSame a b
  else true
 else false
def frZero:Fr:=⟨0,0,[],0,0,0,[],0,0,0,[]⟩
def takeS (l:List UInt8):Except Int Fr:=
 let r:=rnum l 2147483648 (1,false)
 if r.2.2 then .error 5 else
  match decodeS (l.drop r.2.1) with
  | .error e=>.error e
  | .ok cols=>.ok { frZero with kind:=1,number:=r.1,cols:=cols }
def takeD (l:List UInt8):Except Int Fr:=
 let r1:=rnum l 2147483648 (1,false)
 let r2:=rnum l seqMax r1.2
 let r3:=rnum l seqMax r2.2
 let r4:=rnum l 65 r3.2
 if r4.2.2||decide (r4.1<1) then .error 5
 else .ok { frZero with kind:=2,number:=r1.1,seq:=r2.1,first:=r3.1,rows:=r4.1,block:=l.drop r4.2.1 }
def takeI (l:List UInt8):Except Int Fr:=
 let r:=rindex l (1,false)
 if r.2.2 then .error 5 else .ok { frZero with kind:=3,spot:=r.1.spot,frames:=r.1.frames,irows:=r.1.irows,ents:=r.1.ents }
def takeF:List UInt8→Except Int Fr
 | []=>.error 60
 | b :: l=>if b=1 then takeS (b :: l) else if b=2 then takeD (b :: l) else if b=3 then takeI (b :: l) else .error 60
structure FrO (w:World) (base:Nat) (A:Option Addr) (B:Option Addr) (d:Nat) (E:Option Addr) (k:Nat) (f:Fr):Prop where
 sch:SchS w (fun b=>base≤b) A f.cols
 blk:OwnL 5 w base (.slice B f.block.length d) f.block
 ent:Loose w base 78 3 (.slice E f.ents.length k) f.ents.length (entCells f.ents)
def TakePost (w:World) (r:Except Int Fr) (e:Ending) (w':World):Prop:=
 match r with
 | .error x=>e=.returned (.tuple #[.agg (frCells none 0 none 0 none 0 frZero),.int .i64 x])∧Keeps w w'
 | .ok f=>∃ A c B d E k,e=.returned (.tuple #[.agg (frCells A c B d E k f),.int .i64 0])∧FrO w' w.heap.size A B d E k f∧Keeps w w'
abbrev zero11:Array Value:=#[.int .i64 0,.int .i64 0,.slice none 0 0,.int .i64 0,.int .i64 0,.int .i64 0,.slice none 0 0,.int .i64 0,.int .i64 0,.int .i64 0,.slice none 0 0]
structure TkAt (w wr:World) (A:Option Addr) (c:Nat) (l:List UInt8) (s:Nat×Bool) (F:Array Value):Prop where
 res:wr.heap[w.heap.size]? = some (.cells zero11 36)
 fr:wr.heap[w.heap.size+1]? = some (.cells F 36)
 rd:FrAt wr (w.heap.size+1+1) A c l s
 keeps:Keeps w wr
theorem TkAt.start (w:World) (A:Option Addr) (c:Nat) (l:List UInt8) (hr:Reads w A l) (F:Array Value) (hl:l.length≤140737488355328) (ay:l.length≤c) (hc:c≤9223372036854775807) (h1:1≤l.length) :
 TkAt w (((w.alloc (.cells zero11 36)).alloc (.cells F 36)).alloc (.cells #[.slice A l.length c,.int .i64 1,.bool false] 172)) A c l (1,false) F:=by
 have hk:Keeps w (((w.alloc (.cells zero11 36)).alloc (.cells F 36)).alloc (.cells #[.slice A l.length c,.int .i64 1,.bool false] 172)):=(((Keeps.refl w).alloc _).alloc _).alloc _
 refine ⟨obj_old (obj_old (obj_new w _) _) _,obj_old (obj_new_at _ _ _ (by simp)) _,⟨obj_new_at _ _ _ (by simp),hr.below hk.below,fun b e hn=>?_,hl,ay,hc,h1⟩,hk⟩
 obtain ⟨ad,e1,aa⟩:=hr.out 0 h1
 rw [e] at e1
 cases e1
 have:=World.block_lt_of_cell? w _ aa
 rw [addr_add_block] at this
 omega
theorem TkAt.later {w wr w':World} {A:Option Addr} {c:Nat} {l:List UInt8} {s:Nat×Bool} {F:Array Value} (h:TkAt w wr A c l s F) (hk:Keeps wr w'):TkAt w w' A c l s F:=
 ⟨(hk.below.block _ (obj_lt h.res)).trans h.res,(hk.below.block _ (obj_lt h.fr)).trans h.fr,h.rd.below hk.below,h.keeps.trans hk⟩
theorem TkAt.call {w wr w':World} {A:Option Addr} {c:Nat} {l:List UInt8} {s s':Nat×Bool} {F:Array Value} (h:TkAt w wr A c l s F) (hr:FrAt w' (w.heap.size+1+1) A c l s') (ht:Touch (At (w.heap.size+1+1)) wr w'):TkAt w w' A c l s' F:=
 ⟨ht.obj h.res (by rw [At];omega),ht.obj h.fr (by rw [At];omega),hr,Touch.nothing (((Touch.of_below (F:=At (w.heap.size+1+1)) h.keeps.below fun k hk e=>absurd hk (by omega))).then ht) fun k hk e=>by rw [At] at e;omega⟩
theorem TkAt.low {w wr:World} {A:Option Addr} {c:Nat} {l:List UInt8} {s:Nat×Bool} {F:Array Value} (h:TkAt w wr A c l s F) (hr:Reads w A l):∀ b,A=some b→l≠[]→b.block<w.heap.size:=fun b e hn=>by
 have hp:0<l.length:=List.length_pos_iff.2 hn
 obtain ⟨ad,e1,aa⟩:=hr.out 0 hp
 rw [e] at e1
 cases e1
 have:=World.block_lt_of_cell? w _ aa
 rwa [addr_add_block] at this
theorem TkAt.set {w wr:World} {A:Option Addr} {c:Nat} {l:List UInt8} {s:Nat×Bool} {F:Array Value} (h:TkAt w wr A c l s F) (hr:Reads w A l) (i:Nat) (u:Value):TkAt w (wr.setCell ⟨w.heap.size+1,i,none⟩ u) A c l s (F.setIfInBounds i u):=by
 have ht:Touch (At (w.heap.size+1)) wr (wr.setCell ⟨w.heap.size+1,i,none⟩ u):=(Touch.refl _ _).set i u
 have bZ:=h.low hr
 exact ⟨ht.obj h.res (by rw [At];omega),obj_set h.fr i u,h.rd.touch ht (by rw [At];omega) (fun b e hn e2=>by have:=bZ b e hn;rw [At] at e2;omega),
  Touch.nothing (((Touch.of_below (F:=At (w.heap.size+1)) h.keeps.below fun k hk e=>absurd hk (by omega))).then ht) fun k hk e=>by rw [At] at e;omega⟩
theorem TkAt.bad {w wr:World} {A:Option Addr} {c:Nat} {l:List UInt8} {a:Nat} {b:Bool} {F:Array Value} (h:TkAt w wr A c l (a,b) F) (b':Bool):TkAt w (wr.setCell ⟨w.heap.size+1+1,2,none⟩ (.bool b')) A c l (a,b') F:=
 h.call (h.rd.setBad b') ((Touch.refl _ _).set 2 _)
theorem cells11 {w:World} {g:Nat} {x0 x1 x2 x3 x4 x5 x6 x7 x8 x9 x10:Value} {t:TypeId} (h:w.heap[g]? = some (.cells #[x0,x1,x2,x3,x4,x5,x6,x7,x8,x9,x10] t (0,0))) :
 (w.cell? ⟨g,0,none⟩=some x0∧w.cell? ⟨g,1,none⟩=some x1∧w.cell? ⟨g,2,none⟩=some x2∧w.cell? ⟨g,3,none⟩=some x3∧w.cell? ⟨g,4,none⟩=some x4∧w.cell? ⟨g,5,none⟩=some x5∧w.cell? ⟨g,6,none⟩=some x6∧w.cell? ⟨g,7,none⟩=some x7∧w.cell? ⟨g,8,none⟩=some x8∧w.cell? ⟨g,9,none⟩=some x9∧w.cell? ⟨g,10,none⟩=some x10) ∧
 (w.frozen? ⟨g,0,none⟩=false∧w.frozen? ⟨g,1,none⟩=false∧w.frozen? ⟨g,2,none⟩=false∧w.frozen? ⟨g,3,none⟩=false∧w.frozen? ⟨g,4,none⟩=false∧w.frozen? ⟨g,5,none⟩=false∧w.frozen? ⟨g,6,none⟩=false∧w.frozen? ⟨g,7,none⟩=false∧w.frozen? ⟨g,8,none⟩=false∧w.frozen? ⟨g,9,none⟩=false∧w.frozen? ⟨g,10,none⟩=false):=
 ⟨⟨by rw [obj_cell h];rfl,by rw [obj_cell h];rfl,by rw [obj_cell h];rfl,by rw [obj_cell h];rfl,by rw [obj_cell h];rfl,by rw [obj_cell h];rfl,by rw [obj_cell h];rfl,by rw [obj_cell h];rfl,by rw [obj_cell h];rfl,by rw [obj_cell h];rfl,by rw [obj_cell h];rfl⟩,
  obj_frozen h 0,obj_frozen h 1,obj_frozen h 2,obj_frozen h 3,obj_frozen h 4,obj_frozen h 5,obj_frozen h 6,obj_frozen h 7,obj_frozen h 8,obj_frozen h 9,obj_frozen h 10⟩
def store11 (w:World) (g:Nat) (x0 x1 x2 x3 x4 x5 x6 x7 x8 x9 x10:Value):World:=
 ((((((((((w.setCell ⟨g,0,none⟩ x0).setCell ⟨g,1,none⟩ x1).setCell ⟨g,2,none⟩ x2).setCell ⟨g,3,none⟩ x3).setCell ⟨g,4,none⟩ x4).setCell ⟨g,5,none⟩ x5).setCell ⟨g,6,none⟩ x6).setCell ⟨g,7,none⟩ x7).setCell ⟨g,8,none⟩ x8).setCell ⟨g,9,none⟩ x9).setCell ⟨g,10,none⟩ x10
theorem store11_touch (w:World) (g:Nat) (x0 x1 x2 x3 x4 x5 x6 x7 x8 x9 x10:Value):Touch (At g) w (store11 w g x0 x1 x2 x3 x4 x5 x6 x7 x8 x9 x10):=
 (((((((((((Touch.refl _ _).set 0 _).set 1 _).set 2 _).set 3 _).set 4 _).set 5 _).set 6 _).set 7 _).set 8 _).set 9 _).set 10 _
theorem TkAt.done {w wr:World} {A:Option Addr} {c:Nat} {l:List UInt8} {s:Nat×Bool} {F:Array Value} (h:TkAt w wr A c l s F) (x0 x1 x2 x3 x4 x5 x6 x7 x8 x9 x10:Value):Keeps w (store11 wr w.heap.size x0 x1 x2 x3 x4 x5 x6 x7 x8 x9 x10):=
 Touch.nothing ((Touch.of_below (F:=At w.heap.size) h.keeps.below fun k hk e=>absurd hk (by omega)).then (store11_touch wr w.heap.size x0 x1 x2 x3 x4 x5 x6 x7 x8 x9 x10)) fun k hk e=>by rw [At] at e;omega
theorem ta_ss (x:Array Value) (w:World):(Instr.typeAssert (.iface 150 (.agg x)) 118 150 true).run Tryz.prog w=.ok (.tuple #[.agg x,.bool true]) w:=by kernel_rfl
theorem ta_dd (x:Array Value) (w:World):(Instr.typeAssert (.iface 151 (.agg x)) 118 151 true).run Tryz.prog w=.ok (.tuple #[.agg x,.bool true]) w:=by kernel_rfl
theorem ta_xx (x:Array Value) (w:World):(Instr.typeAssert (.iface 153 (.agg x)) 118 153 true).run Tryz.prog w=.ok (.tuple #[.agg x,.bool true]) w:=by kernel_rfl
theorem ta_ds (x:Array Value) (w:World):(Instr.typeAssert (.iface 151 (.agg x)) 118 150 true).run Tryz.prog w=.ok (.tuple #[.agg zero11,.bool false]) w:=by kernel_rfl
theorem ta_xs (x:Array Value) (w:World):(Instr.typeAssert (.iface 153 (.agg x)) 118 150 true).run Tryz.prog w=.ok (.tuple #[.agg zero11,.bool false]) w:=by kernel_rfl
theorem ta_xd (x:Array Value) (w:World):(Instr.typeAssert (.iface 153 (.agg x)) 118 151 true).run Tryz.prog w=.ok (.tuple #[.agg zero11,.bool false]) w:=by kernel_rfl
theorem ta_ns (w:World):(Instr.typeAssert .nilIface 118 150 true).run Tryz.prog w=.ok (.tuple #[.agg zero11,.bool false]) w:=by kernel_rfl
theorem ta_nd (w:World):(Instr.typeAssert .nilIface 118 151 true).run Tryz.prog w=.ok (.tuple #[.agg zero11,.bool false]) w:=by kernel_rfl
theorem ta_nx (w:World):(Instr.typeAssert .nilIface 118 153 true).run Tryz.prog w=.ok (.tuple #[.agg #[.int .i64 0,.int .i64 0,.int .i64 0,.slice none 0 0],.bool false]) w:=by kernel_rfl
attribute [local go_sem] ta_ss ta_dd ta_xx ta_ds ta_xs ta_xd ta_ns ta_nd ta_nx
def d1 (l:List UInt8):=rnum l 2147483648 (1,false)
def d2 (l:List UInt8):=rnum l seqMax (d1 l).2
def d3 (l:List UInt8):=rnum l seqMax (d2 l).2
def d4 (l:List UInt8):=rnum l 65 (d3 l).2
theorem take_s1 (A:Option Addr) (c:Nat) (l:List UInt8) (w:World) (hr:Reads w A l) (an:0<l.length) (hl:l.length≤140737488355328) (ay:l.length≤c) (hc:c≤9223372036854775807) (aM:Tabs w) (hk:((l[0]'an).toNat:Int)=1) (aj:(rnum l 2147483648 (1,false)).2.2=true) :
 Calls Tryz.prog 93 #[.slice A l.length c] w (fun e w'=>e=.returned (.tuple #[.agg zero11,.int .i64 5])∧Keeps w w'):=by
 obtain ⟨ad,rfl,aa⟩:=hr.out 0 an
 have bm:=World.block_lt_of_cell? w _ aa
 rw [addr_add_block] at bm
 rw [addr_add_zero,hk] at aa
 have h0:=TkAt.start w (some ad) c l hr #[.int .i64 1,.int .i64 0,.slice none 0 0,.int .i64 0,.int .i64 0,.int .i64 0,.slice none 0 0,.int .i64 0,.int .i64 0,.int .i64 0,.slice none 0 0] hl ay hc an
 obtain ⟨W,hW⟩:∃ W,W=(((w.alloc (.cells zero11 36)).alloc (.cells #[.int .i64 1,.int .i64 0,.slice none 0 0,.int .i64 0,.int .i64 0,.int .i64 0,.slice none 0 0,.int .i64 0,.int .i64 0,.int .i64 0,.slice none 0 0] 36)).alloc (.cells #[.slice (some ad) l.length c,.int .i64 1,.bool false] 172)):=⟨_,rfl⟩
 rw [← hW] at h0
 have aQ:=frOf_calls (.int .i64 0) (.int .i64 0) (.slice none 0 0) (.int .i64 0) (.int .i64 0) (.int .i64 0) (.slice none 0 0) (1) (.int .i64 0) (.int .i64 0) (.int .i64 0) (.slice none 0 0) W
 have H0:=Hi h0
 have aP:=Hi aQ
 have az:=Hi hr
 have hv:ofV #[.int .i64 1,.int .i64 0,.slice none 0 0,.int .i64 0,.int .i64 0,.int .i64 0,.slice none 0 0,.int .i64 0,.int .i64 0,.int .i64 0,.slice none 0 0] 1 #[.int .i64 0,.int .i64 0,.int .i64 0,.slice none 0 0]=.iface 150 (.agg #[.int .i64 1,.int .i64 0,.slice none 0 0,.int .i64 0,.int .i64 0,.int .i64 0,.slice none 0 0,.int .i64 0,.int .i64 0,.int .i64 0,.slice none 0 0]):=rfl
 obtain ⟨⟨n1,⟨a1,b1⟩⟩,aC⟩:∃ r,r=rnum l 2147483648 (1,false):=⟨_,rfl⟩
 rw [← aC] at aj
 simp only at aj
 subst aj
 have bv:=Hi aC
 clear aC hk
 have bM:=Hi aM
 have ba:=Hi ay
 have HC:=Hi hc
 clear aQ h0 hr ay hc aM
 have bq:0<l.length:=an
 clear an
 generalize aL:l.length=L at hl hW bq ⊢
 have aK:=Hi aL
 clear aL
 go_enter Tryz.func93,Tryz.ntmps93
 go_wp2_with fail
 rw [← hW]
 clear hW
 refine aP.out.mono ?_
 rintro e w1 ⟨rfl,aG⟩
 have h1:=H0.out.later aG
 rw [hv]
 clear hv aP H0
 obtain ⟨⟨c0,c1,c2,c3,c4,c5,c6,c7,c8,c9,c10⟩,z0,z1,z2,z3,z4,z5,z6,z7,z8,z9,z10⟩:=cells11 h1.fr
 have aw:=rnum_calls (w.heap.size+1+1) (some ad) c l (1,false) 2147483648 (by decide) w1 h1.rd
 rw [← bv.out] at aw
 have ax:=Hi aw
 have H1:=Hi h1
 clear h1 aw
 go_wp2_with fail
 refine ax.out.mono ?_
 rintro e w2 ⟨rfl,au,ap⟩
 have h2:=H1.out.call au ap
 clear au ap ax H1
 obtain ⟨⟨c0,c1,c2,c3,c4,c5,c6,c7,c8,c9,c10⟩,z0,z1,z2,z3,z4,z5,z6,z7,z8,z9,z10⟩:=cells11 h2.fr
 obtain ⟨⟨d0,d1,d2,d3,d4,d5,d6,d7,d8,d9,d10⟩,y0,y1,y2,y3,y4,y5,y6,y7,y8,y9,y10⟩:=cells11 h2.res
 obtain ⟨r0,r1,r2,x0,x1,x2⟩:=cells3 h2.rd.obj
 have u2:=obj_lt h2.rd.obj
 have H2:=Hi h2
 clear h2 r0 x0 x1 x2
 go_wp2
 refine bodyPost_ret (v:=.tuple #[.agg zero11,.int .i64 5]) (by simp [results,Tryz.results93,go_sem, *]) rfl ⟨rfl,(H2.out.set az.out 1 _).done (.int .i64 0) (.int .i64 0) (.slice none 0 0) (.int .i64 0) (.int .i64 0) (.int .i64 0) (.slice none 0 0) (.int .i64 0) (.int .i64 0) (.int .i64 0) (.slice none 0 0)⟩
theorem take_s2 (A:Option Addr) (c:Nat) (l:List UInt8) (w:World) (hr:Reads w A l) (an:0<l.length) (hl:l.length≤140737488355328) (ay:l.length≤c) (hc:c≤9223372036854775807) (aM:Tabs w) (hk:((l[0]'an).toNat:Int)=1) (aj:(rnum l 2147483648 (1,false)).2.2=false) (er:Int) (hd:decodeS (l.drop (rnum l 2147483648 (1,false)).2.1)=.error er) :
 Calls Tryz.prog 93 #[.slice A l.length c] w (fun e w'=>e=.returned (.tuple #[.agg zero11,.int .i64 er])∧Keeps w w'):=by
 obtain ⟨ad,rfl,aa⟩:=hr.out 0 an
 have bm:=World.block_lt_of_cell? w _ aa
 rw [addr_add_block] at bm
 rw [addr_add_zero,hk] at aa
 have h0:=TkAt.start w (some ad) c l hr #[.int .i64 1,.int .i64 0,.slice none 0 0,.int .i64 0,.int .i64 0,.int .i64 0,.slice none 0 0,.int .i64 0,.int .i64 0,.int .i64 0,.slice none 0 0] hl ay hc an
 obtain ⟨W,hW⟩:∃ W,W=(((w.alloc (.cells zero11 36)).alloc (.cells #[.int .i64 1,.int .i64 0,.slice none 0 0,.int .i64 0,.int .i64 0,.int .i64 0,.slice none 0 0,.int .i64 0,.int .i64 0,.int .i64 0,.slice none 0 0] 36)).alloc (.cells #[.slice (some ad) l.length c,.int .i64 1,.bool false] 172)):=⟨_,rfl⟩
 rw [← hW] at h0
 have aQ:=frOf_calls (.int .i64 0) (.int .i64 0) (.slice none 0 0) (.int .i64 0) (.int .i64 0) (.int .i64 0) (.slice none 0 0) (1) (.int .i64 0) (.int .i64 0) (.int .i64 0) (.slice none 0 0) W
 have H0:=Hi h0
 have aP:=Hi aQ
 have az:=Hi hr
 have hv:ofV #[.int .i64 1,.int .i64 0,.slice none 0 0,.int .i64 0,.int .i64 0,.int .i64 0,.slice none 0 0,.int .i64 0,.int .i64 0,.int .i64 0,.slice none 0 0] 1 #[.int .i64 0,.int .i64 0,.int .i64 0,.slice none 0 0]=.iface 150 (.agg #[.int .i64 1,.int .i64 0,.slice none 0 0,.int .i64 0,.int .i64 0,.int .i64 0,.slice none 0 0,.int .i64 0,.int .i64 0,.int .i64 0,.slice none 0 0]):=rfl
 obtain ⟨⟨n1,⟨a1,b1⟩⟩,aC⟩:∃ r,r=rnum l 2147483648 (1,false):=⟨_,rfl⟩
 rw [← aC] at aj hd
 simp only at aj hd
 subst aj
 have HD:=Hi hd
 clear hd
 have bv:=Hi aC
 clear aC hk
 have bM:=Hi aM
 have ba:=Hi ay
 have HC:=Hi hc
 clear aQ h0 hr ay hc aM
 have bq:0<l.length:=an
 clear an
 generalize aL:l.length=L at hl hW bq ⊢
 have aK:=Hi aL
 clear aL
 go_enter Tryz.func93,Tryz.ntmps93
 go_wp2_with fail
 rw [← hW]
 clear hW
 refine aP.out.mono ?_
 rintro e w1 ⟨rfl,aG⟩
 have h1:=H0.out.later aG
 rw [hv]
 clear hv aP H0
 obtain ⟨⟨c0,c1,c2,c3,c4,c5,c6,c7,c8,c9,c10⟩,z0,z1,z2,z3,z4,z5,z6,z7,z8,z9,z10⟩:=cells11 h1.fr
 have aw:=rnum_calls (w.heap.size+1+1) (some ad) c l (1,false) 2147483648 (by decide) w1 h1.rd
 rw [← bv.out] at aw
 have ax:=Hi aw
 have H1:=Hi h1
 clear h1 aw
 go_wp2_with fail
 refine ax.out.mono ?_
 rintro e w2 ⟨rfl,au,ap⟩
 have h2:=H1.out.call au ap
 clear au ap ax H1
 obtain ⟨⟨c0,c1,c2,c3,c4,c5,c6,c7,c8,c9,c10⟩,z0,z1,z2,z3,z4,z5,z6,z7,z8,z9,z10⟩:=cells11 h2.fr
 obtain ⟨⟨d0,d1,d2,d3,d4,d5,d6,d7,d8,d9,d10⟩,y0,y1,y2,y3,y4,y5,y6,y7,y8,y9,y10⟩:=cells11 h2.res
 obtain ⟨r0,r1,r2,x0,x1,x2⟩:=cells3 h2.rd.obj
 obtain ⟨Z,bs⟩:∃ Z,(if c=a1 then some ad else some (ad.add a1))=Z:=⟨_,rfl⟩
 have bn:Reads (w2.setCell ⟨w.heap.size+1,1,none⟩ (.int .i64 n1)) Z (l.drop a1):=by
  have h3:=h2.set az.out 1 (.int .i64 n1)
  refine h3.rd.reads.drop_any a1 Z fun aO ad' e=>?_
  cases e
  have:=ba.out
  rw [← bs,if_neg (by omega)]
 have cV:a1≤L:=by have:=h2.rd.within;rw [aK.out] at this;exact this
 have cN:L≤c:=by have:=ba.out;rw [aK.out] at this;exact this
 have bh:(l.drop a1).length=L-a1:=by rw [List.length_drop,aK.out]
 have ak:=schDecode_calls Z (c-a1) (l.drop a1) (w2.setCell ⟨w.heap.size+1,1,none⟩ (.int .i64 n1)) bn (by omega) (by omega) (by have:=HC.out;omega) (bM.out.below (h2.set az.out 1 (.int .i64 n1)).keeps.below)
 rw [bh] at ak
 have u2:=obj_lt h2.rd.obj
 have H2:=Hi (h2.set az.out 1 (.int .i64 n1))
 have HU:=Hi (obj_lt (h2.set az.out 1 (.int .i64 n1)).rd.obj)
 clear h2 r0 x0 x1 x2 bn bh
 have q0:(er != 0)=true:=by simpa using decodeS_nz HD.out
 rw [HD.out] at ak
 have aD:=Hi ak
 clear ak
 go_wp2_with fail
 clear bs
 refine aD.out.mono ?_
 rintro e w3 ⟨rfl,ao⟩
 have h3:=H2.out.later ao
 obtain ⟨⟨c0,c1,c2,c3,c4,c5,c6,c7,c8,c9,c10⟩,z0,z1,z2,z3,z4,z5,z6,z7,z8,z9,z10⟩:=cells11 h3.fr
 obtain ⟨⟨d0,d1,d2,d3,d4,d5,d6,d7,d8,d9,d10⟩,y0,y1,y2,y3,y4,y5,y6,y7,y8,y9,y10⟩:=cells11 h3.res
 obtain ⟨r0,r1,r2,x0,x1,x2⟩:=cells3 h3.rd.obj
 have u3:=obj_lt h3.rd.obj
 have H3:=Hi h3
 clear h3 H2 aD ao
 go_wp2
 refine bodyPost_ret (v:=.tuple #[.agg zero11,.int .i64 er]) (by simp [results,Tryz.results93,go_sem, *]) rfl ⟨rfl,(H3.out.set az.out 2 _).done (.int .i64 0) (.int .i64 0) (.slice none 0 0) (.int .i64 0) (.int .i64 0) (.int .i64 0) (.slice none 0 0) (.int .i64 0) (.int .i64 0) (.int .i64 0) (.slice none 0 0)⟩
theorem take_s3 (A:Option Addr) (c:Nat) (l:List UInt8) (w:World) (hr:Reads w A l) (an:0<l.length) (hl:l.length≤140737488355328) (ay:l.length≤c) (hc:c≤9223372036854775807) (aM:Tabs w) (hk:((l[0]'an).toNat:Int)=1) (aj:(rnum l 2147483648 (1,false)).2.2=false) (cols:List Col) (hd:decodeS (l.drop (rnum l 2147483648 (1,false)).2.1)=.ok cols) :
 Calls Tryz.prog 93 #[.slice A l.length c] w (TakePost w (.ok { frZero with kind:=1,number:=(rnum l 2147483648 (1,false)).1,cols:=cols })):=by
 obtain ⟨ad,rfl,aa⟩:=hr.out 0 an
 have bm:=World.block_lt_of_cell? w _ aa
 rw [addr_add_block] at bm
 rw [addr_add_zero,hk] at aa
 have h0:=TkAt.start w (some ad) c l hr #[.int .i64 1,.int .i64 0,.slice none 0 0,.int .i64 0,.int .i64 0,.int .i64 0,.slice none 0 0,.int .i64 0,.int .i64 0,.int .i64 0,.slice none 0 0] hl ay hc an
 obtain ⟨W,hW⟩:∃ W,W=(((w.alloc (.cells zero11 36)).alloc (.cells #[.int .i64 1,.int .i64 0,.slice none 0 0,.int .i64 0,.int .i64 0,.int .i64 0,.slice none 0 0,.int .i64 0,.int .i64 0,.int .i64 0,.slice none 0 0] 36)).alloc (.cells #[.slice (some ad) l.length c,.int .i64 1,.bool false] 172)):=⟨_,rfl⟩
 rw [← hW] at h0
 have aQ:=frOf_calls (.int .i64 0) (.int .i64 0) (.slice none 0 0) (.int .i64 0) (.int .i64 0) (.int .i64 0) (.slice none 0 0) (1) (.int .i64 0) (.int .i64 0) (.int .i64 0) (.slice none 0 0) W
 have H0:=Hi h0
 have aP:=Hi aQ
 have az:=Hi hr
 have hv:ofV #[.int .i64 1,.int .i64 0,.slice none 0 0,.int .i64 0,.int .i64 0,.int .i64 0,.slice none 0 0,.int .i64 0,.int .i64 0,.int .i64 0,.slice none 0 0] 1 #[.int .i64 0,.int .i64 0,.int .i64 0,.slice none 0 0]=.iface 150 (.agg #[.int .i64 1,.int .i64 0,.slice none 0 0,.int .i64 0,.int .i64 0,.int .i64 0,.slice none 0 0,.int .i64 0,.int .i64 0,.int .i64 0,.slice none 0 0]):=rfl
 obtain ⟨⟨n1,⟨a1,b1⟩⟩,aC⟩:∃ r,r=rnum l 2147483648 (1,false):=⟨_,rfl⟩
 rw [← aC] at aj hd ⊢
 simp only at aj hd ⊢
 subst aj
 have HD:=Hi hd
 clear hd
 have bv:=Hi aC
 clear aC hk
 have bM:=Hi aM
 have ba:=Hi ay
 have HC:=Hi hc
 clear aQ h0 hr ay hc aM
 have bq:0<l.length:=an
 clear an
 generalize aL:l.length=L at hl hW bq ⊢
 have aK:=Hi aL
 clear aL
 go_enter Tryz.func93,Tryz.ntmps93
 go_wp2_with fail
 rw [← hW]
 clear hW
 refine aP.out.mono ?_
 rintro e w1 ⟨rfl,aG⟩
 have h1:=H0.out.later aG
 rw [hv]
 clear hv aP H0
 obtain ⟨⟨c0,c1,c2,c3,c4,c5,c6,c7,c8,c9,c10⟩,z0,z1,z2,z3,z4,z5,z6,z7,z8,z9,z10⟩:=cells11 h1.fr
 have aw:=rnum_calls (w.heap.size+1+1) (some ad) c l (1,false) 2147483648 (by decide) w1 h1.rd
 rw [← bv.out] at aw
 have ax:=Hi aw
 have H1:=Hi h1
 clear h1 aw
 go_wp2_with fail
 refine ax.out.mono ?_
 rintro e w2 ⟨rfl,au,ap⟩
 have h2:=H1.out.call au ap
 clear au ap ax H1
 obtain ⟨⟨c0,c1,c2,c3,c4,c5,c6,c7,c8,c9,c10⟩,z0,z1,z2,z3,z4,z5,z6,z7,z8,z9,z10⟩:=cells11 h2.fr
 obtain ⟨⟨d0,d1,d2,d3,d4,d5,d6,d7,d8,d9,d10⟩,y0,y1,y2,y3,y4,y5,y6,y7,y8,y9,y10⟩:=cells11 h2.res
 obtain ⟨r0,r1,r2,x0,x1,x2⟩:=cells3 h2.rd.obj
 obtain ⟨Z,bs⟩:∃ Z,(if c=a1 then some ad else some (ad.add a1))=Z:=⟨_,rfl⟩
 have bn:Reads (w2.setCell ⟨w.heap.size+1,1,none⟩ (.int .i64 n1)) Z (l.drop a1):=by
  have h3:=h2.set az.out 1 (.int .i64 n1)
  refine h3.rd.reads.drop_any a1 Z fun aO ad' e=>?_
  cases e
  have:=ba.out
  rw [← bs,if_neg (by omega)]
 have cV:a1≤L:=by have:=h2.rd.within;rw [aK.out] at this;exact this
 have cN:L≤c:=by have:=ba.out;rw [aK.out] at this;exact this
 have bh:(l.drop a1).length=L-a1:=by rw [List.length_drop,aK.out]
 have ak:=schDecode_calls Z (c-a1) (l.drop a1) (w2.setCell ⟨w.heap.size+1,1,none⟩ (.int .i64 n1)) bn (by omega) (by omega) (by have:=HC.out;omega) (bM.out.below (h2.set az.out 1 (.int .i64 n1)).keeps.below)
 rw [bh] at ak
 have u2:=obj_lt h2.rd.obj
 have H2:=Hi (h2.set az.out 1 (.int .i64 n1))
 have HU:=Hi (obj_lt (h2.set az.out 1 (.int .i64 n1)).rd.obj)
 clear h2 r0 x0 x1 x2 bn bh
 rw [HD.out] at ak
 have aD:=Hi ak
 clear ak
 go_wp2_with fail
 clear bs
 refine aD.out.mono ?_
 rintro e w3 ⟨As,cs,rfl,cA,ao⟩
 have h3:=H2.out.later ao
 obtain ⟨⟨c0,c1,c2,c3,c4,c5,c6,c7,c8,c9,c10⟩,z0,z1,z2,z3,z4,z5,z6,z7,z8,z9,z10⟩:=cells11 h3.fr
 obtain ⟨⟨d0,d1,d2,d3,d4,d5,d6,d7,d8,d9,d10⟩,y0,y1,y2,y3,y4,y5,y6,y7,y8,y9,y10⟩:=cells11 h3.res
 obtain ⟨r0,r1,r2,x0,x1,x2⟩:=cells3 h3.rd.obj
 have u3:=obj_lt h3.rd.obj
 have H3:=Hi h3
 have cZ:=Hi cA
 clear h3 ao cA H2 aD
 go_wp2
 have h4:=H3.out.set az.out 2 (.slice As cols.length cs)
 have db:SchS (w3.setCell ⟨w.heap.size+1,2,none⟩ (.slice As cols.length cs)) (fun b=>w.heap.size+1<b) As cols:=by
  refine (cZ.out.mono fun b _ hb=>?_).touch ((Touch.refl (At (w.heap.size+1)) w3).set 2 _) fun b hb e=>?_
  · have cd:(w2.setCell ⟨w.heap.size+1,1,none⟩ (.int .i64 n1)).heap.size≤b:=hb
    have:=HU.out
    show w.heap.size+1<b
    omega
  · have cd:w.heap.size+1<b:=hb
    rw [At] at e
    omega
 refine bodyPost_ret (v:=.tuple #[.agg #[.int .i64 1,.int .i64 n1,.slice As cols.length cs,.int .i64 0,.int .i64 0,.int .i64 0,.slice none 0 0,.int .i64 0,.int .i64 0,.int .i64 0,.slice none 0 0],.int .i64 0]) (by simp [results,Tryz.results93,go_sem, *]) rfl ?_
 refine ⟨As,cs,none,0,none,0,rfl,⟨?_,OwnL.empty _ _ _ _,Loose.empty _ _ _ _ _⟩,h4.done _ _ _ _ _ _ _ _ _ _ _⟩
 exact (db.touch (store11_touch _ _ _ _ _ _ _ _ _ _ _ _ _) (fun b hb e=>by rw [At] at e;have cd:w.heap.size+1<b:=hb;omega)).mono fun b _ hb=>by have cd:w.heap.size+1<b:=hb;omega
end
end Go.Proofs.YtihodcnnappkbaaGreatDoor
