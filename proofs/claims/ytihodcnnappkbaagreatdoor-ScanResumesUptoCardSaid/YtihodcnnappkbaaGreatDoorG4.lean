/-
  Reading a schema: plain, and where the loop over its columns stands. No condition. The reader of schema's bytes: a schema. Condition: the block stands for the reader, the tables of unicode/utf8 are as laid. What a reader of schema's bytes gives up with is no 0: plain. Condition: what is of another type has one. schema.reads: what reads is called, and what it gives up with is told. Condition: a contract of what reads. The walk of schema.Decode. Condition: the slice reads as a list of bytes, the tables of unicode/utf8 are as laid. Rows of bytes of the call's own that grow; append of a text. No condition. The walks of frame.beyond and frame.put. Condition: the numbers read as a row. The walk of frame.put. Condition: the numbers read as a row that lies apart from the bytes, none of them below 0. The walks of schema.putText and putBit, and of leb.Zig. Condition: the row is the call's own, the lengths are Go's. The walks of schema.checkType, CheckType and putType. Condition: the value stands for a type; putType: the type may be, the row is the call's own.
-/
import Derived.Test.YtihodcnnappkbaaGreatDoorG3
import Derived.Defers
import Derived.Recover
import Derived.Test.YtihodcnnappkbaaGreatDoorG1
import Derived.Lib.AppendStr
set_option linter.unusedVariables false
set_option linter.unusedSimpArgs false
set_option maxHeartbeats 4000000
set_option maxRecDepth 20000
namespace Go.Proofs.YtihodcnnappkbaaGreatDoor
section
open Go.RowKit
def vaZero:Va:=.mk 0 0 0 empty []
def rCol (l:List UInt8) (cols:List Col) (a:Nat):Except Int (Col×Nat):=
 match rText 16 70 l a with
 | .error e=>.error e
 | .ok (t,k)=>
   if nameOk (str t)=false then .error 70
   else if (findCol cols (str t)).2=true then .error 71
   else match rKind 4 l k with
    | .error e=>.error e
    | .ok (ty,k2)=>
      match rBit l k2 with
      | .error e=>.error e
      | .ok (x,k3)=>
        if x=1 then
         match rValue ty l k3 with
         | .error e=>.error e
         | .ok (v,k4)=>.ok (⟨str t,ty,true,v⟩,k4)
        else .ok (⟨str t,ty,false,vaZero⟩,k3)
section
variable {l:List UInt8} {cols:List Col} {a:Nat}
theorem rCol_text {e:Int} (h:rText 16 70 l a=.error e):rCol l cols a=.error e:=by unfold rCol;rw [h]
variable {t:List UInt8} {k:Nat}
theorem rCol_name (h:rText 16 70 l a=.ok (t,k)) (h1:nameOk (str t)=false):rCol l cols a=.error 70:=by unfold rCol;rw [h];simp only [h1,if_true]
theorem rCol_twice (h:rText 16 70 l a=.ok (t,k)) (h1:nameOk (str t)=true) (h2:(findCol cols (str t)).2=true):rCol l cols a=.error 71:=by
 unfold rCol;rw [h];simp only [h1,h2,if_true,Bool.true_eq_false,if_false]
theorem rCol_kind {e:Int} (h:rText 16 70 l a=.ok (t,k)) (h1:nameOk (str t)=true) (h2:(findCol cols (str t)).2=false) (h3:rKind 4 l k=.error e):rCol l cols a=.error e:=by
 unfold rCol;rw [h];simp only [h1,h2,h3,Bool.true_eq_false,Bool.false_eq_true,if_false]
variable {ty:Ty} {k2:Nat}
theorem rCol_bit {e:Int} (h:rText 16 70 l a=.ok (t,k)) (h1:nameOk (str t)=true) (h2:(findCol cols (str t)).2=false) (h3:rKind 4 l k=.ok (ty,k2)) (h4:rBit l k2=.error e):rCol l cols a=.error e:=by
 unfold rCol;rw [h];simp only [h1,h2,h3,h4,Bool.true_eq_false,Bool.false_eq_true,if_false]
variable {x k3:Nat}
theorem rCol_no (h:rText 16 70 l a=.ok (t,k)) (h1:nameOk (str t)=true) (h2:(findCol cols (str t)).2=false) (h3:rKind 4 l k=.ok (ty,k2)) (h4:rBit l k2=.ok (x,k3)) (h5:¬x=1):rCol l cols a=.ok (⟨str t,ty,false,vaZero⟩,k3):=by
 unfold rCol;rw [h];simp only [h1,h2,h3,h4,h5,Bool.true_eq_false,Bool.false_eq_true,if_false]
theorem rCol_val {e:Int} (h:rText 16 70 l a=.ok (t,k)) (h1:nameOk (str t)=true) (h2:(findCol cols (str t)).2=false) (h3:rKind 4 l k=.ok (ty,k2)) (h4:rBit l k2=.ok (x,k3)) (h5:x=1) (h6:rValue ty l k3=.error e):rCol l cols a=.error e:=by
 unfold rCol;rw [h];simp only [h1,h2,h3,h4,h5,h6,Bool.true_eq_false,Bool.false_eq_true,if_false,if_true]
theorem rCol_yes {v:Va} {k4:Nat} (h:rText 16 70 l a=.ok (t,k)) (h1:nameOk (str t)=true) (h2:(findCol cols (str t)).2=false) (h3:rKind 4 l k=.ok (ty,k2)) (h4:rBit l k2=.ok (x,k3)) (h5:x=1) (h6:rValue ty l k3=.ok (v,k4)):rCol l cols a=.ok (⟨str t,ty,true,v⟩,k4):=by
 unfold rCol;rw [h];simp only [h1,h2,h3,h4,h5,h6,Bool.true_eq_false,Bool.false_eq_true,if_false,if_true]
end
def rCols (l:List UInt8):Nat→Nat→List Col→Except Int (List Col×Nat)
 | 0,a,cols=>.ok (cols,a)
 | n+1,a,cols=>
   match rCol l cols a with
   | .error e=>.error e
   | .ok (c,k)=>rCols l n k (cols++[c])
theorem rCols_error {l:List UInt8} {n a:Nat} {cols:List Col} {e:Int} (h:rCol l cols a=.error e) (hn:0<n):rCols l n a cols=.error e:=by
 cases n with
 | zero=>omega
 | succ n=>rw [rCols,h]
theorem rCols_ok {l:List UInt8} {n a k:Nat} {cols:List Col} {c:Col} (h:rCol l cols a=.ok (c,k)) (hn:0<n):rCols l n a cols=rCols l (n-1) k (cols++[c]):=by
 cases n with
 | zero=>omega
 | succ n=>rw [rCols,h];rfl
def rEnd (l:List UInt8):Except Int (List Col×Nat)→Except Int (List Col)
 | .error e=>.error e
 | .ok (cols,k)=>if k=l.length then .ok cols else .error 5
def rSchema (l:List UInt8) (a:Nat):Except Int (List Col):=
 match lebGet l a with
 | .error e=>.error e
 | .ok (n,k)=>if n=0 then .error 4 else if 16<n then .error 3 else rEnd l (rCols l n k [])
theorem rKind_good:∀ (n:Nat) (l:List UInt8) (a:Nat) (t:Ty) (k:Nat),rKind n l a=.ok (t,k)→t.good=true
 | 0,l,a,t,k,h=>by simp [rKind] at h
 | n+1,l,a,t,k,h=>by
   rw [rKind] at h
   split at h
   · cases h
   · rename_i c j hb
     split at h
     · cases h
     · split at h
       · rename_i a9
         unfold rKindOf at h
         split at h
         · cases h
         · rename_i t' j' hk
           injection h with h;injection h with h1 h2
           subst h1
           have:=rKind_good n l j t' j' hk
           have bk:(c:Int)=6∨(c:Int)=7:=by omega
           simp [Ty.good,Ty.goods,this,bk]
       · rename_i a9
         injection h with h;injection h with h1 h2
         subst h1
         have bk:¬((c:Int)=6∨(c:Int)=7):=by omega
         simp [Ty.good,Ty.goods,bk]
def FreeC (w:World) (A:Option Addr) (l:List Col):Prop:=∀ a,A=some a→l≠[]→∀ i,w.frozen? ⟨a.block,i,none⟩=false
theorem FreeC.nil (w:World) (A:Option Addr):FreeC w A []:=fun _ _ h=>absurd rfl h
theorem frozen_same {w w':World} {b:Nat} (h:w'.heap[b]? = w.heap[b]?) (i:Nat):w'.frozen? ⟨b,i,none⟩=w.frozen? ⟨b,i,none⟩:=by unfold World.frozen?;rw [h]
theorem FreeC.touch {F S:Nat→Prop} {w w':World} {A:Option Addr} {l:List Col} (h:FreeC w A l) (hs:SchS w S A l) (ht:Touch F w w') (hF:∀ k,S k→¬F k):FreeC w' A l:=fun a e hn i=>by
 have h1:=(hs.mono (S':=fun j=>S j∧j<w.heap.size) fun k hk h=>⟨h,hk⟩).blk a e hn
 rw [frozen_same (ht.block a.block h1.2 (hF _ h1.1))]
 exact h a e hn i
def SchPost (w:World) (g:Nat) (r:Except Int (List Col)) (e:Ending) (w':World):Prop:=
 match r with
 | .error er=>e=raised er∧Touch (At g) w w'
 | .ok cols=>∃ A c,e=.returned (.agg #[.slice A cols.length c])∧SchS w' (fun b=>w.heap.size≤b) A cols∧FreeC w' A cols∧Touch (At g) w w'
structure SchRel (w:World) (g:Nat) (A:Option Addr) (c:Nat) (l:List UInt8) (bs:Nat) (many:Nat) (R:Except Int (List Col×Nat)) (j:Nat) (Ar:Option Addr) (cr:Nat) (wr:World) (a:Nat) (cols:List Col) (xs:List Value):Prop where
 le:j≤many
 len:cols.length=j
 res:R=rCols l (many-j) a cols
 own:Loose wr (bs+1) 103 9 (.slice Ar j cr) j xs
 cols:Cols wr (fun b=>bs<b∧blk (.slice Ar j cr)≠some b) xs cols
 rd:RdAt wr g A c l a
 br:wr.heap[w.heap.size]? = some (.cells #[.slice none 0 0] 30)
 sc:wr.heap[bs]? = some (.cells #[.slice Ar j cr] 30)
 touch:Touch (At g) w wr
theorem SchRel.sch {w:World} {g:Nat} {A:Option Addr} {c:Nat} {l:List UInt8} {bs many:Nat} {R:Except Int (List Col×Nat)} {j:Nat} {Ar:Option Addr} {cr:Nat} {wr:World} {a:Nat} {cols:List Col} {xs:List Value}
 (h:SchRel w g A c l bs many R j Ar cr wr a cols xs) (hm:many≤16):SchS wr (fun b=>bs<b) Ar cols:=by
 obtain ⟨_,_,e1,dO,cV,ci,_⟩:=h.own.form
 injection e1 with e1 e2 e3
 subst e1 e3
 have a2:=h.own.lt
 refine ⟨⟨xs,cV,h.cols.mono fun b _ hb=>hb.1⟩,fun ad e hn=>?_,by have:=h.len;have:=h.le;omega⟩
 subst e
 have hp:0<cols.length:=List.length_pos_iff.2 hn
 have hl:=h.len
 exact (a2 ad.block (by unfold blk;simp;omega)).1
theorem SchRel.free {w:World} {g:Nat} {A:Option Addr} {c:Nat} {l:List UInt8} {bs many:Nat} {R:Except Int (List Col×Nat)} {j:Nat} {Ar:Option Addr} {cr:Nat} {wr:World} {a:Nat} {cols:List Col} {xs:List Value}
 (h:SchRel w g A c l bs many R j Ar cr wr a cols xs):FreeC wr Ar cols:=fun ad e hn i=>by
 rcases h.own with ⟨A',h1,h2,_⟩ | ⟨g',cap,h1,hc,h2⟩
 · have:=h.len
   exact absurd (List.eq_nil_of_length_eq_zero (by omega)) hn
 · rcases h2.2 with ⟨h3,_⟩ | ⟨g2,cap2,cur,h3,_,hg,_⟩
   · rw [h1] at h3;cases h3
   · injection h3 with e1 e2 e3
     rw [e] at e1
     injection e1 with e1
     subst e1
     exact obj_frozen hg i
theorem SchRel.step {w:World} {g:Nat} {A:Option Addr} {c:Nat} {l:List UInt8} {bs many:Nat} {R:Except Int (List Col×Nat)} {j:Nat} {Ar:Option Addr} {cr:Nat} {wr:World} {a:Nat} {cols:List Col} {xs:List Value}
 (h:SchRel w g A c l bs many R j Ar cr wr a cols xs) {a0:Nat} (cv:RdAt w g A c l a0) (bj:w.heap.size<bs) (ai:j<many) (hg:g<w.heap.size) {y:Col} {k2:Nat} (hq:R=rCols l (many-j-1) k2 (cols++[y]))
 {w3:World} {x0 x1 x2 x3 x4 x5 x6 x7 x8:Value} (dL:ColC w3 (fun b=>wr.heap.size≤b) x0 x1 x2 x3 x4 x5 x6 x7 x8 y)
 (dS:RdAt w3 g A c l k2) (cd:Touch (At g) wr w3) {w4:World} {A4:Option Addr} {c4:Nat}
 (dj:Loose w4 (bs+1) 103 9 (.slice A4 (j+1) c4) (j+1) (xs++[x0,x1,x2,x3,x4,x5,x6,x7,x8]))
 (d8:(w3.alloc (.cells #[x0,x1,x2,x3,x4,x5,x6,x7,x8] 103)).grownBy w4 (blk (.slice Ar j cr)))
 (dH:blk (.slice A4 (j+1) c4)=blk (.slice Ar j cr)∨blk (.slice A4 (j+1) c4)=some (w3.heap.size+1))
 (dP:w4.heap[bs]? = some (.cells #[.slice Ar j cr] 30)) :
 SchRel w g A c l bs many R (j+1) A4 c4 (w4.setCell ⟨bs,0,none⟩ (.slice A4 (j+1) c4)) k2 (cols++[y]) (xs++[x0,x1,x2,x3,x4,x5,x6,x7,x8]):=by
 have a2:=h.own.lt
 have eq:=obj_lt h.sc
 have ef:wr.heap.size≤w3.heap.size:=cd.size
 obtain ⟨W3,cQ⟩:∃ W3,W3=w3.alloc (.cells #[x0,x1,x2,x3,x4,x5,x6,x7,x8] 103):=⟨_,rfl⟩
 rw [← cQ] at d8
 have aX:Keeps w3 W3:=by rw [cQ];exact (Keeps.refl w3).alloc _
 have eo:W3.heap.size=w3.heap.size+1:=by rw [cQ];simp
 have cJ:=dj.lt
 have cj:Touch (fun b=>blk (.slice Ar j cr)=some b∨b=bs) W3 (w4.setCell ⟨bs,0,none⟩ (.slice A4 (j+1) c4)):=
  (Touch.of_grown d8 fun b e=>.inl e).setCell _ _ fun _=>.inr rfl
 have bd:∀ b,(blk (.slice Ar j cr)=some b∨b=bs)→bs≤b:=fun b hb=>by
  rcases hb with hb | hb
  · have:=(a2 b hb).1;omega
  · omega
 have cK:Touch (At g) w (w4.setCell ⟨bs,0,none⟩ (.slice A4 (j+1) c4)):=
  ((h.touch.then cd).below aX).trans cj fun b hb h=>by have:=bd b h;omega
 have dW:blk (.slice A4 (j+1) c4)≠some bs:=fun e=>by have:=(cJ _ e).1;omega
 refine ⟨by omega,by simp [h.len],by rw [hq];congr 1,dj.far dW _, ?_, ?_, ?_, ?_,cK⟩
 · have eh:Cols W3 (fun b=>bs<b∧blk (.slice Ar j cr)≠some b) xs cols:=(h.cols.touch cd (fun b hb e=>by rw [At] at e;omega)).later aX
   have e7:ColC W3 (fun b=>bs<b∧blk (.slice Ar j cr)≠some b) x0 x1 x2 x3 x4 x5 x6 x7 x8 y:=
    (dL.later aX).mono fun b _ hb=>by
      have aS:wr.heap.size≤b:=hb
      exact ⟨by omega,fun e=>by have:=(a2 b e).2;omega⟩
   have hm:Cols W3 (fun b=>bs<b∧blk (.slice Ar j cr)≠some b∧blk (.slice A4 (j+1) c4)≠some b) (xs++[x0,x1,x2,x3,x4,x5,x6,x7,x8]) (cols++[y]):=
    (eh.snoc e7).mono fun b ai hb=>⟨hb.1,hb.2,fun e=>by
      rcases dH with h4 | h4
      · rw [h4] at e;exact hb.2 e
      · rw [h4] at e;injection e with e;omega⟩
   exact (hm.touch cj fun b hb hF=>by
    rcases hF with hF | hF
    · exact hb.2.1 hF
    · omega).mono fun b _ hb=>⟨hb.1,hb.2.2⟩
 · exact cv.newer (dS.below aX) cj fun b hb=>by have:=bd b hb;omega
 · exact cj.obj ((aX.below.block _ (by have:=cd.size;omega)).trans (cd.obj h.br (by rw [At];omega))) fun hF=>by have:=bd _ hF;omega
 · exact obj_set dP 0 _
structure Rnd (w:World) (g:Nat) (A:Option Addr) (c:Nat) (l:List UInt8) (bs:Nat) (s:Value) (wr wX:World) (a:Nat) (C:Array Value):Prop where
 rd:RdAt wX g A c l a
 sc:wX.heap[bs]? = some (.cells #[s] 30)
 cc:wX.heap[wr.heap.size]? = some (.cells C 103)
 touch:Touch (At g) wr wX
theorem Rnd.call {w:World} {g:Nat} {A:Option Addr} {c:Nat} {l:List UInt8} {bs:Nat} {s:Value} {wr wX w':World} {a a':Nat} {C:Array Value} (h:Rnd w g A c l bs s wr wX a C) (bj:bs≠g) (bx:wr.heap.size≠g) (hr:RdAt w' g A c l a') (ht:Touch (At g) wX w'):Rnd w g A c l bs s wr w' a' C:=
 ⟨hr,ht.obj h.sc bj,ht.obj h.cc bx,h.touch.then ht⟩
theorem Rnd.keeps {w:World} {g:Nat} {A:Option Addr} {c:Nat} {l:List UInt8} {bs:Nat} {s:Value} {wr wX w':World} {a:Nat} {C:Array Value} (h:Rnd w g A c l bs s wr wX a C) (hk:Keeps wX w'):Rnd w g A c l bs s wr w' a C:=
 ⟨h.rd.below hk.below,by rw [hk.below.block _ (obj_lt h.sc)];exact h.sc,by rw [hk.below.block _ (obj_lt h.cc)];exact h.cc,h.touch.below hk⟩
theorem Rnd.store {w:World} {g:Nat} {A:Option Addr} {c:Nat} {l:List UInt8} {bs:Nat} {s:Value} {wr wX:World} {a:Nat} {C:Array Value} (h:Rnd w g A c l bs s wr wX a C) (bj:bs<wr.heap.size) {a0:Nat} (cv:RdAt wr g A c l a0) (i:Nat) (u:Value):Rnd w g A c l bs s wr (wX.setCell ⟨wr.heap.size,i,none⟩ u) a (C.setIfInBounds i u):=
 ⟨cv.newer h.rd ((Touch.refl (At wr.heap.size) wX).set i u) (fun k hk=>by rw [At] at hk;omega),obj_far h.sc (by show bs≠wr.heap.size;omega) u,obj_set h.cc i u,h.touch.setCell _ _ fun ai=>absurd ai (by show ¬wr.heap.size<wr.heap.size;omega)⟩
theorem Rnd.start {w:World} {g:Nat} {A:Option Addr} {c:Nat} {l:List UInt8} {bs many:Nat} {R:Except Int (List Col×Nat)} {j:Nat} {Ar:Option Addr} {cr:Nat} {wr:World} {a:Nat} {cols:List Col} {xs:List Value}
 (h:SchRel w g A c l bs many R j Ar cr wr a cols xs) (C:Array Value):Rnd w g A c l bs (.slice Ar j cr) wr (wr.alloc (.cells C 103)) a C:=
 ⟨h.rd.below ((Keeps.refl wr).alloc _).below,obj_old h.sc _,obj_new wr _,(Touch.refl _ wr).alloc _⟩
theorem cells9 {w:World} {g:Nat} {x0 x1 x2 x3 x4 x5 x6 x7 x8:Value} {t:TypeId} (h:w.heap[g]? = some (.cells #[x0,x1,x2,x3,x4,x5,x6,x7,x8] t (0,0))) :
 (w.cell? ⟨g,0,none⟩=some x0∧w.cell? ⟨g,1,none⟩=some x1∧w.cell? ⟨g,2,none⟩=some x2∧w.cell? ⟨g,3,none⟩=some x3∧w.cell? ⟨g,4,none⟩=some x4∧w.cell? ⟨g,5,none⟩=some x5∧w.cell? ⟨g,6,none⟩=some x6∧w.cell? ⟨g,7,none⟩=some x7∧w.cell? ⟨g,8,none⟩=some x8) ∧
 (w.frozen? ⟨g,0,none⟩=false∧w.frozen? ⟨g,1,none⟩=false∧w.frozen? ⟨g,2,none⟩=false∧w.frozen? ⟨g,3,none⟩=false∧w.frozen? ⟨g,4,none⟩=false∧w.frozen? ⟨g,5,none⟩=false∧w.frozen? ⟨g,6,none⟩=false∧w.frozen? ⟨g,7,none⟩=false∧w.frozen? ⟨g,8,none⟩=false):=
 ⟨⟨by rw [obj_cell h];rfl,by rw [obj_cell h];rfl,by rw [obj_cell h];rfl,by rw [obj_cell h];rfl,by rw [obj_cell h];rfl,by rw [obj_cell h];rfl,by rw [obj_cell h];rfl,by rw [obj_cell h];rfl,by rw [obj_cell h];rfl⟩,
  obj_frozen h 0,obj_frozen h 1,obj_frozen h 2,obj_frozen h 3,obj_frozen h 4,obj_frozen h 5,obj_frozen h 6,obj_frozen h 7,obj_frozen h 8⟩
theorem cells1 {w:World} {g:Nat} {x:Value} {t:TypeId} (h:w.heap[g]? = some (.cells #[x] t (0,0))):w.cell? ⟨g,0,none⟩=some x∧w.frozen? ⟨g,0,none⟩=false:=
 ⟨by rw [obj_cell h];rfl,obj_frozen h 0⟩
end
section
open Go.RowKit Go.BigFrame
attribute [local go_sem] run_storeF
theorem info_column:(Tryz.prog.info? 103).map (fun i=>(i.zero,i.size,i.bytes))=some (some (.agg #[.string ⟨#[]⟩,.int .i64 0,.slice none 0 0,.bool false,.int .i64 0,.int .i64 0,.float .f64 0,.string ⟨#[]⟩,.slice none 0 0]),9,120):=by kernel_rfl
theorem schema_calls (g:Nat) (A:Option Addr) (c:Nat) (l:List UInt8) (a:Nat) (w:World) (hr:RdAt w g A c l a) (ay:Tabs w) (cl:g≠3) (aa:g≠4) :
 Calls Tryz.prog 119 #[.pointer (some ⟨g,0,none⟩)] w (SchPost w g (rSchema l a)):=by
 have hg:=obj_lt hr.obj
 obtain ⟨W0,a7⟩:∃ W0,W0=w.alloc (.cells #[.slice none 0 0] 30):=⟨_,rfl⟩
 have bo:RdAt W0 g A c l a:=by rw [a7];exact hr.below ((Keeps.refl w).alloc _).below
 have bQ:W0.heap[w.heap.size]? = some (.cells #[.slice none 0 0] 30):=by rw [a7];exact obj_new w _
 have dE:Touch (At g) w W0:=by rw [a7];exact (Touch.refl _ w).alloc _
 have hp:rSchema l a=(match lebGet l a with | .error e=>.error e | .ok (n,k)=>if n=0 then .error 4 else if 16<n then .error 3 else rEnd l (rCols l n k [])):=rfl
 have dn:=Hi hr
 have dV:=Hi ay
 have cm:=Hi dE
 have aw:=Hi bQ
 clear hr ay dE bQ
 cases hb:lebGet l a with
 | error er=>
   rw [hb] at hp
   rw [hp]
   have hc:=number_no g A c l a er _ bo hb (lebGet_err hb)
   rw [a7] at hc
   have HC:=Hi hc
   have aF:=Hi a7
   clear hp hb bo hc a7
   go_enter Tryz.func119,Tryz.ntmps119
   go_wp2_with fail
   refine HC.out.mono ?_
   rintro e w1 ⟨rfl,ht⟩
   have HT:=Hi ht
   clear ht HC
   go_wp2
   exact ⟨rfl,rfl,cm.out.then (aF.out▸HT.out)⟩
 | ok r=>
   obtain ⟨n,k⟩:=r
   rw [hb] at hp
   have hc:=number_ok g A c l a n k _ bo hb
   rw [a7] at hc
   have HC:=Hi hc
   have aF:=Hi a7
   have cU:=lebGet_num hb
   clear hb bo hc a7
   by_cases bW:n=0
   · simp only [bW,if_true] at hp
     rw [hp]
     subst bW
     clear hp
     go_enter Tryz.func119,Tryz.ntmps119
     go_wp2_with fail
     refine HC.out.mono ?_
     rintro e w1 ⟨rfl,au,ht⟩
     have HT:=Hi ht
     clear ht HC au
     go_wp2_with fail
     refine (must_noB _ _ _ _ (by simp <;> omega)).mono ?_
     rintro e w2 ⟨rfl,rfl⟩
     go_wp2
     exact ⟨rfl,rfl,cm.out.then (aF.out▸HT.out)⟩
   by_cases bm:16<n
   · simp only [bW,bm,if_true,if_false] at hp
     rw [hp]
     clear hp
     go_enter Tryz.func119,Tryz.ntmps119
     go_wp2_with fail
     refine HC.out.mono ?_
     rintro e w1 ⟨rfl,au,ht⟩
     have HT:=Hi ht
     clear ht HC au
     go_wp2_with fail
     refine (must_okB _ _ _ _ (by simp <;> omega)).mono ?_
     rintro e w2 ⟨rfl,rfl⟩
     go_wp2_with fail
     refine (must_noB _ _ _ _ (by simp <;> omega)).mono ?_
     rintro e w2 ⟨rfl,rfl⟩
     go_wp2
     exact ⟨rfl,rfl,cm.out.then (aF.out▸HT.out)⟩
   simp only [bW,bm,if_false] at hp
   have em:1≤n:=by omega
   have d4:n≤16:=by omega
   generalize ee:rSchema l a=R at hp ⊢
   generalize hQ:rCols l n k []=Q at hp
   have ab:=Hi hp
   have HQ:=Hi hQ.symm
   clear ee hp hQ bW bm cU
   go_enter Tryz.func119,Tryz.ntmps119
   go_wp2_with fail
   refine HC.out.mono ?_
   rintro e w1 ⟨rfl,au,ht⟩
   rw [← aF.out] at ht
   have co:=ht.obj aw.out (by show w.heap.size≠g;omega)
   have u1:=obj_lt co
   have aW:SchRel w g A c l w1.heap.size n Q 0 none 0 (w1.alloc (.cells #[.slice none 0 0] 30)) k [] []:=
    ⟨by omega,rfl,HQ.out,Loose.empty _ _ _ _ none,Cols.nil _ _,au.below ((Keeps.refl w1).alloc _).below,obj_old co _,obj_new w1 _,(cm.out.then ht).alloc _⟩
   have bF:=Hi aW
   clear au ht aW HC HQ co
   go_wp2_with fail
   refine (must_okB _ _ _ _ (by simp <;> omega)).mono ?_
   rintro e w2 ⟨rfl,rfl⟩
   go_wp2_with fail
   refine (must_okB _ _ _ _ (by simp <;> omega)).mono ?_
   rintro e w2 ⟨rfl,rfl⟩
   go_wp2_with fail
   obtain ⟨bs,bj⟩:∃ bs,bs=w1.heap.size:=⟨_,rfl⟩
   rw [← bj] at bF u1 ⊢
   have dQ:=Hi bj
   clear bj
   go_loopw [19] (fun i wr=>∃ (j:Nat) (Ar:Option Addr) (cr a:Nat) (cols:List Col) (xs:List Value),i=.int .u64 (j:Int)∧SchRel w g A c l bs n Q j Ar cr wr a cols xs) (fun i _=>n-(intOf i).toNat)
   case atStart=>exact ⟨0,none,0,k,[],[],rfl,bF.out⟩
   case round=>
    clear bF dQ
    obtain ⟨j,Ar,cr,a,cols,xs,rfl,hrel⟩:=hrel
    by_cases ai:j<n
    · obtain rfl:cols.length=j:=hrel.len
      have bN:bs≠g:=by omega
      have hw:=obj_lt hrel.sc
      have bx:wr.heap.size≠g:=by omega
      have da:=Rnd.start hrel #[.string ⟨#[]⟩,.int .i64 0,.slice none 0 0,.bool false,.int .i64 0,.int .i64 0,.float .f64 0,.string ⟨#[]⟩,.slice none 0 0]
      have a3:=Hi hrel
      have bC:=Hi da
      have aL:=Hi hrel.rd
      have ek:=Hi ai
      clear hrel da
      cases b7:rText 16 70 l a with
      | error er=>
        have HE:Hid (R=.error er):=Hi (by rw [ab.out,a3.out.res,rCols_error (rCol_text b7) (by omega)];rfl)
        have HC:=Hi (text_no g A c l a er 16 70 _ (by omega) bC.out.rd b7)
        clear b7 ab
        go_wp2_with fail
        refine HC.out.mono ?_
        rintro e w2 ⟨rfl,aN⟩
        have cg:=Hi aN
        clear aN HC
        go_wp2
        refine ⟨rfl, ?_⟩
        rw [HE.out]
        exact ⟨rfl,(a3.out.touch.then bC.out.touch).then cg.out⟩
      | ok r=>
      obtain ⟨t,k1⟩:=r
      have HC:=Hi (text_ok g A c l t a k1 16 70 _ (by omega) bC.out.rd b7)
      have bh:=Hi b7
      have cy:=(rText_le bC.out.rd.within b7).2
      clear b7
      go_wp2_with fail
      refine HC.out.mono ?_
      rintro e w2 ⟨rfl,aV,aN⟩
      have h2:=bC.out.call bN bx aV aN
      obtain ⟨⟨c0,c1,c2,c3,c4,c5,c6,c7,c8⟩,z0,z1,z2,z3,z4,z5,z6,z7,z8⟩:=cells9 h2.cc
      have u2:=obj_lt h2.cc
      obtain ⟨W2,aA⟩:∃ W2,W2=w2.setCell ⟨wr.heap.size,0,none⟩ (.string (str t)):=⟨_,rfl⟩
      have cT:=h2.store hw aL.out 0 (.string (str t))
      rw [← aA] at cT
      have H2:=Hi cT
      clear aV aN h2 cT HC bC
      go_wp2_with fail
      rw [← aA]
      clear aA c0 c1 c2 c3 c4 c5 c6 c7 c8 z0 z1 z2 z3 z4 z5 z6 z7 z8 u2
      refine (name_calls (str t) W2).mono ?_
      rintro e w3 ⟨rfl,aX⟩
      have h3:=H2.out.keeps aX
      clear H2 aX
      cases ck:nameOk (str t) with
      | false=>
        have HE:Hid (R=.error 70):=Hi (by rw [ab.out,a3.out.res,rCols_error (rCol_name bh.out ck) (by omega)];rfl)
        have H3:=Hi h3
        clear h3 ck ab
        go_wp2_with fail
        refine (must_noB _ _ _ _ (by simp <;> omega)).mono ?_
        rintro e w4 ⟨rfl,rfl⟩
        go_wp2
        refine ⟨rfl, ?_⟩
        rw [HE.out]
        exact ⟨rfl,a3.out.touch.then H3.out.touch⟩
      | true=>
      have bH:=Hi ck
      clear ck
      have aH:=(a3.out.sch d4).touch h3.touch (fun b hb e=>by rw [At] at e;omega)
      have aK:=find_calls Ar cr _ cols (str t) w3 aH
      obtain ⟨⟨c0,c1,c2,c3,c4,c5,c6,c7,c8⟩,z0,z1,z2,z3,z4,z5,z6,z7,z8⟩:=cells9 h3.cc
      obtain ⟨s0,_⟩:=cells1 h3.sc
      have u3:=obj_lt h3.cc
      have H3:=Hi h3
      have bz:=Hi aK
      clear h3 aH aK
      go_wp2_with fail
      refine (must_okB _ _ _ _ (by simp <;> omega)).mono ?_
      rintro e w4 ⟨rfl,rfl⟩
      go_wp2_with fail
      refine bz.out.mono ?_
      rintro e w4 ⟨rfl,dr⟩
      have h4:=H3.out.keeps dr
      clear H3 dr bz c0 c1 c2 c3 c4 c5 c6 c7 c8 z0 z1 z2 z3 z4 z5 z6 z7 z8 u3 s0
      generalize dX:(findCol cols (str t)).1=F1
      clear dX
      cases ce:(findCol cols (str t)).2 with
      | true=>
        have HE:Hid (R=.error 71):=Hi (by rw [ab.out,a3.out.res,rCols_error (rCol_twice bh.out bH.out ce) (by omega)];rfl)
        have H4:=Hi h4
        clear h4 ce ab
        go_wp2_with fail
        refine (must_noB _ _ _ _ (by simp <;> omega)).mono ?_
        rintro e w5 ⟨rfl,rfl⟩
        go_wp2
        refine ⟨rfl, ?_⟩
        rw [HE.out]
        exact ⟨rfl,a3.out.touch.then H4.out.touch⟩
      | false=>
      have bY:=Hi ce
      clear ce
      have bA:Calls Tryz.prog 153 #[.pointer (some ⟨g,0,none⟩),.int .i64 1] w4 (KindPost w4 g A c l (rKind 4 l k1)):=kind_calls 4 1 g A c l k1 w4 rfl h4.rd
      have u4:=obj_lt h4.cc
      have H4:=Hi h4
      clear h4
      cases bw:rKind 4 l k1 with
      | error er=>
        rw [bw] at bA
        have HE:Hid (R=.error er):=Hi (by rw [ab.out,a3.out.res,rCols_error (rCol_kind bh.out bH.out bY.out bw) (by omega)];rfl)
        have bR:=Hi bA
        clear bA bw ab
        go_wp2_with fail
        refine (must_okB _ _ _ _ (by simp <;> omega)).mono ?_
        rintro e w5 ⟨rfl,rfl⟩
        go_wp2_with fail
        refine bR.out.mono ?_
        rintro e w5 ⟨rfl,bL⟩
        have dK:=Hi bL
        clear bL bR
        go_wp2
        refine ⟨rfl, ?_⟩
        rw [HE.out]
        exact ⟨rfl,(a3.out.touch.then H4.out.touch).then dK.out⟩
      | ok r=>
      obtain ⟨ty,k2⟩:=r
      rw [bw] at bA
      have bR:=Hi bA
      have bJ:=Hi bw
      clear bA bw
      go_wp2_with fail
      refine (must_okB _ _ _ _ (by simp <;> omega)).mono ?_
      rintro e w5 ⟨rfl,rfl⟩
      go_wp2_with fail
      refine bR.out.mono ?_
      rintro e w5 ⟨v5,rfl,cP,dF,bL⟩
      obtain ⟨A5,c5',rfl⟩:=cP.form
      have h5:=H4.out.call bN bx dF bL
      obtain ⟨⟨c0,c1,c2,c3,c4,c5,c6,c7,c8⟩,z0,z1,z2,z3,z4,z5,z6,z7,z8⟩:=cells9 h5.cc
      have u5:=obj_lt h5.cc
      have bV:TyS w5 (fun b=>wr.heap.size<b) (.agg #[.int .i64 ty.kind,.slice A5 ty.of.length c5']) ty:=cP.mono fun b _ hb=>by have aS:w4.heap.size≤b:=hb;omega
      obtain ⟨W5,bE⟩:∃ W5,W5=(w5.setCell ⟨wr.heap.size,1,none⟩ (.int .i64 ty.kind)).setCell ⟨wr.heap.size,2,none⟩ (.slice A5 ty.of.length c5'):=⟨_,rfl⟩
      have cw:=(h5.store hw aL.out 1 (.int .i64 ty.kind)).store hw aL.out 2 (.slice A5 ty.of.length c5')
      rw [← bE] at cw
      have bS:TyS W5 (fun b=>wr.heap.size<b) (.agg #[.int .i64 ty.kind,.slice A5 ty.of.length c5']) ty:=by
       rw [bE]
       exact bV.touch (((Touch.refl (At wr.heap.size) w5).set 1 _).set 2 _) fun b hb e=>by rw [At] at e;omega
      have H5:=Hi cw
      have cX:=Hi bS
      clear dF bL h5 cw cP bV bS bR H4
      cases bn:rBit l k2 with
      | error er=>
        have HE:Hid (R=.error er):=Hi (by rw [ab.out,a3.out.res,rCols_error (rCol_bit bh.out bH.out bY.out bJ.out bn) (by omega)];rfl)
        have HC:=Hi (bit_no g A c l k2 er W5 H5.out.rd bn)
        clear bn ab
        go_wp2_with fail
        rw [← bE]
        clear bE
        refine HC.out.mono ?_
        rintro e w6 ⟨rfl,bt⟩
        have eg:=Hi bt
        clear bt HC
        go_wp2
        refine ⟨rfl, ?_⟩
        rw [HE.out]
        exact ⟨rfl,(a3.out.touch.then H5.out.touch).then eg.out⟩
      | ok r=>
      obtain ⟨x,k3⟩:=r
      have HC:=Hi (bit_ok g A c l k2 x k3 W5 H5.out.rd bn)
      have ep:=rBit_lt bn
      have cF:=Hi bn
      clear bn
      go_wp2_with fail
      rw [← bE]
      clear bE c0 c1 c2 c3 c4 c5 c6 c7 c8 z0 z1 z2 z3 z4 z5 z6 z7 z8 u5
      refine HC.out.mono ?_
      rintro e w6 ⟨rfl,cp,bt⟩
      have h6:=H5.out.call bN bx cp bt
      obtain ⟨⟨c0,c1,c2,c3,c4,c5,c6,c7,c8⟩,z0,z1,z2,z3,z4,z5,z6,z7,z8⟩:=cells9 h6.cc
      have u6:=obj_lt h6.cc
      have aM:=cX.out.touch bt (fun b hb e=>by rw [At] at e;omega)
      by_cases hx:x=1
      · have qx:((x:Int)==1)=true:=by simp;omega
        have b8:Hid (Rnd w g A c l bs (.slice Ar cols.length cr) wr (w6.setCell ⟨wr.heap.size,3,none⟩ (.bool true)) k3 #[.string (str t),.int .i64 ty.kind,.slice A5 ty.of.length c5',.bool true,.int .i64 0,.int .i64 0,.float .f64 0,.string ⟨#[]⟩,.slice none 0 0]):=Hi (h6.store hw aL.out 3 (.bool true))
        obtain ⟨W6,bD⟩:∃ W6,W6=w6.setCell ⟨wr.heap.size,3,none⟩ (.bool true):=⟨_,rfl⟩
        rw [← bD] at b8
        have bb:TyS W6 (fun b=>wr.heap.size<b) (.agg #[.int .i64 ty.kind,.slice A5 ty.of.length c5']) ty:=by
         rw [bD]
         exact aM.touch ((Touch.refl (At wr.heap.size) w6).set 3 _) fun b hb e=>by rw [At] at e;omega
        have bG:=value_calls (SizeOf.sizeOf ty+1) ty _ g A c l k3 W6 (by omega) (rKind_good _ _ _ _ _ bJ.out) (bb.mono fun b _ hb=>by omega) b8.out.rd (dV.out.touch (a3.out.touch.then b8.out.touch) (fun e=>cl e.symm) (fun e=>aa e.symm)) cl aa
        have ca:=Hi bb
        have HX:=Hi hx
        clear cp bt h6 aM bb hx HC
        cases bv:rValue ty l k3 with
        | error er=>
          rw [bv] at bG
          have HE:Hid (R=.error er):=Hi (by rw [ab.out,a3.out.res,rCols_error (rCol_val bh.out bH.out bY.out bJ.out cF.out HX.out bv) (by omega)];rfl)
          have bX:=Hi bG
          clear bG bv ab
          go_wp2_with fail
          rw [← bD]
          clear bD
          refine bX.out.mono ?_
          rintro e w7 ⟨rfl,bu⟩
          have e5:=Hi bu
          clear bu bX
          go_wp2
          refine ⟨rfl, ?_⟩
          rw [HE.out]
          exact ⟨rfl,(a3.out.touch.then b8.out.touch).then e5.out⟩
        | ok r=>
        obtain ⟨v,k4⟩:=r
        rw [bv] at bG
        have bX:=Hi bG
        have ed:=Hi bv
        clear bG bv
        go_wp2_with fail
        rw [← bD]
        clear bD c0 c1 c2 c3 c4 c5 c6 c7 c8 z0 z1 z2 z3 z4 z5 z6 z7 z8 u6
        refine bX.out.mono ?_
        rintro e w7 ⟨v7,rfl,cq,de,bu⟩
        obtain ⟨A7,c7',rfl⟩:=cq.form
        have ei:=obj_lt b8.out.cc
        have h7:=b8.out.call bN bx de bu
        obtain ⟨⟨c0,c1,c2,c3,c4,c5,c6,c7,c8⟩,z0,z1,z2,z3,z4,z5,z6,z7,z8⟩:=cells9 h7.cc
        have u7:=obj_lt h7.cc
        have bM:=ca.out.touch bu (fun b hb e=>by rw [At] at e;omega)
        have av:VaS w7 (fun b=>wr.heap.size<b) _ v:=cq.mono fun b _ hb=>by have aS:W6.heap.size≤b:=hb;omega
        have aP:Rnd w g A c l bs (.slice Ar cols.length cr) wr (((((w7.setCell ⟨wr.heap.size,4,none⟩ (.int .i64 v.kind)).setCell ⟨wr.heap.size,5,none⟩ (.int .i64 v.int)).setCell ⟨wr.heap.size,6,none⟩ (.float .f64 v.fl)).setCell ⟨wr.heap.size,7,none⟩ (.string v.text)).setCell ⟨wr.heap.size,8,none⟩ (.slice A7 v.items.length c7')) k4
         #[.string (str t),.int .i64 ty.kind,.slice A5 ty.of.length c5',.bool true,.int .i64 v.kind,.int .i64 v.int,.float .f64 v.fl,.string v.text,.slice A7 v.items.length c7']:=
         ((((h7.store hw aL.out 4 _).store hw aL.out 5 _).store hw aL.out 6 _).store hw aL.out 7 _).store hw aL.out 8 _
        have aY:Touch (At wr.heap.size) w7 (((((w7.setCell ⟨wr.heap.size,4,none⟩ (.int .i64 v.kind)).setCell ⟨wr.heap.size,5,none⟩ (.int .i64 v.int)).setCell ⟨wr.heap.size,6,none⟩ (.float .f64 v.fl)).setCell ⟨wr.heap.size,7,none⟩ (.string v.text)).setCell ⟨wr.heap.size,8,none⟩ (.slice A7 v.items.length c7')):=
         (((((Touch.refl _ w7).set 4 _).set 5 _).set 6 _).set 7 _).set 8 _
        obtain ⟨W7,aQ⟩:∃ W7,W7=((((w7.setCell ⟨wr.heap.size,4,none⟩ (.int .i64 v.kind)).setCell ⟨wr.heap.size,5,none⟩ (.int .i64 v.int)).setCell ⟨wr.heap.size,6,none⟩ (.float .f64 v.fl)).setCell ⟨wr.heap.size,7,none⟩ (.string v.text)).setCell ⟨wr.heap.size,8,none⟩ (.slice A7 v.items.length c7'):=⟨_,rfl⟩
        rw [← aQ] at aP aY
        have aD:ColC W7 (fun b=>wr.heap.size≤b) (.string (str t)) (.int .i64 ty.kind) (.slice A5 ty.of.length c5') (.bool true) (.int .i64 v.kind) (.int .i64 v.int) (.float .f64 v.fl) (.string v.text) (.slice A7 v.items.length c7') ⟨str t,ty,true,v⟩:=
         ⟨rfl,rfl,rfl,rfl,rfl,rfl,rfl,(bM.touch aY fun b hb e=>by rw [At] at e;omega).mono fun b _ hb=>by omega,(av.touch aY fun b hb e=>by rw [At] at e;omega).mono fun b _ hb=>by omega⟩
        obtain ⟨s0,sz⟩:=cells1 h7.sc
        have us:=obj_lt h7.sc
        have cE:¬bs=wr.heap.size:=by omega
        have cW:¬wr.heap.size=bs:=by omega
        clear cq de bu h7 bM av aY bX b8 ca H5 cX
        have az:=aP.touch
        have aE:w7.heap.size=W7.heap.size:=by rw [aQ];simp
        have bi:=Hi aE
        clear aE
        have ag:=a3.out.own.keep (w':=W7) az (fun k hk h=>by have:=(a3.out.own.lt k hk).1;rw [At] at h;omega)
        have aC:=Hi ag
        have HE:Hid (Q=rCols l (n-cols.length-1) k4 (cols++[⟨str t,ty,true,v⟩])):=Hi (by rw [a3.out.res,rCols_ok (rCol_yes bh.out bH.out bY.out bJ.out cF.out HX.out ed.out) (by omega)])
        have H7:=Hi aP
        have be:=Hi aD
        have cY:=Hi aQ
        clear az ag aP aD aQ
        go_wp2_with (at_builtin
                     rw [← cY.out]
                     refine wpList_append_rows (bs+1) rfl _ _ 28 103 (.agg #[.string ⟨#[]⟩,.int .i64 0,.slice none 0 0,.bool false,.int .i64 0,.int .i64 0,.float .f64 0,.string ⟨#[]⟩,.slice none 0 0]) 9 120 rfl Tryz.underlying28 info_column rfl (by omega) (.slice Ar cols.length cr) cols.length xs rfl ?c0 (some ⟨w7.heap.size,0,none⟩) 1 1 [.string (str t),.int .i64 ty.kind,.slice A5 ty.of.length c5',.bool true,.int .i64 v.kind,.int .i64 v.int,.float .f64 v.fl,.string v.text,.slice A7 v.items.length c7'] ?cx ?c1 ?c2 ?c3 ?c4 ?c5 ?c6 ?_)
        case c0=>exact aC.out.below ((Keeps.refl W7).alloc _).below
        case cx=>rfl
        case c1=>rfl
        case c2=>exact RowAt.new_at W7 _ _ _ _ rfl _ bi.out
        case c3=>simp [Value.oneCell']
        case c4=>simp only [maxLen];omega
        case c5=>omega
        case c6=>have:=obj_lt H7.out.cc;simp;omega
        intro v8 w8 bl bg aB
        obtain ⟨A8,c8',rfl,_⟩:=bl.form
        have av:=(bg.block bs (by have:=obj_lt H7.out.sc;simp;omega) (fun e=>by have:=(aC.out.lt _ e.symm).1;omega)).trans (obj_old H7.out.sc _)
        obtain ⟨q0,qz⟩:=cells1 av
        have u8:=obj_lt av
        have ct:=Hi av
        have cG:=Hi bl
        have cD:=Hi bg
        have cZ:=Hi aB
        clear av bl bg aB
        go_wp2
        exact ⟨⟨cols.length+1,A8,c8',k4,cols++[⟨str t,ty,true,v⟩],_,by go_num,a3.out.step dn.out u1 ai hg HE.out be.out H7.out.rd H7.out.touch cG.out cD.out cZ.out ct.out⟩,by simp [intOf];omega⟩
      · have qx:((x:Int)==1)=false:=by simp;omega
        have aP:Rnd w g A c l bs (.slice Ar cols.length cr) wr (w6.setCell ⟨wr.heap.size,3,none⟩ (.bool false)) k3 #[.string (str t),.int .i64 ty.kind,.slice A5 ty.of.length c5',.bool false,.int .i64 0,.int .i64 0,.float .f64 0,.string ⟨#[]⟩,.slice none 0 0]:=h6.store hw aL.out 3 (.bool false)
        have aY:Touch (At wr.heap.size) w6 (w6.setCell ⟨wr.heap.size,3,none⟩ (.bool false)):=(Touch.refl _ w6).set 3 _
        obtain ⟨W7,aQ⟩:∃ W7,W7=w6.setCell ⟨wr.heap.size,3,none⟩ (.bool false):=⟨_,rfl⟩
        rw [← aQ] at aP aY
        have aD:ColC W7 (fun b=>wr.heap.size≤b) (.string (str t)) (.int .i64 ty.kind) (.slice A5 ty.of.length c5') (.bool false) (.int .i64 0) (.int .i64 0) (.float .f64 0) (.string ⟨#[]⟩) (.slice none 0 0) ⟨str t,ty,false,vaZero⟩:=
         ⟨rfl,rfl,rfl,rfl,rfl,rfl,rfl,(aM.touch aY fun b hb e=>by rw [At] at e;omega).mono fun b _ hb=>by omega,VaS.leaf _ _ _ _ _ _ _ _⟩
        have HX:=Hi hx
        obtain ⟨s0,sz⟩:=cells1 h6.sc
        have us:=obj_lt h6.sc
        have cE:¬bs=wr.heap.size:=by omega
        have cW:¬wr.heap.size=bs:=by omega
        clear cp bt h6 aM aY HC H5 cX hx
        have az:=aP.touch
        have aE:w6.heap.size=W7.heap.size:=by rw [aQ];simp
        have bi:=Hi aE
        clear aE
        have ag:=a3.out.own.keep (w':=W7) az (fun k hk h=>by have:=(a3.out.own.lt k hk).1;rw [At] at h;omega)
        have aC:=Hi ag
        have HE:Hid (Q=rCols l (n-cols.length-1) k3 (cols++[⟨str t,ty,false,vaZero⟩])):=Hi (by rw [a3.out.res,rCols_ok (rCol_no bh.out bH.out bY.out bJ.out cF.out HX.out) (by omega)])
        have H7:=Hi aP
        have be:=Hi aD
        have cY:=Hi aQ
        clear az ag aP aD aQ
        go_wp2_with (at_builtin
                     rw [← cY.out]
                     refine wpList_append_rows (bs+1) rfl _ _ 28 103 (.agg #[.string ⟨#[]⟩,.int .i64 0,.slice none 0 0,.bool false,.int .i64 0,.int .i64 0,.float .f64 0,.string ⟨#[]⟩,.slice none 0 0]) 9 120 rfl Tryz.underlying28 info_column rfl (by omega) (.slice Ar cols.length cr) cols.length xs rfl ?c0 (some ⟨w6.heap.size,0,none⟩) 1 1 [.string (str t),.int .i64 ty.kind,.slice A5 ty.of.length c5',.bool false,.int .i64 0,.int .i64 0,.float .f64 0,.string ⟨#[]⟩,.slice none 0 0] ?cx ?c1 ?c2 ?c3 ?c4 ?c5 ?c6 ?_)
        case c0=>exact aC.out.below ((Keeps.refl W7).alloc _).below
        case cx=>rfl
        case c1=>rfl
        case c2=>exact RowAt.new_at W7 _ _ _ _ rfl _ bi.out
        case c3=>simp [Value.oneCell']
        case c4=>simp only [maxLen];omega
        case c5=>omega
        case c6=>have:=obj_lt H7.out.cc;simp;omega
        intro v8 w8 bl bg aB
        obtain ⟨A8,c8',rfl,_⟩:=bl.form
        have av:=(bg.block bs (by have:=obj_lt H7.out.sc;simp;omega) (fun e=>by have:=(aC.out.lt _ e.symm).1;omega)).trans (obj_old H7.out.sc _)
        obtain ⟨q0,qz⟩:=cells1 av
        have u8:=obj_lt av
        have ct:=Hi av
        have cG:=Hi bl
        have cD:=Hi bg
        have cZ:=Hi aB
        clear av bl bg aB
        go_wp2
        exact ⟨⟨cols.length+1,A8,c8',k3,cols++[⟨str t,ty,false,vaZero⟩],_,by go_num,a3.out.step dn.out u1 ai hg HE.out be.out H7.out.rd H7.out.touch cG.out cD.out cZ.out ct.out⟩,by simp [intOf];omega⟩
    · have hj:j=n:=by have:=hrel.le;omega
      have a4:=hrel.res
      rw [hj,Nat.sub_self,rCols] at a4
      have a5:=hrel.rd.len
      obtain ⟨c0,c1,_⟩:=hrel.rd.cells
      obtain ⟨s0,_⟩:=cells1 hrel.sc
      obtain ⟨r0,rz⟩:=cells1 hrel.br
      have us:=obj_lt hrel.sc
      have ug:=obj_lt hrel.rd.obj
      have dl:=hrel.rd.within
      have aH:=hrel.sch d4
      have bz:=Hi hrel.free
      have d6:=hrel.len
      have a3:=Hi hrel
      have HJ:=Hi d6
      have bK:=Hi aH
      clear hrel aH d6 hj
      by_cases cf:a=l.length
      · have HE:Hid (R=.ok cols):=Hi (by rw [ab.out,a4];show (if a=l.length then _ else _)=_;rw [if_pos cf])
        have qa:((a:Int)==(l.length:Int))=true:=by simp;omega
        clear a4 cf ab
        generalize l.length=L at c0 a5 dl qa
        go_wp2_with fail
        go_quiet ((go_at_call 150;exact quiet_eq (must_okB _ _ _ _ (by first | assumption | (simp <;> omega)))))
        go_wp2
        refine bodyPost_ret (v:=.agg #[.slice Ar j cr]) (by simp [results,Tryz.results119,go_sem,us,r0,s0]) rfl ?_
        rw [HE.out]
        have ht:Touch (At w.heap.size) wr ((wr.drewN nq).setCell ⟨w.heap.size,0,none⟩ (.slice Ar j cr)):=((Touch.refl _ wr).drewN nq).set 0 _
        refine ⟨Ar,cr,by rw [HJ.out],(bK.out.touch ht (fun b hb e=>by rw [At] at e;omega)).mono fun b _ hb=>by omega,bz.out.touch bK.out ht (fun b hb e=>by rw [At] at e;omega),a3.out.touch.trans ht (fun b hb e=>by rw [At] at e;omega)⟩
      · have HE:Hid (R=.error 5):=Hi (by rw [ab.out,a4];show (if a=l.length then _ else _)=_;rw [if_neg cf])
        have qa:((a:Int)==(l.length:Int))=false:=by simp;omega
        clear a4 cf ab
        generalize l.length=L at c0 a5 dl qa
        go_wp2_with fail
        go_region_dies
        all_goals
         refine (must_noB _ _ _ _ (by first | assumption | (simp <;> omega))).mono ?_
         rintro e w2 ⟨rfl,rfl⟩
         go_wp2
         refine ⟨rfl, ?_⟩
         rw [HE.out]
         exact ⟨rfl,a3.out.touch.drew⟩
end
theorem rByte_nz {l:List UInt8} {a:Nat} {e:Int} (h:rByte l a=.error e):e≠0:=by
 unfold rByte at h
 split at h
 · cases h
 · injection h with h;omega
theorem rBit_nz {l:List UInt8} {a:Nat} {e:Int} (h:rBit l a=.error e):e≠0:=by have:=rBit_err h;omega
theorem rText_nz {most:Nat} {long:Int} {l:List UInt8} {a:Nat} {e:Int} (hl:long≠0) (h:rText most long l a=.error e):e≠0:=by
 unfold rText at h
 split at h
 · rename_i e1 hg
   injection h with h
   rw [← h]
   exact lebGet_err hg
 · split at h
   · split at h
     · cases h
     · injection h with h;omega
   · injection h with h;omega
theorem rFloat_nz {l:List UInt8} {a:Nat} {e:Int} (h:rFloat l a=.error e):e≠0:=by
 unfold rFloat at h
 split at h
 · split at h
   · cases h
   · injection h with h;omega
 · injection h with h;omega
theorem rKind_nz:∀ (n:Nat) (l:List UInt8) (a:Nat) (e:Int),rKind n l a=.error e→e≠0
 | 0,l,a,e,h=>by rw [rKind] at h;injection h with h;omega
 | n+1,l,a,e,h=>by
   rw [rKind] at h
   split at h
   · rename_i e1 hb
     injection h with h
     rw [← h];exact rByte_nz hb
   · split at h
     · injection h with h;omega
     · split at h
       · unfold rKindOf at h
         split at h
         · rename_i e1 hk
           injection h with h
           rw [← h];exact rKind_nz n _ _ _ hk
         · cases h
       · cases h
theorem rMany_nz {f:Nat→Except Int (Va×Nat)} (hf:∀ a e,f a=.error e→e≠0):∀ (n a:Nat) (vs:List Va) (e:Int),rMany f n a vs=.error e→e≠0
 | 0,a,vs,e,h=>by rw [rMany] at h;cases h
 | n+1,a,vs,e,h=>by
   rw [rMany] at h
   split at h
   · rename_i e1 hb
     injection h with h
     rw [← h];exact hf _ _ hb
   · exact rMany_nz hf n _ _ _ h
theorem rKinds_nz {k:Int} {f:Nat→Except Int (Va×Nat)} {l:List UInt8} {a:Nat} {e:Int} (hf:k=6∨k=7→∀ a e,f a=.error e→e≠0) (h:rKinds k f l a=.error e):e≠0:=by
 unfold rKinds at h
 split at h
 · split at h
   · rename_i e1 hb;injection h with h;rw [← h];exact rBit_nz hb
   · cases h
 split at h
 · split at h
   · rename_i e1 hb;injection h with h;rw [← h];exact lebGet_err hb
   · cases h
 split at h
 · split at h
   · rename_i e1 hb;injection h with h;rw [← h];exact rFloat_nz hb
   · cases h
 split at h
 · split at h
   · rename_i e1 hb;injection h with h;rw [← h];exact rText_nz (by omega) hb
   · split at h
     · cases h
     · injection h with h;omega
 split at h
 · split at h
   · rename_i e1 hb;injection h with h;rw [← h];exact rText_nz (by omega) hb
   · cases h
 split at h
 · rename_i h6
   split at h
   · rename_i e1 hb;injection h with h;rw [← h];exact rBit_nz hb
   · unfold rList at h
     split at h
     · rename_i e1 hb;injection h with h;rw [← h];exact rMany_nz (hf (.inl h6)) _ _ _ _ hb
     · cases h
 split at h
 · rename_i h7
   split at h
   · rename_i e1 hb;injection h with h;rw [← h];exact lebGet_err hb
   · split at h
     · unfold rList at h
       split at h
       · rename_i e1 hb;injection h with h;rw [← h];exact rMany_nz (hf (.inr h7)) _ _ _ _ hb
       · cases h
     · injection h with h;omega
 · cases h
theorem rValue_nz (n:Nat):∀ (t:Ty) (l:List UInt8) (a:Nat) (e:Int),SizeOf.sizeOf t<n→t.good=true→rValue t l a=.error e→e≠0:=by
 induction n with
 | zero=>intro t l a e hn;exact absurd hn (by omega)
 | succ n ih=>
   intro t l a e hn hg h
   cases t with
   | mk k ts=>
     rw [rValue] at h
     refine rKinds_nz (fun a9=>?_) h
     have a5:ts.length=1:=by
      simp only [Ty.good,Bool.and_eq_true,beq_iff_eq,decide_eq_decide] at hg
      exact hg.1.1.1 a9
     obtain ⟨t,rfl⟩:=List.length_eq_one_iff.1 a5
     have dR:t.good=true:=by
      simp only [Ty.good,Ty.goods,Bool.and_eq_true] at hg
      exact hg.2.1
     have cI:SizeOf.sizeOf t<n:=by
      simp only [Ty.mk.sizeOf_spec,List.cons.sizeOf_spec,List.nil.sizeOf_spec] at hn
      omega
     intro a e h
     rw [rHead] at h
     exact ih t l a e cI dR h
theorem rCol_nz {l:List UInt8} {cols:List Col} {a:Nat} {e:Int} (h:rCol l cols a=.error e):e≠0:=by
 unfold rCol at h
 split at h
 · rename_i e1 hb;injection h with h;rw [← h];exact rText_nz (by omega) hb
 · split at h
   · injection h with h;omega
   · split at h
     · injection h with h;omega
     · split at h
       · rename_i e1 hb;injection h with h;rw [← h];exact rKind_nz _ _ _ _ hb
       · rename_i ty k2 hk
         split at h
         · rename_i e1 hb;injection h with h;rw [← h];exact rBit_nz hb
         · split at h
           · split at h
             · rename_i e1 hb;injection h with h;rw [← h];exact rValue_nz _ _ _ _ _ (Nat.lt_succ_self _) (rKind_good _ _ _ _ _ hk) hb
             · cases h
           · cases h
theorem rCols_nz {l:List UInt8}:∀ (n a:Nat) (cols:List Col) (e:Int),rCols l n a cols=.error e→e≠0
 | 0,a,cols,e,h=>by rw [rCols] at h;cases h
 | n+1,a,cols,e,h=>by
   rw [rCols] at h
   split at h
   · rename_i e1 hb;injection h with h;rw [← h];exact rCol_nz hb
   · exact rCols_nz n _ _ _ h
theorem rSchema_nz {l:List UInt8} {a:Nat} {e:Int} (h:rSchema l a=.error e):e≠0:=by
 unfold rSchema at h
 split at h
 · rename_i e1 hb;injection h with h;rw [← h];exact lebGet_err hb
 · split at h
   · injection h with h;omega
   · split at h
     · injection h with h;omega
     · unfold rEnd at h
       split at h
       · rename_i e1 hb;injection h with h;rw [← h];exact rCols_nz _ _ _ _ hb
       · split at h
         · cases h
         · injection h with h;omega
section
open Go.RowKit Go.BigFrame
theorem catch_panicking (g:Nat) (x er:Int) (older:List PanicEntry) (w:World) (hc:w.cell? ⟨g,0,none⟩=some (.int .i64 x)) (hz:w.frozen? ⟨g,0,none⟩=false) :
 CallsD Tryz.prog 148 #[.pointer (some ⟨g,0,none⟩)] (.panicking ({ v:=.iface 193 (.agg #[.int .i64 er]),recovered:=false } :: older)) w fun e u' w'=>
  e=.returned (.tuple #[])∧u'=.panicking ({ v:=.iface 193 (.agg #[.int .i64 er]),recovered:=true } :: older)∧w'=(w.setCell ⟨g,0,none⟩ (.int .i64 er)).alloc (.cells #[.int .i64 er] 193):=by
 refine callsD_of_wpS Tryz.func148 rfl fun c₀ cs hu=>?_
 have en:∀ w:World,(Instr.typeAssert (.iface 193 (.agg #[.int .i64 er])) 20 193 true).run Tryz.prog w=.ok (.tuple #[.agg #[.int .i64 er],.bool true]) w:=fun w=>by
  unfold Instr.typeAssert
  simp [run_underlying Tryz.underlying193]
 have hp:g<w.heap.size:=World.block_lt_of_cell? w _ hc
 change Code.wpS _ _ _ { tmps:=#[.pointer (some ⟨g,0,none⟩),undef,undef,undef,undef,undef,undef,undef,undef,undef,undef,undef,undef,undef,undef,undef,undef],defers:=[] } _ _
 apply wpS_seq
 apply wpS_region
 simp [wpOpsS,go_sem,recoverD,hu,Tryz.ntmps148,Exit.thenS]
 refine wpS_of_wp ?_
 go_wp2
 simp [bodyPostS,results,Tryz.results148]
theorem catch_idle (p:Addr) (w:World) :
 CallsD Tryz.prog 148 #[.pointer (some p)] .returning w fun e u' w'=>e=.returned (.tuple #[])∧u'=.returning∧w'=w:=by
 refine callsD_of_wpS Tryz.func148 rfl fun c₀ cs hu=>?_
 change Code.wpS _ _ _ { tmps:=#[.pointer (some p),undef,undef,undef,undef,undef,undef,undef,undef,undef,undef,undef,undef,undef,undef,undef,undef],defers:=[] } _ _
 apply wpS_seq
 apply wpS_region
 simp [wpOpsS,go_sem,recoverD,hu,Tryz.ntmps148,Exit.thenS]
 refine wpS_of_wp ?_
 go_wp2
 cases c₀
 simp_all [bodyPostS,results,Tryz.results148]
theorem reads_ok (f:Nat) (caps:Array Value) (w:World) (P:World→Prop) (hf:∀ w,(callFunc f caps).run Tryz.prog w=.ok (.enter f caps) w)
 (hc:Calls Tryz.prog f caps (w.alloc (.cells #[.int .i64 0] 39)) fun e w'=>e=.returned (.tuple #[])∧w'.heap[w.heap.size]? = some (.cells #[.int .i64 0] 39)∧P w') :
 Calls Tryz.prog 117 #[.func (.func f) #[] caps] w fun e w'=>∃ w1,P w1∧e=.returned (.int .i64 0)∧w'=w1.setCell ⟨w.heap.size,0,none⟩ (.int .i64 0):=by
 have cu:∀ (fn:Fn) (first cap:Array Value) (w:World),(Instr.makeFunc fn first cap).run Tryz.prog w=.ok (.func fn first cap) w:=fun _ _ _ _=>rfl
 have HC:=Hi hc
 clear hc
 go_enter_defers Tryz.func117,Tryz.ntmps117
 go_wp2_with fail
 refine HC.out.mono ?_
 rintro e w1 ⟨rfl,hb,hP⟩
 have c0:w1.cell? ⟨w.heap.size,0,none⟩=some (.int .i64 0):=by rw [obj_cell hb];rfl
 have z0:=obj_frozen hb 0
 have u1:=obj_lt hb
 have HP:=Hi hP
 clear hP HC hb
 go_wp2
 refine leaves_cons (f:=148) (args:=#[.pointer (some ⟨w.heap.size,0,none⟩)]) (by simp) (by simp [go_sem]) ?_
 refine (catch_idle _ _).mono ?_
 rintro e u' w2 ⟨rfl,rfl,rfl⟩
 simp [Leaves,settle,results,Tryz.results117,go_sem,u1,c0,z0]
 exact ⟨w1,HP.out,rfl⟩
theorem reads_no (f:Nat) (caps:Array Value) (er:Int) (w:World) (P:World→Prop) (hf:∀ w,(callFunc f caps).run Tryz.prog w=.ok (.enter f caps) w)
 (hc:Calls Tryz.prog f caps (w.alloc (.cells #[.int .i64 0] 39)) fun e w'=>e=raised er∧w'.heap[w.heap.size]? = some (.cells #[.int .i64 0] 39)∧P w') :
 Calls Tryz.prog 117 #[.func (.func f) #[] caps] w fun e w'=>∃ w1,P w1∧e=.returned (.int .i64 er)∧w'=(w1.setCell ⟨w.heap.size,0,none⟩ (.int .i64 er)).alloc (.cells #[.int .i64 er] 193):=by
 have cu:∀ (fn:Fn) (first cap:Array Value) (w:World),(Instr.makeFunc fn first cap).run Tryz.prog w=.ok (.func fn first cap) w:=fun _ _ _ _=>rfl
 have HC:=Hi hc
 clear hc
 go_enter_defers Tryz.func117,Tryz.ntmps117
 go_wp2_with fail
 refine HC.out.mono ?_
 rintro e w1 ⟨rfl,hb,hP⟩
 have c0:w1.cell? ⟨w.heap.size,0,none⟩=some (.int .i64 0):=by rw [obj_cell hb];rfl
 have z0:=obj_frozen hb 0
 have u1:=obj_lt hb
 have HP:=Hi hP
 clear hP HC hb
 go_wp2
 refine leaves_cons (f:=148) (args:=#[.pointer (some ⟨w.heap.size,0,none⟩)]) (by simp) (by simp [go_sem]) ?_
 refine (catch_panicking w.heap.size 0 er _ _ c0 z0).mono ?_
 rintro e u' w2 ⟨rfl,rfl,rfl⟩
 simp [Leaves,settle,results,Tryz.results117,go_sem,u1,c0,z0]
 exact ⟨w1,HP.out,rfl⟩
def decodeS (l:List UInt8):Except Int (List Col):=if 1024<l.length then .error 2 else rSchema l 0
theorem decodeS_nz {l:List UInt8} {e:Int} (h:decodeS l=.error e):e≠0:=by
 unfold decodeS at h
 split at h
 · injection h with h;omega
 · exact rSchema_nz h
def DecPost (w:World) (r:Except Int (List Col)) (e:Ending) (w':World):Prop:=
 match r with
 | .error er=>e=.returned (.tuple #[.agg #[.slice none 0 0],.int .i64 er])∧Keeps w w'
 | .ok cols=>∃ A c,e=.returned (.tuple #[.agg #[.slice A cols.length c],.int .i64 0])∧SchS w' (fun b=>w.heap.size≤b) A cols∧Keeps w w'
def DecFree (w:World) (r:Except Int (List Col)) (e:Ending) (w':World):Prop:=
 match r with
 | .error er=>e=.returned (.tuple #[.agg #[.slice none 0 0],.int .i64 er])∧Keeps w w'
 | .ok cols=>∃ A c,e=.returned (.tuple #[.agg #[.slice A cols.length c],.int .i64 0])∧SchS w' (fun b=>w.heap.size≤b) A cols∧FreeC w' A cols∧Keeps w w'
def Dec1Post (w:World) (g sc:Nat) (r:Except Int (List Col)) (e:Ending) (w':World):Prop:=
 match r with
 | .error er=>e=raised er∧Touch (At g) w w'
 | .ok cols=>∃ A c,e=.returned (.tuple #[])∧SchS w' (fun b=>w.heap.size≤b) A cols∧FreeC w' A cols∧w'.heap[sc]? = some (.cells #[.slice A cols.length c] 30)∧Touch (fun b=>b=g∨b=sc) w w'
theorem decode1_calls (g rc sc:Nat) (A:Option Addr) (c:Nat) (l:List UInt8) (a:Nat) (w:World) (hr:RdAt w g A c l a) (ay:Tabs w) (cl:g≠3) (aa:g≠4)
 (el:w.cell? ⟨rc,0,none⟩=some (.pointer (some ⟨g,0,none⟩))) (dh:w.heap[sc]? = some (.cells #[.slice none 0 0] 30)) (cE:sc≠g) :
 Calls Tryz.prog 118 #[.pointer (some ⟨rc,0,none⟩),.pointer (some ⟨sc,0,none⟩)] w (Dec1Post w g sc (rSchema l a)):=by
 have hc:=schema_calls g A c l a w hr ay cl aa
 have bK:=Hi dh
 clear hr ay dh
 cases hq:rSchema l a with
 | error er=>
   rw [hq] at hc
   have HC:=Hi hc
   clear hc hq
   go_enter Tryz.func118,Tryz.ntmps118
   go_wp2_with fail
   refine HC.out.mono ?_
   rintro e w1 ⟨rfl,ht⟩
   go_wp2
   exact ⟨rfl,rfl,ht⟩
 | ok cols=>
   rw [hq] at hc
   have HC:=Hi hc
   clear hc hq
   go_enter Tryz.func118,Tryz.ntmps118
   go_wp2_with fail
   refine HC.out.mono ?_
   rintro e w1 ⟨A1,c1,rfl,hs,aK,ht⟩
   have cM:=ht.obj bK.out cE
   obtain ⟨d0,z0⟩:=cells1 cM
   have hl:=obj_lt bK.out
   have HS:=Hi hs
   have bz:=Hi aK
   have HT:=Hi ht
   have dI:=Hi cM
   clear hs aK ht cM HC
   go_wp2
   go_end0
   have aN:Touch (At sc) w1 (w1.setCell ⟨sc,0,none⟩ (.slice A1 cols.length c1)):=(Touch.refl _ w1).set 0 _
   exact ⟨A1,c1,rfl,HS.out.touch aN (fun b hb e=>by have aS:w.heap.size≤b:=hb;rw [At] at e;omega),bz.out.touch HS.out aN (fun b hb e=>by have aS:w.heap.size≤b:=hb;rw [At] at e;omega),obj_set dI.out 0 _,(HT.out.mono fun b _ h=>.inl h).trans aN fun b _ h=>.inr h⟩
theorem schDecode_free (A:Option Addr) (c:Nat) (l:List UInt8) (w:World) (hr:Reads w A l) (hl:l.length≤140737488355328) (ao:l.length≤c) (hc:c≤9223372036854775807) (ay:Tabs w) :
 Calls Tryz.prog 85 #[.slice A l.length c] w (DecFree w (decodeS l)):=by
 by_cases h1:1024<l.length
 · have e1:decodeS l=.error 2:=by unfold decodeS;rw [if_pos h1]
   rw [e1]
   clear e1 hr ay ao
   generalize l.length=L at h1 hl ⊢
   go_enter Tryz.func85,Tryz.ntmps85
   go_wp2
   exact bodyPost_ret (v:=.tuple #[.agg #[.slice none 0 0],.int .i64 2]) (by simp [results,Tryz.results85,go_sem]) rfl ⟨rfl,(Keeps.refl w).alloc _⟩
 · have e1:decodeS l=rSchema l 0:=by unfold decodeS;rw [if_neg h1]
   have cu:∀ (fn:Fn) (first cap:Array Value) (w:World),(Instr.makeFunc fn first cap).run Tryz.prog w=.ok (.func fn first cap) w:=fun _ _ _ _=>rfl
   have cO:=fun (args:Array Value) (wx:World)=>run_callFunc_body (P:=Tryz.prog) Tryz.func118 (by kernel_rfl) (by kernel_rfl) args wx
   obtain ⟨W,hW⟩:∃ W,W=(((w.alloc (.cells #[.slice none 0 0] 30)).alloc (.cells #[.slice A l.length c,.int .i64 0] 166)).alloc (.cells #[.pointer (some ⟨w.heap.size+1,0,none⟩)] 164)).alloc (.cells #[.slice none 0 0] 30):=⟨_,rfl⟩
   obtain ⟨W1,ap⟩:∃ W1,W1=W.alloc (.cells #[.int .i64 0] 39):=⟨_,rfl⟩
   have dk:W.heap.size=w.heap.size+4:=by rw [hW];simp
   have b5:Keeps w W:=by rw [hW];exact ((((Keeps.refl w).alloc _).alloc _).alloc _).alloc _
   have aU:Keeps w W1:=by rw [ap];exact b5.alloc _
   have b0:W1.heap[w.heap.size]? = some (.cells #[.slice none 0 0] 30):=by rw [ap,hW];exact obj_old (obj_old (obj_old (obj_old (obj_new w _) _) _) _) _
   have b1:W1.heap[w.heap.size+1]? = some (.cells #[.slice A l.length c,.int .i64 0] 166):=by rw [ap,hW];exact obj_old (obj_old (obj_old (obj_new_at _ _ _ (by simp)) _) _) _
   have b2:W1.heap[w.heap.size+1+1]? = some (.cells #[.pointer (some ⟨w.heap.size+1,0,none⟩)] 164):=by rw [ap,hW];exact obj_old (obj_old (obj_new_at _ _ _ (by simp)) _) _
   have b3:W1.heap[w.heap.size+1+1+1]? = some (.cells #[.slice none 0 0] 30):=by rw [ap,hW];exact obj_old (obj_new_at _ _ _ (by simp)) _
   have b4:W1.heap[W.heap.size]? = some (.cells #[.int .i64 0] 39):=by rw [ap];exact obj_new W _
   have dv:RdAt W1 (w.heap.size+1) A c l 0:=⟨b1,hr.below aU.below,fun b e hn=>by
    have hp:0<l.length:=List.length_pos_iff.2 hn
    obtain ⟨ad,e1,am⟩:=hr.out 0 hp
    rw [e] at e1
    cases e1
    have:=World.block_lt_of_cell? w _ am
    rw [addr_add_block] at this
    omega,hl,ao,hc,Nat.zero_le _⟩
   have ai:=ay.lt
   have a6:=decode1_calls (w.heap.size+1) (w.heap.size+1+1) (w.heap.size+1+1+1) A c l 0 W1 dv (ay.below aU.below) (by omega) (by omega) (cells1 b2).1 b3 (by omega)
   have aw:=Hi b0
   have dD:=Hi b4
   have HK:=Hi b5
   have aT:=Hi aU
   have bf:=Hi dk
   clear hr ay ao b0 b1 b2 b3 b4 b5 aU dv dk ai
   rw [e1]
   clear e1
   cases hq:rSchema l 0 with
   | error er=>
     have dB:=rSchema_nz hq
     rw [hq] at a6
     have q0:(er != 0)=true:=by simpa using dB
     have aV:=reads_no 118 #[.pointer (some ⟨w.heap.size+1+1,0,none⟩),.pointer (some ⟨w.heap.size+1+1+1,0,none⟩)] er W (fun w'=>Touch (At (w.heap.size+1)) W1 w') (fun wx=>cO _ wx) (by
      rw [← ap]
      exact a6.mono fun e w' h=>⟨h.1,h.2.obj dD.out (by have:=bf.out;rw [At];omega),h.2⟩)
     have bZ:=Hi aV
     have dY:=Hi ap
     clear a6 hq dB aV ap
     generalize l.length=L at hl h1 hW ⊢
     have hL:L≤1024:=by omega
     clear h1
     go_enter Tryz.func85,Tryz.ntmps85
     go_wp2_with fail
     rw [← hW]
     clear hW
     refine bZ.out.mono ?_
     rintro e w2 ⟨w1,ht,rfl,rfl⟩
     obtain ⟨W2,aA⟩:∃ W2,W2=(w1.setCell ⟨W.heap.size,0,none⟩ (.int .i64 er)).alloc (.cells #[.int .i64 er] 193):=⟨_,rfl⟩
     rw [← aA]
     have an:Touch (fun b=>w.heap.size<b) W1 W2:=by
      rw [aA]
      exact ((ht.mono fun b _ h=>by rw [At] at h;omega).setCell _ _ fun _=>by have:=bf.out;show w.heap.size<W.heap.size;omega).alloc _
     have al:=an.obj aw.out (by omega)
     obtain ⟨d0,z0⟩:=cells1 al
     have u2:=obj_lt al
     have aZ:=Hi an
     clear an al aA ht bZ
     go_wp2
     refine bodyPost_ret (v:=.tuple #[.agg #[.slice none 0 0],.int .i64 er]) (by simp [results,Tryz.results85,go_sem,u2,d0]) rfl ⟨rfl, ?_⟩
     exact Touch.nothing (((Touch.of_below (F:=fun b=>w.heap.size≤b) aT.out.below fun b _ h=>h).trans aZ.out fun b _ h=>by omega).setCell _ _ fun _=>Nat.le_refl _) fun b hb h=>by omega
   | ok cols=>
     rw [hq] at a6
     have aV:=reads_ok 118 #[.pointer (some ⟨w.heap.size+1+1,0,none⟩),.pointer (some ⟨w.heap.size+1+1+1,0,none⟩)] W (fun w'=>∃ A' c',SchS w' (fun b=>W1.heap.size≤b) A' cols∧FreeC w' A' cols∧w'.heap[w.heap.size+1+1+1]? = some (.cells #[.slice A' cols.length c'] 30)∧Touch (fun b=>b=w.heap.size+1∨b=w.heap.size+1+1+1) W1 w') (fun wx=>cO _ wx) (by
      rw [← ap]
      refine a6.mono fun e w' h=>?_
      obtain ⟨A',c',h1,h2,aK,h3,h4⟩:=h
      exact ⟨h1,h4.obj dD.out (by have:=bf.out;omega),A',c',h2,aK,h3,h4⟩)
     have bZ:=Hi aV
     have dY:=Hi ap
     have aR:=Hi (show W1.heap.size=W.heap.size+1 by rw [ap];simp)
     clear a6 hq aV ap
     generalize l.length=L at hl h1 hW ⊢
     have hL:L≤1024:=by omega
     clear h1
     go_enter Tryz.func85,Tryz.ntmps85
     go_wp2_with fail
     rw [← hW]
     clear hW
     refine bZ.out.mono ?_
     rintro e w2 ⟨w1,⟨A',c',hs,aK,dp,ht⟩,rfl,rfl⟩
     obtain ⟨W2,aA⟩:∃ W2,W2=w1.setCell ⟨W.heap.size,0,none⟩ (.int .i64 0):=⟨_,rfl⟩
     rw [← aA]
     have aG:Touch (At W.heap.size) w1 W2:=by rw [aA];exact (Touch.refl _ w1).set 0 _
     have an:Touch (fun b=>w.heap.size<b) W1 W2:=(ht.mono fun b _ h=>by omega).trans aG fun b _ h=>by have:=bf.out;rw [At] at h;omega
     have dw:=hs.touch aG (fun b hb e=>by have aS:W1.heap.size≤b:=hb;have:=aR.out;rw [At] at e;omega)
     have cH:=Hi (aK.touch hs aG (fun b hb e=>by have aS:W1.heap.size≤b:=hb;have:=aR.out;rw [At] at e;omega))
     have bp:=aG.obj dp (by have:=bf.out;rw [At];omega)
     have al:=an.obj aw.out (by omega)
     obtain ⟨d0,z0⟩:=cells1 al
     obtain ⟨e0,y0⟩:=cells1 bp
     have u2:=obj_lt al
     have u3:=obj_lt bp
     have aZ:=Hi an
     have dC:=Hi dw
     clear an al aA ht bZ hs aK dp aG dw bp
     go_wp2
     refine bodyPost_ret (v:=.tuple #[.agg #[.slice A' cols.length c'],.int .i64 0]) (by simp [results,Tryz.results85,go_sem,u2,u3,d0,e0]) rfl ⟨A',c',rfl, ?_, ?_, ?_⟩
     · have:=bf.out
       have:=aR.out
       exact (dC.out.touch ((Touch.refl (At w.heap.size) W2).set 0 _) (fun b hb e=>by have aS:W1.heap.size≤b:=hb;rw [At] at e;omega)).mono fun b _ hb=>by have aS:W1.heap.size≤b:=hb;omega
     · have:=bf.out
       have:=aR.out
       exact cH.out.touch dC.out ((Touch.refl (At w.heap.size) W2).set 0 _) (fun b hb e=>by have aS:W1.heap.size≤b:=hb;rw [At] at e;omega)
     · exact Touch.nothing (((Touch.of_below (F:=fun b=>w.heap.size≤b) aT.out.below fun b _ h=>h).trans aZ.out fun b _ h=>by omega).setCell _ _ fun _=>Nat.le_refl _) fun b hb h=>by omega
theorem schDecode_calls (A:Option Addr) (c:Nat) (l:List UInt8) (w:World) (hr:Reads w A l) (hl:l.length≤140737488355328) (ao:l.length≤c) (hc:c≤9223372036854775807) (ay:Tabs w) :
 Calls Tryz.prog 85 #[.slice A l.length c] w (DecPost w (decodeS l)):=
 (schDecode_free A c l w hr hl ao hc ay).mono fun e w' h=>by
   unfold DecFree at h
   unfold DecPost
   cases hd:decodeS l with
   | error er=>rw [hd] at h;exact h
   | ok cols=>
     rw [hd] at h
     obtain ⟨A',c',h1,h2,_,h3⟩:=h
     exact ⟨A',c',h1,h2,h3⟩
end
section
open Go.RowKit
structure Grows (w w':World) (base:Nat) (v v':Value) (l':List UInt8):Prop where
 own:OwnB 5 w' base v' l'
 touch:Touch (fun k=>v.ownBlock=some k) w w'
 spot:v'.ownBlock=v.ownBlock∨∀ k,v'.ownBlock=some k→w.heap.size≤k
theorem Grows.refl {w:World} {base:Nat} {v:Value} {l:List UInt8} (h:OwnB 5 w base v l):Grows w w base v v l:=⟨h,Touch.refl _ _,.inl rfl⟩
theorem Grows.trans {w w1 w2:World} {base:Nat} {v v1 v2:Value} {l1 l2:List UInt8} (h:Grows w w1 base v v1 l1) (k:Grows w1 w2 base v1 v2 l2):Grows w w2 base v v2 l2:=by
 refine ⟨k.own,h.touch.trans k.touch fun i hi e=>?_, ?_⟩
 · rcases h.spot with h1 | h1
   · rw [h1] at e;exact e
   · have:=h1 i e;omega
 · rcases k.spot with h2 | h2
   · rw [h2]
     exact h.spot
   · exact .inr fun i e=>Nat.le_trans h.touch.size (h2 i e)
theorem Grows.later {w w1 w2:World} {base:Nat} {v v1:Value} {l1:List UInt8} (h:Grows w w1 base v v1 l1) (k:Keeps w1 w2):Grows w w2 base v v1 l1:=⟨h.own.below k.below,h.touch.below k,h.spot⟩
theorem Grows.first {w w1 w2:World} {base:Nat} {v v1:Value} {l1:List UInt8} (k:Keeps w w1) (h:Grows w1 w2 base v v1 l1):Grows w w2 base v v1 l1:=
 ⟨h.own,(Touch.of_below (F:=fun i=>v.ownBlock=some i) k.below fun i hi hb=>absurd hi (by omega)).then h.touch,by
  rcases h.spot with h1 | h1
  · exact .inl h1
  · exact .inr fun i e=>Nat.le_trans k.size (h1 i e)⟩
theorem Grows.of {w w':World} {base:Nat} {v v':Value} {l':List UInt8} (h:OwnB 5 w' base v' l') (hg:w.grownBy w' v.ownBlock) (ha:v'.ownBlock=v.ownBlock∨v'.ownBlock=some w.heap.size):Grows w w' base v v' l':=
 ⟨h,Touch.of_grown hg fun _ e=>e,by
  rcases ha with ha | ha
  · exact .inl ha
  · exact .inr fun k e=>by rw [ha] at e;injection e with e;omega⟩
theorem Grows.keeps {w w':World} {base:Nat} {v v':Value} {l':List UInt8} (h:Grows w w' base v v' l') (hv:∀ k,v.ownBlock=some k→w.heap.size≤k):Keeps w w':=Touch.nothing h.touch fun k hk e=>by have:=hv k e;omega
theorem OwnB.ge {w:World} {e:TypeId} {base:Nat} {v:Value} {l:List UInt8} (h:OwnB e w base v l):∀ k,v.ownBlock=some k→base≤k:=own_base h
theorem info_u8b:(Tryz.prog.info? 5).map (fun i=>(i.zero,i.size,i.bytes))=some (some (.int .u8 0),1,1):=by kernel_rfl
theorem append_string_at {P:Program} (w:World) (base:Nat) (t u ty e:TypeId) (i:TypeInfo) (ht:P.underlying t=some (.slice e)) (hu:P.underlying u=some .string) (hi:P.info? e=some i) (hz:i.zero=some (.int .u8 0))
 (aJ:i.size=1) (dG:i.bytes=1) (v:Value) (n:Nat) (xs:List Value) (a2:w.ownsRow base e 1 v n xs) (s:ByteArray)
 (cL:n+s.size≤140737488355328) (v':Value) (w':World) (ac:(Builtin.append_ #[t,u] ty #[v,.string s]).run P w=.ok v' w') :
 v'.ownBlock=v.ownBlock∨v'.ownBlock=some w.heap.size:=by
 have ec:xs.length=n:=by simpa using a2.1
 rcases a2.2 with ⟨rfl,rfl⟩ | ⟨g,cap,cur,rfl,bN,hg,dO,ci,dT,dg⟩
 · by_cases hm:s.size=0
   · have hf:=Lib.run_firstCells_string (P:=P) w 1 s
     rw [hm] at hf
     have hn:Lib.strCells s=[]:=List.eq_nil_of_length_eq_zero (by rw [Lib.strCells_length];exact hm)
     have:(Builtin.append_ #[t,u] ty #[.slice none 0 0,.string s]).run P w=.ok (.slice none 0 0) w:=by
      simp [Builtin.append_,run_underlying ht,run_underlying hu,sizeOf,typeInfo,hi,aJ,Builtin.lenOf,hm,hf]
     rw [this] at ac
     injection ac with h1 _
     exact .inl (by rw [← h1])
   · have:=run_append_nil_string (P:=P) w t u ty e i (.int .u8 0) ht hu hi hz s (by omega) (by omega) (by rw [dG];omega)
     rw [this] at ac
     injection ac with h1 _
     exact .inr (by rw [← h1];rfl)
 · by_cases bP:n+s.size≤cap
   · have:=Lib.run_append_room_string (P:=P) w t u ty e i ht hu hi aJ g n cap cur hg s bP (by simp only [Nat.mul_one] at dT;omega)
     rw [this] at ac
     injection ac with h1 _
     exact .inl (by rw [← h1];rfl)
   · have:=Lib.run_append_grow_string (P:=P) w t u ty e i (.int .u8 0) ht hu hi hz ⟨g,0,none⟩ n cap xs (by rw [aJ];simpa using ec) (a2.cells (g:=g) rfl) s (by omega) (by omega) (by rw [dG];exact growslice_fits (by omega) (by omega))
     rw [this] at ac
     injection ac with h1 _
     exact .inr (by rw [← h1];rfl)
section
variable {P:Program} {ops:Array Oper} {rest:List Oper} {o:Oper} {a:Act} {Q:Exit→Act→World→Prop} {w:World}
theorem wpList_append_text (base:Nat) (dU:o.guard=none) (sl x:Operand) (t u e:TypeId)
 (ho:o.op=.call { callee:=.builtin .append,args:=#[sl,x],argTypes:=#[t,u] })
 (ht:P.underlying t=some (.slice e)) (hu:P.underlying u=some .string) (c9:(P.info? e).map (fun i=>(i.zero,i.size,i.bytes))=some (some (.int .u8 0),1,1))
 (v:Value) (l:List UInt8) (hs:a.eval sl=v) (a2:OwnB e w base v l) (s:ByteArray) (hx:a.eval x=.string s)
 (a5:l.length+s.size≤140737488355328) (ae:base≤w.heap.size)
 (h:∀ v' w',OwnB e w' base v' (l++s.data.toList)→w.grownBy w' v.ownBlock→(v'.ownBlock=v.ownBlock∨v'.ownBlock=some w.heap.size)→wpList P ops Q rest (a.put o.dst v') w'):wpList P ops Q (o :: rest) a w:=by
 obtain ⟨i0,hi,du⟩:=Option.map_eq_some_iff.1 c9
 simp only [Prod.mk.injEq] at du
 obtain ⟨ds,dx,df⟩:=du
 refine wpList_plain dU fun K hK=>?_
 obtain ⟨v',w',hr,h2,h3,_⟩:=Lib.run_append_own_string (P:=P) w base t u o.type e i0 ht hu hi ds dx df v l.length (u8s l) a2 s (by simp only [maxLen];omega) a5 ae
 have h4:=append_string_at (P:=P) w base t u o.type e i0 ht hu hi ds dx df v l.length (u8s l) a2 s a5 v' w' hr
 unfold Oper.wp execOp
 simp only [ho,resolve,invoke,builtin,Sem.run_bind,Sem.run_pure,Result.andThen_ok,List.map_toArray,List.map_cons,List.map_nil,hs,hx,hr]
 refine hK _ _ (h v' w' ?_ h3 h4)
 have e1:(l++s.data.toList).length=l.length+s.size:=by rw [List.length_append];rfl
 unfold OwnB
 rw [e1,u8s_append]
 exact h2
end
end
section
open Go.RowKit
def i64s (l:List Int):List Value:=l.map (Value.int .i64)
theorem i64s_length (l:List Int):(i64s l).length=l.length:=by simp [i64s]
theorem row_i64 {w:World} {A:Option Addr} {l:List Int} (h:RowAt w A (i64s l)) (k:Nat) (hk:k<l.length):∃ ad,A=some ad∧w.cell? (ad.add k)=some (.int .i64 (l[k]'hk)):=
 h k _ (by simp [i64s,hk])
def outOf (m n:Int):Bool:=decide (n<0)||decide (m≤n)
def idxOf:List Int→Int→Nat→Int
 | [],_,_=>-1
 | n :: l,m,i=>if outOf m n then (i:Int) else idxOf l m (i+1)
theorem idxOf_ge (l:List Int) (m:Int) (i:Nat):decide (0≤idxOf l m i)=l.any (outOf m):=by
 induction l generalizing i with
 | nil=>rfl
 | cons n l ih=>
   rw [idxOf,List.any_cons]
   cases outOf m n with
   | true=>simp
   | false=>simp only [Bool.false_eq_true,if_false,Bool.false_or];exact ih _
theorem limit_calls (p:Addr) (m n:Int) (w:World) (hp:w.cell? p=some (.int .i64 m)):Calls Tryz.prog 208 #[.int .i64 n,.pointer (some p)] w fun e w'=>e=.returned (.bool (outOf m n))∧Keeps w w':=by
 by_cases hn:n<0
 · have e:outOf m n=true:=by simp [outOf,hn]
   rw [e]
   go_enter Tryz.func208,Tryz.ntmps208
   go_wp2
   go_ret
   exact ⟨rfl,Keeps.refl w⟩
 · have e:outOf m n=decide (m≤n):=by simp [outOf,hn]
   rw [e]
   go_enter Tryz.func208,Tryz.ntmps208
   go_wp2
   go_ret
   exact ⟨rfl,Keeps.refl w⟩
theorem indexFunc_calls (p:Addr) (m:Int) (A:Option Addr) (c:Nat) (l:List Int) (w:World) (hl:l.length≤1000000) (hr:RowAt w A (i64s l)) (hp:w.cell? p=some (.int .i64 m)) :
 Calls Tryz.prog 115 #[.slice A l.length c,.func (.func 208) #[] #[.pointer (some p)]] w fun e w'=>e=.returned (.int .i64 (idxOf l m 0))∧Keeps w w':=by
 have cO:∀ (args:Array Value) (w:World),(callFunc 208 args).run Tryz.prog w=.ok (.enter 208 args) w:=run_callFunc_body Tryz.func208 (by kernel_rfl) (by kernel_rfl)
 have eb:=World.block_lt_of_cell? w _ hp
 obtain ⟨g,o,fld⟩:=p
 generalize hN:l.length=N at hl ⊢
 generalize hR:idxOf l m 0=R
 have HN:=Hi hN
 have HR:=Hi hR.symm
 have HA:=Hi hr
 have HP:=Hi hp
 clear hr hN hR hp
 go_enter Tryz.func115,Tryz.ntmps115
 go_wp2
 go_loopw [8] (fun i wr=>∃ k:Nat,k≤N∧i=.int .i64 (k:Int)∧R=idxOf (l.drop k) m k∧Keeps w wr) (fun i _=>N-(intOf i).toNat)
 case atStart=>exact ⟨0,by omega,rfl,HR.out,(Keeps.refl w)⟩
 case round=>
  obtain ⟨k,hk,rfl,a4,bT⟩:=hrel
  by_cases ai:k<N
  · have a8:k<l.length:=by rw [HN.out];exact ai
    obtain ⟨ad,rfl,am⟩:=row_i64 (HA.out.below bT.below) k a8
    have a6:=limit_calls ⟨g,o,fld⟩ m (l[k]'a8) wr ((bT.below.cell eb).trans HP.out)
    rw [List.drop_eq_getElem_cons a8,idxOf] at a4
    have HC:=Hi a6
    have aO:=Hi a4
    have dc:=Hi bT
    clear a6 a4 bT
    go_wp2_with fail
    refine HC.out.mono ?_
    rintro e w2 ⟨rfl,an⟩
    cases hb:outOf m (l[k]'a8) with
    | true=>
      have a4:=aO.out
      rw [hb,if_pos rfl] at a4
      have ab:=Hi a4
      clear a4
      have aZ:=Hi (dc.out.trans an)
      clear an
      go_wp2
      go_ret
      exact ⟨by rw [ab.out];rfl,aZ.out⟩
    | false=>
      have a4:=aO.out
      rw [hb] at a4
      simp only [Bool.false_eq_true,if_false] at a4
      have ab:=Hi a4
      clear a4
      have aZ:=Hi (dc.out.trans an)
      clear an
      go_wp2
      first
       | exact ⟨⟨k+1,by omega,by go_num,ab.out,aZ.out⟩,by simp [intOf];omega⟩
       | (go_roundw
          case rel=>exact ⟨k+1,by omega,by go_num,ab.out,aZ.out⟩
          case measure=>simp [intOf];omega)
  · have e:l.drop k=[]:=List.drop_eq_nil_of_le (by rw [HN.out];omega)
    rw [e,idxOf] at a4
    have aO:=Hi a4
    clear a4 e
    go_wp2
    go_ret
    exact ⟨by rw [aO.out];rfl,bT⟩
theorem beyond_calls (m:Int) (A:Option Addr) (c:Nat) (l:List Int) (w:World) (hl:l.length≤1000000) (hr:RowAt w A (i64s l)) :
 Calls Tryz.prog 207 #[.int .i64 m,.slice A l.length c] w fun e w'=>e=.returned (.bool (l.any (outOf m)))∧Keeps w w':=by
 have cu:∀ (fn:Fn) (first cap:Array Value) (w:World),(Instr.makeFunc fn first cap).run Tryz.prog w=.ok (.func fn first cap) w:=fun _ _ _ _=>rfl
 obtain ⟨W,hW⟩:∃ W,W=w.alloc (.cells #[.int .i64 m] 2):=⟨_,rfl⟩
 have b5:Keeps w W:=by rw [hW];exact (Keeps.refl w).alloc _
 have b0:W.heap[w.heap.size]? = some (.cells #[.int .i64 m] 2):=by rw [hW];exact obj_new w _
 have hc:=indexFunc_calls ⟨w.heap.size,0,none⟩ m A c l W hl (hr.below b5.below) (cells1 b0).1
 have cz:=idxOf_ge l m 0
 have dd:Calls Tryz.prog 80 #[.slice A l.length c,.func (.func 208) #[] #[.pointer (some ⟨w.heap.size,0,none⟩)]] W fun e w'=>e=.returned (.bool (l.any (outOf m)))∧Keeps W w':=by
  have HC:=Hi hc
  have HG:=Hi cz
  clear hc cz hW b5 b0 hr
  generalize l.length=N at HC ⊢
  generalize w.heap.size=z at HC ⊢
  generalize idxOf l m 0=R at HC HG
  generalize l.any (outOf m)=T at HG ⊢
  go_enter Tryz.func80,Tryz.ntmps80
  go_wp2_with fail
  refine HC.out.mono ?_
  rintro e w1 ⟨rfl,ar⟩
  go_wp2
  go_ret
  exact ⟨by rw [← HG.out];rfl,ar⟩
 have HC:=Hi dd
 have HK:=Hi b5
 clear hc dd cz b5 b0 hr
 generalize l.length=N at HC ⊢
 generalize l.any (outOf m)=T at HC ⊢
 go_enter Tryz.func207,Tryz.ntmps207
 go_wp2_with fail
 rw [← hW]
 clear hW
 refine HC.out.mono ?_
 rintro e w1 ⟨rfl,ar⟩
 go_wp2
 go_ret
 exact ⟨rfl,HK.out.trans ar⟩
def lebs (l:List Nat):List UInt8:=l.flatMap leb
def n64s (l:List Nat):List Value:=l.map fun n:Nat=>Value.int .i64 ((n:Nat):Int)
theorem row_n64 {w:World} {A:Option Addr} {l:List Nat} (h:RowAt w A (n64s l)) (k:Nat) (hk:k<l.length):∃ ad,A=some ad∧w.cell? (ad.add k)=some (.int .i64 ((l[k]'hk:Nat):Int)):=
 h k _ (by simp [n64s,hk])
theorem lebs_take (l:List Nat) (k:Nat) (hk:k<l.length):lebs (l.take (k+1))=lebs (l.take k)++leb (l[k]'hk):=by
 rw [List.take_add_one,List.getElem?_eq_getElem hk]
 show (l.take k++[l[k]'hk]).flatMap leb=_
 rw [List.flatMap_append,List.flatMap_singleton]
 rfl
theorem lebs_le (l:List Nat) (h:∀ n∈l,n<9223372036854775808):(lebs l).length≤10*l.length:=by
 induction l with
 | nil=>simp [lebs]
 | cons n l ih=>
   have h1:=leb_le n (by have:=h n (by simp);omega)
   have h2:=ih fun m hm=>h m (by simp [hm])
   simp only [lebs,List.flatMap_cons,List.length_append,List.length_cons] at h2 ⊢
   omega
theorem frPut_calls (base:Nat) (v:Value) (l:List UInt8) (B:Option Addr) (cb:Nat) (ns:List Nat) (w:World) (a2:OwnB 5 w base v l) (ae:base≤w.heap.size) (dq:∀ n∈ns,n<9223372036854775808)
 (hr:RowAt w B (n64s ns)) (dt:∀ a,B=some a→v.ownBlock≠some a.block) (a5:l.length+10*ns.length≤140737488355000) :
 Calls Tryz.prog 206 #[v,.slice B ns.length cb] w fun e w'=>∃ v',e=.returned v'∧Grows w w' base v v' (l++lebs ns):=by
 obtain ⟨A,c,rfl,ao,_⟩:=a2.form
 have cN:=Hi (Grows.refl a2)
 clear a2
 have HR:=Hi hr
 have di:=Hi dt
 have d9:=Hi dq
 clear hr dt dq
 generalize hL:l.length=L at a5 ao cN di ⊢
 generalize hN:ns.length=N at a5 ⊢
 have HL:=Hi hL
 have HN:=Hi hN
 clear hL hN
 go_enter Tryz.func206,Tryz.ntmps206
 go_wp2_with fail
 go_loopw [0,9] (fun b i wr=>∃ (k:Nat) (A':Option Addr) (c' M:Nat),k≤N∧i=.int .i64 (k:Int)∧b=.slice A' M c'∧Grows w wr base (.slice A L c) (.slice A' M c') (l++lebs (ns.take k))) (fun _ i _=>N-(intOf i).toNat)
 case atStart=>exact ⟨0,A,c,L,Nat.zero_le _,rfl,rfl,by simpa [lebs] using cN.out⟩
 case round=>
  obtain ⟨k,A',c',M,hk,rfl,rfl,hg⟩:=hrel
  by_cases ai:k<N
  · have a8:k<ns.length:=by rw [HN.out];exact ai
    have ej:=hg.touch.size
    obtain ⟨ad,rfl,am⟩:=row_n64 (hg.touch.row HR.out (fun a e _ hF=>di.out a e hF)) k a8
    have hn:=d9.out _ (List.getElem_mem a8)
    have hc:=lebPut_calls (ns[k]'a8) (by omega) wr
    have cC:=lebs_take ns k a8
    have cA:=lebs_le (ns.take k) fun n hm=>d9.out n (List.mem_of_mem_take hm)
    have cR:=leb_le (ns[k]'a8) (by omega)
    have cy:(ns.take k).length=k:=by rw [List.length_take];omega
    rw [cy] at cA
    generalize ns[k]'a8=n at am hn hc cC cR
    have ev:IntKind.u64.wrap ((n:Nat):Int)=(n:Int):=IntWalk.u64_in _ (by omega)
    have HC:=Hi hc
    have d5:=Hi cC
    have HG:=Hi hg
    have e6:=Hi cA
    have ch:=Hi cR
    clear hc cC hg a8 cA cR cy cN
    go_wp2_with fail
    refine HC.out.mono ?_
    rintro e w1 ⟨v1,rfl,af,ar⟩
    obtain ⟨A1,c1,rfl,bq,au,_,_⟩:=af.form
    have cn:=Hi au
    have aT:=Hi ar
    clear af au ar HC
    have hM:M=(l++lebs (ns.take k)).length:=by
     obtain ⟨_,_,e,_⟩:=HG.out.own.form
     injection e
    have HM:=Hi hM
    clear hM
    generalize hm:(leb n).length=mm at bq
    have dJ:=Hi hm
    clear hm
    go_wp2_with (at_builtin;refine wpList_append_bytes (w0:=w1) base rfl _ _ 31 5 rfl Tryz.underlying31 info_u8b (.slice A' M c') (l++lebs (ns.take k)) (leb n) rfl ?c0 A1 c1 (by rw [dJ.out];rfl) cn.out ?c2 ?c3 ?c4 ?_)
    case c0=>exact HG.out.own.below aT.out.below
    case c2=>have:=e6.out;have:=ch.out;have:=HL.out;rw [List.length_append];omega
    case c3=>have:=aT.out.size;omega
    case c4=>exact Below.refl _ _
    intro v2 w2 a1 _ aa ah
    have aI:=HG.out.trans (Grows.first aT.out (Grows.of a1 aa ah))
    first | rw [List.append_assoc,← d5.out] at aI | rw [← d5.out] at aI
    obtain ⟨A2,c2,e2,aj,_⟩:=aI.own.form
    generalize (l++lebs (ns.take (k+1))).length=M2 at e2 aj
    subst e2
    have bB:=Hi aI
    clear a1 aa ah aI HG
    go_wp2
    first
     | exact ⟨⟨k+1,A2,c2,M2,by omega,by go_num,rfl,bB.out⟩,by simp [intOf];omega⟩
     | (go_roundw
        case rel=>exact ⟨k+1,A2,c2,M2,by omega,by go_num,rfl,bB.out⟩
        case measure=>simp [intOf];omega)
  · have e8:ns.take k=ns:=List.take_of_length_le (by rw [HN.out];omega)
    rw [e8] at hg
    have ea:=Hi hg
    clear hg e8
    go_wp2
    go_ret
    exact ⟨_,rfl,ea.out⟩
def textBytes (s:ByteArray):List UInt8:=leb s.size++s.data.toList
theorem putText_calls (base:Nat) (v:Value) (l:List UInt8) (s:ByteArray) (w:World) (a2:OwnB 5 w base v l) (ae:base≤w.heap.size) (a5:l.length+s.size≤140737488355000) :
 Calls Tryz.prog 135 #[v,.string s] w fun e w'=>∃ v',e=.returned v'∧Grows w w' base v v' (l++textBytes s):=by
 have bU:s.size<18446744073709551616:=by omega
 have bO:=leb_le s.size bU
 have hc:=lebPut_calls s.size bU w
 obtain ⟨A,c,rfl,ao,_,ci,_⟩:=a2.form
 have HO:=Hi a2
 have HC:=Hi hc
 have ch:=Hi bO
 clear a2 hc bO
 generalize hL:l.length=L at a5 HO ao
 have HL:=Hi hL
 clear hL
 go_enter Tryz.func135,Tryz.ntmps135
 go_wp2_with fail
 refine HC.out.mono ?_
 rintro e w1 ⟨v1,rfl,af,ar⟩
 obtain ⟨A1,c1,rfl,bq,au,_,_⟩:=af.form
 have cn:=Hi au
 have aT:=Hi ar
 have dZ:=Hi (HO.out.below ar)
 clear af au ar HC
 generalize hm:(leb s.size).length=m at bq
 have HM:=Hi hm
 clear hm
 go_wp2_with (at_builtin;refine wpList_append_bytes (w0:=w1) base rfl _ _ 31 5 rfl Tryz.underlying31 info_u8b (.slice A L c) l (leb s.size) rfl ?c0 A1 c1 (by rw [HM.out];rfl) cn.out ?c2 ?c3 ?c4 ?_)
 case c0=>exact dZ.out
 case c2=>have:=HL.out;have:=ch.out;omega
 case c3=>have:=aT.out.size;omega
 case c4=>exact Below.refl _ _
 intro v2 w2 a1 _ aa ah
 obtain ⟨A2,c2,rfl,aj,_,_,_⟩:=a1.form
 have b9:=Hi a1
 have bc:Hid (Grows w w2 base (.slice A L c) (.slice A2 (l++leb s.size).length c2) (l++leb s.size)):=Hi (Grows.first aT.out (Grows.of a1 aa ah))
 clear a1 aa ah
 generalize dz:(l++leb s.size).length=L2 at aj b9 bc
 have eu:=Hi dz
 clear dz
 go_wp2_with (at_builtin;refine wpList_append_text base rfl _ _ 31 9 5 rfl Tryz.underlying31 Tryz.underlying9 info_u8b (.slice A2 L2 c2) (l++leb s.size) rfl ?d0 s rfl ?d1 ?d2 ?_)
 case d0=>exact b9.out
 case d1=>have:=HL.out;have:=ch.out;rw [List.length_append];omega
 case d2=>have:=bc.out.touch.size;omega
 intro v3 w3 b6 aI d7
 have bB:=Hi (Grows.of b6 aI d7)
 clear b6 aI d7
 go_wp2
 go_ret
 have:=bc.out.trans bB.out
 exact ⟨v3,rfl,by unfold textBytes;first | exact this | (rw [← List.append_assoc];exact this)⟩
theorem putBit_calls (base:Nat) (v:Value) (l:List UInt8) (b:Bool) (w:World) (a2:OwnB 5 w base v l) (ae:base≤w.heap.size) (a5:l.length≤140737488355000) :
 Calls Tryz.prog 137 #[v,.bool b] w fun e w'=>∃ v',e=.returned v'∧Grows w w' base v v' (l++[if b then 1 else 0]):=by
 obtain ⟨A,c,rfl,ao,_,ci,_⟩:=a2.form
 have HO:=Hi a2
 clear a2
 generalize hL:l.length=L at a5 HO ao
 have HL:=Hi hL
 clear hL
 cases b with
 | true=>
   go_enter Tryz.func137,Tryz.ntmps137
   go_wp2_with (at_builtin;refine wpList_append_bytes (w0:=w.alloc (.cells #[.int .u8 1] 5)) base rfl _ _ 31 5 rfl Tryz.underlying31 info_u8b (.slice A L c) l [1] rfl ?c0 (some ⟨w.heap.size,0,none⟩) 1 rfl ?c1 ?c2 ?c3 ?c4 ?_)
   case c0=>exact HO.out.below ((Keeps.refl w).alloc _).below
   case c1=>exact Reads.new w [1] _ _ _ rfl
   case c2=>have:=HL.out;simp;omega
   case c3=>simp;omega
   case c4=>exact Below.refl _ _
   intro v2 w2 a1 _ aa ah
   have bc:=Hi (Grows.first ((Keeps.refl w).alloc _) (Grows.of a1 aa (by simpa using ah)))
   clear a1 aa ah
   go_wp2
   go_ret
   exact ⟨_,rfl,bc.out⟩
 | false=>
   go_enter Tryz.func137,Tryz.ntmps137
   go_wp2_with (at_builtin;refine wpList_append_bytes (w0:=w.alloc (.cells #[.int .u8 0] 5)) base rfl _ _ 31 5 rfl Tryz.underlying31 info_u8b (.slice A L c) l [0] rfl ?c0 (some ⟨w.heap.size,0,none⟩) 1 rfl ?c1 ?c2 ?c3 ?c4 ?_)
   case c0=>exact HO.out.below ((Keeps.refl w).alloc _).below
   case c1=>exact Reads.new w [0] _ _ _ rfl
   case c2=>have:=HL.out;simp;omega
   case c3=>simp;omega
   case c4=>exact Below.refl _ _
   intro v2 w2 a1 _ aa ah
   have bc:=Hi (Grows.first ((Keeps.refl w).alloc _) (Grows.of a1 aa (by simpa using ah)))
   clear a1 aa ah
   go_wp2
   go_ret
   exact ⟨_,rfl,bc.out⟩
theorem xor_u64 (a b:Nat) (ha:a<18446744073709551616) (hb:b<18446744073709551616):bits BinOp.xor IntKind.u64 (a:Int) (b:Int)=((a ^^^ b:Nat):Int):=by
 show IntKind.u64.wrap ((BitVec.ofInt 64 (a:Int) ^^^ BitVec.ofInt 64 (b:Int)).toNat:Int)=_
 have e:(BitVec.ofInt 64 (a:Int) ^^^ BitVec.ofInt 64 (b:Int)).toNat=a ^^^ b:=by
  simp only [BitVec.ofInt_natCast,BitVec.toNat_xor,BitVec.toNat_ofNat]
  rw [Nat.mod_eq_of_lt ha,Nat.mod_eq_of_lt hb]
 have ai:a ^^^ b<2 ^ 64:=Nat.xor_lt_two_pow (by simpa using ha) (by simpa using hb)
 rw [e,IntWalk.u64_in _ (by omega)]
theorem xor_ones (a:Nat) (ha:a<18446744073709551616):a ^^^ 18446744073709551615=18446744073709551615-a:=by
 have:(BitVec.ofNat 64 a ^^^ BitVec.allOnes 64).toNat=18446744073709551615-a:=by
  rw [BitVec.xor_allOnes,BitVec.toNat_not,BitVec.toNat_ofNat,Nat.mod_eq_of_lt (by omega)]
 rw [BitVec.toNat_xor,BitVec.toNat_ofNat,Nat.mod_eq_of_lt (by omega),BitVec.toNat_allOnes] at this
 exact this
theorem zig_calls (n:Int) (h1:-9223372036854775808≤n) (h2:n≤9223372036854775807) (w:World):Calls Tryz.prog 167 #[.int .i64 n] w fun e w'=>e=.returned (.int .u64 ((zig n:Nat):Int))∧w=w':=by
 by_cases h0:0≤n
 · have hz:zig n=2*n.toNat:=by unfold zig;rw [if_pos h0]
   have HZ:=Hi hz
   clear hz
   obtain ⟨m,hm⟩:∃ m:Nat,m=n.toNat:=⟨_,rfl⟩
   obtain rfl:n=(m:Int):=by omega
   have hx:=xor_u64 (2*m) 0 (by omega) (by omega)
   rw [Nat.xor_zero] at hx
   have e1:IntKind.u64.wrap (m:Int)=(m:Int):=IntWalk.u64_in _ (by omega)
   have e2:IntKind.u64.wrap ((m:Int)*2)=((2*m:Nat):Int):=by rw [IntWalk.u64_in _ (by omega)];omega
   have e3:(m:Int) / 9223372036854775808=0:=by omega
   have e4:bits BinOp.xor IntKind.u64 (2*(m:Int)) 0=2*(m:Int):=by
    have:=hx
    rw [show ((2*m:Nat):Int)=2*(m:Int) by omega] at this
    exact this
   clear hm hx
   go_enter Tryz.func167,Tryz.ntmps167
   go_wp2
   go_ret
   exact ⟨by rw [HZ.out];show Ending.returned (.int .u64 (2*(m:Int)))=_;congr 2 <;> omega,rfl⟩
 · have hz:zig n=2*(-(n+1)).toNat+1:=by unfold zig;rw [if_neg h0]
   have HZ:=Hi hz
   clear hz
   obtain ⟨m,hm⟩:∃ m:Nat,m=(-(n+1)).toNat:=⟨_,rfl⟩
   have db:n = -(m:Int)-1:=by omega
   have hx:=xor_u64 (18446744073709551614-2*m) 18446744073709551615 (by omega) (by omega)
   rw [xor_ones _ (by omega)] at hx
   have HM:=Hi db
   have e1:IntKind.u64.wrap n=n+18446744073709551616:=by
    simp only [IntKind.wrap,IntKind.bits,IntKind.signed];simp;omega
   have e3:n / 9223372036854775808 = -1:=by omega
   have HX:=Hi hx
   clear hm db hx
   go_enter Tryz.func167,Tryz.ntmps167
   go_wp2
   go_ret
   have f1:IntKind.u64.wrap ((n+18446744073709551616)*2)=((18446744073709551614-2*m:Nat):Int):=by
    have:=HM.out
    simp only [IntKind.wrap,IntKind.bits,IntKind.signed];simp;omega
   have f2:IntKind.u64.wrap (-1)=((18446744073709551615:Nat):Int):=by decide
   refine ⟨?_,rfl⟩
   show Ending.returned (.int .u64 (bits BinOp.xor IntKind.u64 (IntKind.u64.wrap ((n+18446744073709551616)*2)) (IntKind.u64.wrap (-1))))=_
   rw [f1,f2,HX.out,HZ.out]
   congr 2
   have:=HM.out
   omega
end
section
open Go.RowKit Go.BigFrame
mutual
def tyCheck:Ty→Nat→Int
 | .mk k ts,d=>if 4<d then 62 else if k<1∨7<k then 60 else if k=6∨k=7 then (if ts.length=1 then tyHead ts (d+1) else 60) else if ts.length=0 then 0 else 60
def tyHead:List Ty→Nat→Int
 | [],_=>0
 | t :: _,d=>tyCheck t d
end
mutual
def putTy:Ty→List UInt8
 | .mk k ts=>UInt8.ofNat k.toNat :: if k=6∨k=7 then putTyHead ts else []
def putTyHead:List Ty→List UInt8
 | []=>[]
 | t :: _=>putTy t
end
theorem tyCheck_ok {k:Int} {ts:List Ty} {d:Nat} (h:tyCheck (.mk k ts) d=0):d≤4∧1≤k∧k≤7∧((k=6∨k=7)→∃ t,ts=[t]∧tyCheck t (d+1)=0)∧(¬(k=6∨k=7)→ts=[]):=by
 rw [tyCheck] at h
 split at h
 · omega
 split at h
 · omega
 refine ⟨by omega,by omega,by omega,fun a9=>?_,fun a9=>?_⟩
 · rw [if_pos a9] at h
   split at h
   · rename_i hl
     obtain ⟨t,rfl⟩:=List.length_eq_one_iff.1 hl
     rw [tyHead] at h
     exact ⟨t,rfl,h⟩
   · omega
 · rw [if_neg a9] at h
   split at h
   · rename_i hl;exact List.eq_nil_of_length_eq_zero hl
   · omega
theorem putTy_length:∀ (n:Nat) (t:Ty) (d:Nat),n+d=5→tyCheck t d=0→(putTy t).length≤n
 | 0,.mk k ts,d,hd,h=>by have:=(tyCheck_ok h).1;omega
 | n+1,.mk k ts,d,hd,h=>by
   obtain ⟨_,_,_,a9,_⟩:=tyCheck_ok h
   rw [putTy]
   by_cases hk:k=6∨k=7
   · obtain ⟨t,rfl,ht⟩:=a9 hk
     rw [if_pos hk,putTyHead,List.length_cons]
     have:=putTy_length n t (d+1) (by omega) ht
     omega
   · rw [if_neg hk];simp
theorem nested_yes (k:Int) (h:k=6∨k=7) (w:World):Calls Tryz.prog 162 #[.int .i64 k] w fun e w'=>e=.returned (.bool true)∧w=w':=by
 have e:(decide (k=6)||decide (k=7))=true:=by simpa using h
 rw [← e];exact nested_calls k w
theorem nested_no (k:Int) (h:¬(k=6∨k=7)) (w:World):Calls Tryz.prog 162 #[.int .i64 k] w fun e w'=>e=.returned (.bool false)∧w=w':=by
 have e:(decide (k=6)||decide (k=7))=false:=by simp;omega
 rw [← e];exact nested_calls k w
theorem checkType_calls (n:Nat):∀ (t:Ty) (d:Nat) (v:Value) (w:World),SizeOf.sizeOf t<n→d≤5→TyAt w v t →
 Calls Tryz.prog 130 #[v,.int .i64 (d:Int)] w fun e w'=>e=.returned (.int .i64 (tyCheck t d))∧Keeps w w':=by
 induction n with
 | zero=>intro t d v w hn;exact absurd hn (by omega)
 | succ n ih=>
   intro t d v w hn hd ht
   cases t with
   | mk k ts=>
     obtain ⟨A,c,rfl⟩:=ht.form
     show Calls _ _ #[.agg #[.int .i64 k,.slice A ts.length c],_] _ _
     change TyAt w (.agg #[.int .i64 k,.slice A ts.length c]) _ at ht
     by_cases h4:4<d
     · have he:tyCheck (.mk k ts) d=62:=by rw [tyCheck,if_pos h4]
       rw [he]
       clear he ih ht hn
       generalize ts.length=L
       go_enter Tryz.func130,Tryz.ntmps130
       go_wp2
       go_ret
       exact ⟨rfl,(Keeps.refl w).alloc _⟩
     have es:d≤4:=by omega
     by_cases ax:k<1∨7<k
     · have he:tyCheck (.mk k ts) d=60:=by rw [tyCheck,if_neg h4,if_pos ax]
       rw [he]
       clear he ih ht hn h4
       generalize ts.length=L
       rcases ax with ax | ax
       all_goals
        go_enter Tryz.func130,Tryz.ntmps130
        go_wp2
        go_ret
        exact ⟨rfl,(Keeps.refl w).alloc _⟩
     · have ar:1≤k:=by omega
       have dN:k≤7:=by omega
       by_cases a9:k=6∨k=7
       · have HY:=Hi (nested_yes k a9)
         by_cases hl:ts.length=1
         · obtain ⟨t,rfl⟩:=List.length_eq_one_iff.1 hl
           have he:tyCheck (.mk k [t]) d=tyCheck t (d+1):=by rw [tyCheck,if_neg h4,if_neg ax,if_pos a9,if_pos hl,tyHead]
           rw [he]
           change TyAt w (.agg #[.int .i64 k,.slice A 1 c]) _ at ht
           change Calls _ _ #[.agg #[.int .i64 k,.slice A 1 c],_] _ _
           have cI:SizeOf.sizeOf t<n:=by
            simp only [Ty.mk.sizeOf_spec,List.cons.sizeOf_spec,List.nil.sizeOf_spec] at hn
            omega
           obtain ⟨W0,a7⟩:∃ W0,W0=w.alloc (.cells #[.int .i64 k,.slice A 1 c] 97):=⟨_,rfl⟩
           have aq:Keeps w W0:=by rw [a7];exact (Keeps.refl w).alloc _
           obtain ⟨ad,k',s',rfl,ai,c0,c1,ak⟩:=(TyS.of_at ht).elem
           obtain ⟨A2,c2,n2,rfl⟩:∃ A2 c2 n2,s'=Value.slice A2 n2 c2:=by
            obtain ⟨A2,c2,e⟩:=ak.form
            simp only [Value.agg.injEq,Array.mk.injEq,List.cons.injEq] at e
            exact ⟨A2,c2,_,e.2.1⟩
           have hc:=ih t (d+1) _ W0 cI (by omega) (ak.later aq.below).at
           rw [show (((d+1:Nat):Int))=(d:Int)+1 by omega,a7] at hc
           have HC:=Hi hc
           have bI:=Hi aq
           have aF:=Hi a7
           clear he ih ht hn h4 ax hl aq a7 ak hc a9
           go_enter Tryz.func130,Tryz.ntmps130
           go_wp2_with (first | (go_at_call 162;refine (HY.out _).mono ?_;rintro e w2 ⟨rfl,rfl⟩) | (go_at_call 130;refine HC.out.mono ?_;rintro e w2 ⟨rfl,an⟩))
           go_ret
           exact ⟨rfl,bI.out.trans (aF.out▸an)⟩
         · have he:tyCheck (.mk k ts) d=60:=by rw [tyCheck,if_neg h4,if_neg ax,if_pos a9,if_neg hl]
           rw [he]
           have q1:((ts.length:Int) != 1)=true:=by rw [bne_iff_ne];omega
           clear he ih ht hn h4 ax hl a9
           generalize ts.length=L at q1 ⊢
           go_enter Tryz.func130,Tryz.ntmps130
           go_wp2_with (go_at_call 162;refine (HY.out _).mono ?_;rintro e w2 ⟨rfl,rfl⟩)
           go_ret
           exact ⟨rfl,(Keeps.refl w).alloc _⟩
       · have HY:=Hi (nested_no k a9)
         by_cases hl:ts.length=0
         · have he:tyCheck (.mk k ts) d=0:=by rw [tyCheck,if_neg h4,if_neg ax,if_neg a9,if_pos hl]
           rw [he,hl]
           clear he ih ht hn h4 ax hl a9
           go_enter Tryz.func130,Tryz.ntmps130
           go_wp2_with (go_at_call 162;refine (HY.out _).mono ?_;rintro e w2 ⟨rfl,rfl⟩)
           go_ret
           exact ⟨rfl,(Keeps.refl w).alloc _⟩
         · have he:tyCheck (.mk k ts) d=60:=by rw [tyCheck,if_neg h4,if_neg ax,if_neg a9,if_neg hl]
           rw [he]
           have q1:((ts.length:Int) != 0)=true:=by rw [bne_iff_ne];omega
           clear he ih ht hn h4 ax hl a9
           generalize ts.length=L at q1 ⊢
           go_enter Tryz.func130,Tryz.ntmps130
           go_wp2_with (go_at_call 162;refine (HY.out _).mono ?_;rintro e w2 ⟨rfl,rfl⟩)
           go_ret
           exact ⟨rfl,(Keeps.refl w).alloc _⟩
theorem checkTypeTop_calls (t:Ty) (v:Value) (w:World) (ht:TyAt w v t) :
 Calls Tryz.prog 100 #[v] w fun e w'=>e=.returned (.int .i64 (tyCheck t 1))∧Keeps w w':=by
 obtain ⟨A,c,rfl⟩:=ht.form
 obtain ⟨W0,a7⟩:∃ W0,W0=w.alloc (.cells #[.int .i64 t.kind,.slice A t.of.length c] 97):=⟨_,rfl⟩
 have aq:Keeps w W0:=by rw [a7];exact (Keeps.refl w).alloc _
 have HC:Hid (Calls Tryz.prog 130 #[.agg #[.int .i64 t.kind,.slice A t.of.length c],.int .i64 1] W0 fun e w'=>e=.returned (.int .i64 (tyCheck t 1))∧Keeps W0 w'):=Hi (checkType_calls (SizeOf.sizeOf t+1) t 1 _ W0 (by omega) (by omega) (ht.later aq.below))
 have bI:=Hi aq
 clear ht aq
 go_enter Tryz.func100,Tryz.ntmps100
 go_wp2_with fail
 rw [← a7]
 clear a7
 refine HC.out.mono ?_
 rintro e w2 ⟨rfl,hk⟩
 go_wp2
 go_ret
 exact ⟨rfl,bI.out.trans hk⟩
theorem u8_of (k:Int) (h1:0≤k) (h2:k≤255):(((UInt8.ofNat k.toNat).toNat:Nat):Int)=k:=by simp;omega
theorem putType_calls (n:Nat):∀ (t:Ty) (d base:Nat) (v tv:Value) (l:List UInt8) (w:World),n+d=5→tyCheck t d=0→TyS w (fun k=>k<base) tv t→OwnB 5 w base v l→base≤w.heap.size→l.length+n≤140737488355000 →
 Calls Tryz.prog 136 #[v,tv] w fun e w'=>∃ v',e=.returned v'∧Grows w w' base v v' (l++putTy t):=by
 induction n with
 | zero=>intro t d base v tv l w hd h;cases t;have:=(tyCheck_ok h).1;omega
 | succ n ih=>
   intro t d base v tv l w hd cS ht a2 ae a5
   cases t with
   | mk k ts=>
     obtain ⟨_,ar,dN,a9,dy⟩:=tyCheck_ok cS
     obtain ⟨B,cB,rfl⟩:=ht.form
     obtain ⟨A,c,rfl,ao,_,ci,_⟩:=a2.form
     change TyS w _ (.agg #[.int .i64 k,.slice B ts.length cB]) _ at ht
     change Calls _ _ #[_,.agg #[.int .i64 k,.slice B ts.length cB]] _ _
     obtain ⟨W0,a7⟩:∃ W0,W0=(w.alloc (.cells #[.int .i64 k,.slice B ts.length cB] 97)).alloc (.cells #[.int .u8 k] 5):=⟨_,rfl⟩
     have aq:Keeps w W0:=by rw [a7];exact ((Keeps.refl w).alloc _).alloc _
     have dA:W0.heap.size=w.heap.size+1+1:=by rw [a7];simp
     have bQ:W0.heap[w.heap.size]? = some (.cells #[.int .i64 k,.slice B ts.length cB] 97):=by rw [a7];exact obj_old (obj_new w _) _
     have bo:Reads W0 (some ⟨w.heap.size+1,0,none⟩) [UInt8.ofNat k.toNat]:=by
      rw [a7];exact Reads.new_at _ _ _ _ _ (by show [Value.int .u8 k]=[Value.int .u8 (((UInt8.ofNat k.toNat).toNat:Nat):Int)];rw [u8_of k (by omega) (by omega)]) _ (by simp)
     have HO:=Hi (a2.below aq)
     have bI:=Hi aq
     have aw:=Hi bQ
     have bF:=Hi bo
     have dm:=Hi dA
     have aF:=Hi a7
     have HT:=Hi (ht.later aq.below)
     have ew:=Hi cS
     have dM:=Hi a9
     have et:=Hi dy
     have IH:=Hi ih
     clear ih cS ht a2 aq bQ bo dA a7 a9 dy
     generalize hL:l.length=L at a5 HO ao
     have HL:=Hi hL
     clear hL
     have ba:putTy (.mk k ts)=UInt8.ofNat k.toNat :: if k=6∨k=7 then putTyHead ts else []:=by rw [putTy]
     generalize hR:putTy (.mk k ts)=R at ba
     have HP:=Hi ba
     have HR:=Hi hR
     clear ba hR
     generalize hN:ts.length=N at aw HT aF
     have HN:=Hi hN
     clear hN
     by_cases hk:k=6∨k=7
     · have HY:=Hi (nested_yes k hk)
       obtain ⟨t,rfl,d3⟩:=dM.out hk
       have HE:Hid (R=UInt8.ofNat k.toNat :: putTy t):=Hi (by rw [HP.out,if_pos hk,putTyHead])
       obtain rfl:N=1:=HN.out.symm
       have e9:=Hi d3
       clear hk d3
       go_enter Tryz.func136,Tryz.ntmps136
       go_wp2_with (at_builtin;rw [← aF.out];refine wpList_append_bytes (w0:=W0) base rfl _ _ 31 5 rfl Tryz.underlying31 info_u8b (.slice A L c) l [UInt8.ofNat k.toNat] rfl ?c0 (some ⟨w.heap.size+1,0,none⟩) 1 rfl bF.out ?c2 ?c3 ?c4 ?_)
       case c0=>exact HO.out
       case c2=>have:=HL.out;simp;omega
       case c3=>have:=dm.out;omega
       case c4=>exact Below.refl _ _
       intro v2 w2 a1 _ aa ah
       obtain ⟨A2,c2,rfl,aj,_,_,_⟩:=a1.form
       have hg:=Grows.of a1 aa ah
       have al:=hg.touch.obj aw.out (fun e=>own_obj_ne HO.out aw.out (by decide) e)
       obtain ⟨t0,t1,_,_⟩:=cells2 al
       have u2:=obj_lt al
       have cg:=Hi (HT.out.touch hg.touch (fun b hb e=>by have:=HO.out.ge b e;omega))
       have HG:=Hi (Grows.first bI.out hg)
       have b9:=Hi a1
       clear hg al a1 aa ah aw
       generalize hM:(l++[UInt8.ofNat k.toNat]).length=M at aj b9 HG
       have HM:=Hi hM
       clear hM
       obtain ⟨ad,k',s',rfl,ai,x0,x1,ak⟩:=cg.out.elem
       obtain ⟨A3,c3,n3,rfl⟩:∃ A3 c3 n3,s'=Value.slice A3 n3 c3:=by
        obtain ⟨A3,c3,e⟩:=ak.form
        simp only [Value.agg.injEq,Array.mk.injEq,List.cons.injEq] at e
        exact ⟨A3,c3,_,e.2.1⟩
       have hc:=IH.out t (d+1) base (.slice A2 M c2) (.agg #[.int .i64 k',.slice A3 n3 c3]) (l++[UInt8.ofNat k.toNat]) w2 (by omega) e9.out ak b9.out (by have:=HG.out.touch.size;omega) (by rw [List.length_append,HL.out];simp;omega)
       have HC:=Hi hc
       clear hc ak IH
       go_wp2_with fail
       refine (HY.out _).mono ?_
       rintro e w3 ⟨rfl,rfl⟩
       go_wp2_with fail
       refine HC.out.mono ?_
       rintro e w3 ⟨v3,rfl,aI⟩
       have bB:=Hi aI
       clear aI
       go_wp2
       go_ret
       refine ⟨v3,rfl, ?_⟩
       rw [HE.out]
       have:=HG.out.trans bB.out
       rw [List.append_assoc] at this
       exact this
     · have HY:=Hi (nested_no k hk)
       have HE:Hid (R=[UInt8.ofNat k.toNat]):=Hi (by rw [HP.out,if_neg hk])
       clear hk IH
       go_enter Tryz.func136,Tryz.ntmps136
       go_wp2_with (at_builtin;rw [← aF.out];refine wpList_append_bytes (w0:=W0) base rfl _ _ 31 5 rfl Tryz.underlying31 info_u8b (.slice A L c) l [UInt8.ofNat k.toNat] rfl ?c0 (some ⟨w.heap.size+1,0,none⟩) 1 rfl bF.out ?c2 ?c3 ?c4 ?_)
       case c0=>exact HO.out
       case c2=>have:=HL.out;simp;omega
       case c3=>have:=dm.out;omega
       case c4=>exact Below.refl _ _
       intro v2 w2 a1 _ aa ah
       obtain ⟨A2,c2,rfl,aj,_,_,_⟩:=a1.form
       have hg:=Grows.of a1 aa ah
       have al:=hg.touch.obj aw.out (fun e=>own_obj_ne HO.out aw.out (by decide) e)
       obtain ⟨t0,t1,_,_⟩:=cells2 al
       have u2:=obj_lt al
       have cg:=Hi (HT.out.touch hg.touch (fun b hb e=>by have:=HO.out.ge b e;omega))
       have HG:=Hi (Grows.first bI.out hg)
       have b9:=Hi a1
       clear hg al a1 aa ah aw
       generalize hM:(l++[UInt8.ofNat k.toNat]).length=M at aj b9 HG
       have HM:=Hi hM
       clear hM
       go_wp2_with fail
       refine (HY.out _).mono ?_
       rintro e w3 ⟨rfl,rfl⟩
       go_wp2
       go_ret
       refine ⟨_,rfl, ?_⟩
       rw [HE.out]
       exact HG.out
end
end Go.Proofs.YtihodcnnappkbaaGreatDoor
