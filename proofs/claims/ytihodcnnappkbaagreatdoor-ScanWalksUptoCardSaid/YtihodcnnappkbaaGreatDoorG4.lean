/-
  Reading a schema: plain, and where the loop over its columns stands. No condition. The reader of schema's bytes: a schema. Condition: the block stands for the reader, the tables of unicode/utf8 are as laid. What a reader of schema's bytes gives up with is no 0: plain. Condition: what is of another type has one. schema.reads: what reads is called, and what it gives up with is told. Condition: a contract of what reads. The walk of schema.Decode. Condition: the slice reads as a list of bytes, the tables of unicode/utf8 are as laid. Rows of bytes of the call's own that grow; append of a text. No condition. The walks of frame.beyond and frame.put. Condition: the numbers read as a row. The walk of frame.put. Condition: the numbers read as a row that lies apart from the bytes, none of them below 0. The walks of schema.putText and putBit, and of leb.Zig. Condition: the row is the call's own, the lengths are Go's. The walks of schema.checkType, CheckType and putType. Condition: the value stands for a type; putType: the type may be, the row is the call's own.
-/
import Derived.Test.YtihodcnnappkbaaGreatDoorG3
import Derived.Defers
import Derived.Recover
import Derived.Test.YtihodcnnappkbaaGreatDoorG1
import Derived.Lib.AppendStr
namespace Go.Proofs.YtihodcnnappkbaaGreatDoor
open Go.RowKit
def vaZero:Va:=.mk 0 0 0 empty []
def rCol (l:List UInt8) (cols:List Col) (a:Nat):Except Int (Col×Nat):=
 match rText 16 70 l a with
 | .error e=>.error e
 | .ok (t,k)=>
   if nameOk (str t)=false then .error 70
   else if (findCol cols (str t)).2=true then .error 71
   else match rKind 4 l k with
    | .error e=>.error e
    | .ok (ty,k2)=>
      match rBit l k2 with
      | .error e=>.error e
      | .ok (x,k3)=>
        if x=1 then
         match rValue ty l k3 with
         | .error e=>.error e
         | .ok (v,k4)=>.ok (⟨str t,ty,true,v⟩,k4)
        else .ok (⟨str t,ty,false,vaZero⟩,k3)
section
variable {l:List UInt8} {cols:List Col} {a:Nat}
theorem rCol_text {e:Int} (h:rText 16 70 l a=.error e):rCol l cols a=.error e:=by unfold rCol;rw [h]
variable {t:List UInt8} {k:Nat}
theorem rCol_name (h:rText 16 70 l a=.ok (t,k)) (h1:nameOk (str t)=false):rCol l cols a=.error 70:=by unfold rCol;rw [h];simp only [h1,if_true]
theorem rCol_twice (h:rText 16 70 l a=.ok (t,k)) (h1:nameOk (str t)=true) (h2:(findCol cols (str t)).2=true):rCol l cols a=.error 71:=by
 unfold rCol;rw [h];simp only [h1,h2,if_true,Bool.true_eq_false,if_false]
theorem rCol_kind {e:Int} (h:rText 16 70 l a=.ok (t,k)) (h1:nameOk (str t)=true) (h2:(findCol cols (str t)).2=false) (h3:rKind 4 l k=.error e):rCol l cols a=.error e:=by
 unfold rCol;rw [h];simp only [h1,h2,h3,Bool.true_eq_false,Bool.false_eq_true,if_false]
variable {ty:Ty} {k2:Nat}
theorem rCol_bit {e:Int} (h:rText 16 70 l a=.ok (t,k)) (h1:nameOk (str t)=true) (h2:(findCol cols (str t)).2=false) (h3:rKind 4 l k=.ok (ty,k2)) (h4:rBit l k2=.error e):rCol l cols a=.error e:=by
 unfold rCol;rw [h];simp only [h1,h2,h3,h4,Bool.true_eq_false,Bool.false_eq_true,if_false]
variable {x k3:Nat}
theorem rCol_no (h:rText 16 70 l a=.ok (t,k)) (h1:nameOk (str t)=true) (h2:(findCol cols (str t)).2=false) (h3:rKind 4 l k=.ok (ty,k2)) (h4:rBit l k2=.ok (x,k3)) (h5:¬x=1):rCol l cols a=.ok (⟨str t,ty,false,vaZero⟩,k3):=by
 unfold rCol;rw [h];simp only [h1,h2,h3,h4,h5,Bool.true_eq_false,Bool.false_eq_true,if_false]
theorem rCol_val {e:Int} (h:rText 16 70 l a=.ok (t,k)) (h1:nameOk (str t)=true) (h2:(findCol cols (str t)).2=false) (h3:rKind 4 l k=.ok (ty,k2)) (h4:rBit l k2=.ok (x,k3)) (h5:x=1) (h6:rValue ty l k3=.error e):rCol l cols a=.error e:=by
 unfold rCol;rw [h];simp only [h1,h2,h3,h4,h5,h6,Bool.true_eq_false,Bool.false_eq_true,if_false,if_true]
theorem rCol_yes {v:Va} {k4:Nat} (h:rText 16 70 l a=.ok (t,k)) (h1:nameOk (str t)=true) (h2:(findCol cols (str t)).2=false) (h3:rKind 4 l k=.ok (ty,k2)) (h4:rBit l k2=.ok (x,k3)) (h5:x=1) (h6:rValue ty l k3=.ok (v,k4)):rCol l cols a=.ok (⟨str t,ty,true,v⟩,k4):=by
 unfold rCol;rw [h];simp only [h1,h2,h3,h4,h5,h6,Bool.true_eq_false,Bool.false_eq_true,if_false,if_true]
end
def rCols (l:List UInt8):Nat→Nat→List Col→Except Int (List Col×Nat)
 | 0,a,cols=>.ok (cols,a)
 | n+1,a,cols=>
   match rCol l cols a with
   | .error e=>.error e
   | .ok (c,k)=>rCols l n k (cols++[c])
theorem rCols_error {l:List UInt8} {n a:Nat} {cols:List Col} {e:Int} (h:rCol l cols a=.error e) (hn:0<n):rCols l n a cols=.error e:=by
 cases n with
 | zero=>omega
 | succ n=>rw [rCols,h]
theorem rCols_ok {l:List UInt8} {n a k:Nat} {cols:List Col} {c:Col} (h:rCol l cols a=.ok (c,k)) (hn:0<n):rCols l n a cols=rCols l (n-1) k (cols++[c]):=by
 cases n with
 | zero=>omega
 | succ n=>rw [rCols,h];rfl
def rEnd (l:List UInt8):Except Int (List Col×Nat)→Except Int (List Col)
 | .error e=>.error e
 | .ok (cols,k)=>if k=l.length then .ok cols else .error 5
def rSchema (l:List UInt8) (a:Nat):Except Int (List Col):=
 match lebGet l a with
 | .error e=>.error e
 | .ok (n,k)=>if n=0 then .error 4 else if 16<n then .error 3 else rEnd l (rCols l n k [])
theorem rKind_good:∀ (n:Nat) (l:List UInt8) (a:Nat) (t:Ty) (k:Nat),rKind n l a=.ok (t,k)→t.good=true
 | 0,l,a,t,k,h=>by simp [rKind] at h
 | n+1,l,a,t,k,h=>by
   rw [rKind] at h
   split at h
   · cases h
   · rename_i c j hb
     split at h
     · cases h
     · split at h
       · rename_i h67
         unfold rKindOf at h
         split at h
         · cases h
         · rename_i t' j' hk
           injection h with h;injection h with h1 h2
           subst h1
           have:=rKind_good n l j t' j' hk
           have h67':(c:Int)=6∨(c:Int)=7:=by omega
           simp [Ty.good,Ty.goods,this,h67']
       · rename_i h67
         injection h with h;injection h with h1 h2
         subst h1
         have h67':¬((c:Int)=6∨(c:Int)=7):=by omega
         simp [Ty.good,Ty.goods,h67']
def FreeC (w:World) (A:Option Addr) (l:List Col):Prop:=∀ a,A=some a→l≠[]→∀ i,w.frozen? ⟨a.block,i,none⟩=false
theorem FreeC.nil (w:World) (A:Option Addr):FreeC w A []:=fun _ _ h=>absurd rfl h
theorem frozen_same {w w':World} {b:Nat} (h:w'.heap[b]? = w.heap[b]?) (i:Nat):w'.frozen? ⟨b,i,none⟩=w.frozen? ⟨b,i,none⟩:=by unfold World.frozen?;rw [h]
theorem FreeC.touch {F S:Nat→Prop} {w w':World} {A:Option Addr} {l:List Col} (h:FreeC w A l) (hs:SchS w S A l) (ht:Touch F w w') (hF:∀ k,S k→¬F k):FreeC w' A l:=fun a e hn i=>by
 have h1:=(hs.mono (S':=fun j=>S j∧j<w.heap.size) fun k hk h=>⟨h,hk⟩).blk a e hn
 rw [frozen_same (ht.block a.block h1.2 (hF _ h1.1))]
 exact h a e hn i
def SchPost (w:World) (g:Nat) (r:Except Int (List Col)) (e:Ending) (w':World):Prop:=
 match r with
 | .error er=>e=raised er∧Touch (At g) w w'
 | .ok cols=>∃ A c,e=.returned (.agg #[.slice A cols.length c])∧SchS w' (fun b=>w.heap.size≤b) A cols∧FreeC w' A cols∧Touch (At g) w w'
structure SchRel (w:World) (g:Nat) (A:Option Addr) (c:Nat) (l:List UInt8) (bs:Nat) (many:Nat) (R:Except Int (List Col×Nat)) (j:Nat) (Ar:Option Addr) (cr:Nat) (wr:World) (a:Nat) (cols:List Col) (xs:List Value):Prop where
 le:j≤many
 len:cols.length=j
 res:R=rCols l (many-j) a cols
 own:Loose wr (bs+1) 103 9 (.slice Ar j cr) j xs
 cols:Cols wr (fun b=>bs<b∧blk (.slice Ar j cr)≠some b) xs cols
 rd:RdAt wr g A c l a
 br:wr.heap[w.heap.size]? = some (.cells #[.slice none 0 0] 30)
 sc:wr.heap[bs]? = some (.cells #[.slice Ar j cr] 30)
 touch:Touch (At g) w wr
theorem SchRel.sch {w:World} {g:Nat} {A:Option Addr} {c:Nat} {l:List UInt8} {bs many:Nat} {R:Except Int (List Col×Nat)} {j:Nat} {Ar:Option Addr} {cr:Nat} {wr:World} {a:Nat} {cols:List Col} {xs:List Value}
 (h:SchRel w g A c l bs many R j Ar cr wr a cols xs) (hm:many≤16):SchS wr (fun b=>bs<b) Ar cols:=by
 obtain ⟨_,_,e1,hnc,hrow,hcm,_⟩:=h.own.form
 injection e1 with e1 e2 e3
 subst e1 e3
 have hown:=h.own.lt
 refine ⟨⟨xs,hrow,h.cols.mono fun b _ hb=>hb.1⟩,fun ad e hn=>?_,by have:=h.len;have:=h.le;omega⟩
 subst e
 have hp:0<cols.length:=List.length_pos_iff.2 hn
 have hl:=h.len
 exact (hown ad.block (by unfold blk;simp;omega)).1
theorem SchRel.free {w:World} {g:Nat} {A:Option Addr} {c:Nat} {l:List UInt8} {bs many:Nat} {R:Except Int (List Col×Nat)} {j:Nat} {Ar:Option Addr} {cr:Nat} {wr:World} {a:Nat} {cols:List Col} {xs:List Value}
 (h:SchRel w g A c l bs many R j Ar cr wr a cols xs):FreeC wr Ar cols:=fun ad e hn i=>by
 rcases h.own with ⟨A',h1,h2,_⟩ | ⟨g',cap,h1,hc,h2⟩
 · have:=h.len
   exact absurd (List.eq_nil_of_length_eq_zero (by omega)) hn
 · rcases h2.2 with ⟨h3,_⟩ | ⟨g2,cap2,cur,h3,_,hg,_⟩
   · rw [h1] at h3;cases h3
   · injection h3 with e1 e2 e3
     rw [e] at e1
     injection e1 with e1
     subst e1
     exact obj_frozen hg i
theorem SchRel.step {w:World} {g:Nat} {A:Option Addr} {c:Nat} {l:List UInt8} {bs many:Nat} {R:Except Int (List Col×Nat)} {j:Nat} {Ar:Option Addr} {cr:Nat} {wr:World} {a:Nat} {cols:List Col} {xs:List Value}
 (h:SchRel w g A c l bs many R j Ar cr wr a cols xs) {a0:Nat} (hrw:RdAt w g A c l a0) (hbs:w.heap.size<bs) (hlt:j<many) (hg:g<w.heap.size) {y:Col} {k2:Nat} (hq:R=rCols l (many-j-1) k2 (cols++[y]))
 {w3:World} {x0 x1 x2 x3 x4 x5 x6 x7 x8:Value} (hc3:ColC w3 (fun b=>wr.heap.size≤b) x0 x1 x2 x3 x4 x5 x6 x7 x8 y)
 (hr3:RdAt w3 g A c l k2) (ht3:Touch (At g) wr w3) {w4:World} {A4:Option Addr} {c4:Nat}
 (hl4:Loose w4 (bs+1) 103 9 (.slice A4 (j+1) c4) (j+1) (xs++[x0,x1,x2,x3,x4,x5,x6,x7,x8]))
 (hg4:(w3.alloc (.cells #[x0,x1,x2,x3,x4,x5,x6,x7,x8] 103)).grownBy w4 (blk (.slice Ar j cr)))
 (ha4:blk (.slice A4 (j+1) c4)=blk (.slice Ar j cr)∨blk (.slice A4 (j+1) c4)=some (w3.heap.size+1))
 (hv4:w4.heap[bs]? = some (.cells #[.slice Ar j cr] 30)) :
 SchRel w g A c l bs many R (j+1) A4 c4 (w4.setCell ⟨bs,0,none⟩ (.slice A4 (j+1) c4)) k2 (cols++[y]) (xs++[x0,x1,x2,x3,x4,x5,x6,x7,x8]):=by
 have hown:=h.own.lt
 have hbv:=obj_lt h.sc
 have hsz3:wr.heap.size≤w3.heap.size:=ht3.size
 obtain ⟨W3,hW3⟩:∃ W3,W3=w3.alloc (.cells #[x0,x1,x2,x3,x4,x5,x6,x7,x8] 103):=⟨_,rfl⟩
 rw [← hW3] at hg4
 have hk3:Keeps w3 W3:=by rw [hW3];exact (Keeps.refl w3).alloc _
 have hs3:W3.heap.size=w3.heap.size+1:=by rw [hW3];simp
 have hnew:=hl4.lt
 have htF:Touch (fun b=>blk (.slice Ar j cr)=some b∨b=bs) W3 (w4.setCell ⟨bs,0,none⟩ (.slice A4 (j+1) c4)):=
  (Touch.of_grown hg4 fun b e=>.inl e).setCell _ _ fun _=>.inr rfl
 have hlow:∀ b,(blk (.slice Ar j cr)=some b∨b=bs)→bs≤b:=fun b hb=>by
  rcases hb with hb | hb
  · have:=(hown b hb).1;omega
  · omega
 have hall:Touch (At g) w (w4.setCell ⟨bs,0,none⟩ (.slice A4 (j+1) c4)):=
  ((h.touch.then ht3).below hk3).trans htF fun b hb h=>by have:=hlow b h;omega
 have hnb:blk (.slice A4 (j+1) c4)≠some bs:=fun e=>by have:=(hnew _ e).1;omega
 refine ⟨by omega,by simp [h.len],by rw [hq];congr 1,hl4.far hnb _,?_,?_,?_,?_,hall⟩
 · have hi3:Cols W3 (fun b=>bs<b∧blk (.slice Ar j cr)≠some b) xs cols:=(h.cols.touch ht3 (fun b hb e=>by rw [At] at e;omega)).later hk3
   have hy3:ColC W3 (fun b=>bs<b∧blk (.slice Ar j cr)≠some b) x0 x1 x2 x3 x4 x5 x6 x7 x8 y:=
    (hc3.later hk3).mono fun b _ hb=>by
      have hb':wr.heap.size≤b:=hb
      exact ⟨by omega,fun e=>by have:=(hown b e).2;omega⟩
   have hm:Cols W3 (fun b=>bs<b∧blk (.slice Ar j cr)≠some b∧blk (.slice A4 (j+1) c4)≠some b) (xs++[x0,x1,x2,x3,x4,x5,x6,x7,x8]) (cols++[y]):=
    (hi3.snoc hy3).mono fun b hlt hb=>⟨hb.1,hb.2,fun e=>by
      rcases ha4 with h4 | h4
      · rw [h4] at e;exact hb.2 e
      · rw [h4] at e;injection e with e;omega⟩
   exact (hm.touch htF fun b hb hF=>by
    rcases hF with hF | hF
    · exact hb.2.1 hF
    · omega).mono fun b _ hb=>⟨hb.1,hb.2.2⟩
 · exact hrw.newer (hr3.below hk3) htF fun b hb=>by have:=hlow b hb;omega
 · exact htF.obj ((hk3.below.block _ (by have:=ht3.size;omega)).trans (ht3.obj h.br (by rw [At];omega))) fun hF=>by have:=hlow _ hF;omega
 · exact obj_set hv4 0 _
structure Rnd (w:World) (g:Nat) (A:Option Addr) (c:Nat) (l:List UInt8) (bs:Nat) (s:Value) (wr wX:World) (a:Nat) (C:Array Value):Prop where
 rd:RdAt wX g A c l a
 sc:wX.heap[bs]? = some (.cells #[s] 30)
 cc:wX.heap[wr.heap.size]? = some (.cells C 103)
 touch:Touch (At g) wr wX
theorem Rnd.call {w:World} {g:Nat} {A:Option Addr} {c:Nat} {l:List UInt8} {bs:Nat} {s:Value} {wr wX w':World} {a a':Nat} {C:Array Value} (h:Rnd w g A c l bs s wr wX a C) (hbs:bs≠g) (hbc:wr.heap.size≠g) (hr:RdAt w' g A c l a') (ht:Touch (At g) wX w'):Rnd w g A c l bs s wr w' a' C:=
 ⟨hr,ht.obj h.sc hbs,ht.obj h.cc hbc,h.touch.then ht⟩
theorem Rnd.keeps {w:World} {g:Nat} {A:Option Addr} {c:Nat} {l:List UInt8} {bs:Nat} {s:Value} {wr wX w':World} {a:Nat} {C:Array Value} (h:Rnd w g A c l bs s wr wX a C) (hk:Keeps wX w'):Rnd w g A c l bs s wr w' a C:=
 ⟨h.rd.below hk.below,by rw [hk.below.block _ (obj_lt h.sc)];exact h.sc,by rw [hk.below.block _ (obj_lt h.cc)];exact h.cc,h.touch.below hk⟩
theorem Rnd.store {w:World} {g:Nat} {A:Option Addr} {c:Nat} {l:List UInt8} {bs:Nat} {s:Value} {wr wX:World} {a:Nat} {C:Array Value} (h:Rnd w g A c l bs s wr wX a C) (hbs:bs<wr.heap.size) {a0:Nat} (hrw:RdAt wr g A c l a0) (i:Nat) (u:Value):Rnd w g A c l bs s wr (wX.setCell ⟨wr.heap.size,i,none⟩ u) a (C.setIfInBounds i u):=
 ⟨hrw.newer h.rd ((Touch.refl (At wr.heap.size) wX).set i u) (fun k hk=>by rw [At] at hk;omega),obj_far h.sc (by show bs≠wr.heap.size;omega) u,obj_set h.cc i u,h.touch.setCell _ _ fun hlt=>absurd hlt (by show ¬wr.heap.size<wr.heap.size;omega)⟩
theorem Rnd.start {w:World} {g:Nat} {A:Option Addr} {c:Nat} {l:List UInt8} {bs many:Nat} {R:Except Int (List Col×Nat)} {j:Nat} {Ar:Option Addr} {cr:Nat} {wr:World} {a:Nat} {cols:List Col} {xs:List Value}
 (h:SchRel w g A c l bs many R j Ar cr wr a cols xs) (C:Array Value):Rnd w g A c l bs (.slice Ar j cr) wr (wr.alloc (.cells C 103)) a C:=
 ⟨h.rd.below ((Keeps.refl wr).alloc _).below,obj_old h.sc _,obj_new wr _,(Touch.refl _ wr).alloc _⟩
theorem cells9 {w:World} {g:Nat} {x0 x1 x2 x3 x4 x5 x6 x7 x8:Value} {t:TypeId} (h:w.heap[g]? = some (.cells #[x0,x1,x2,x3,x4,x5,x6,x7,x8] t (0,0))) :
 (w.cell? ⟨g,0,none⟩=some x0∧w.cell? ⟨g,1,none⟩=some x1∧w.cell? ⟨g,2,none⟩=some x2∧w.cell? ⟨g,3,none⟩=some x3∧w.cell? ⟨g,4,none⟩=some x4∧w.cell? ⟨g,5,none⟩=some x5∧w.cell? ⟨g,6,none⟩=some x6∧w.cell? ⟨g,7,none⟩=some x7∧w.cell? ⟨g,8,none⟩=some x8) ∧
 (w.frozen? ⟨g,0,none⟩=false∧w.frozen? ⟨g,1,none⟩=false∧w.frozen? ⟨g,2,none⟩=false∧w.frozen? ⟨g,3,none⟩=false∧w.frozen? ⟨g,4,none⟩=false∧w.frozen? ⟨g,5,none⟩=false∧w.frozen? ⟨g,6,none⟩=false∧w.frozen? ⟨g,7,none⟩=false∧w.frozen? ⟨g,8,none⟩=false):=
 ⟨⟨by rw [obj_cell h];rfl,by rw [obj_cell h];rfl,by rw [obj_cell h];rfl,by rw [obj_cell h];rfl,by rw [obj_cell h];rfl,by rw [obj_cell h];rfl,by rw [obj_cell h];rfl,by rw [obj_cell h];rfl,by rw [obj_cell h];rfl⟩,
  obj_frozen h 0,obj_frozen h 1,obj_frozen h 2,obj_frozen h 3,obj_frozen h 4,obj_frozen h 5,obj_frozen h 6,obj_frozen h 7,obj_frozen h 8⟩
theorem cells1 {w:World} {g:Nat} {x:Value} {t:TypeId} (h:w.heap[g]? = some (.cells #[x] t (0,0))):w.cell? ⟨g,0,none⟩=some x∧w.frozen? ⟨g,0,none⟩=false:=
 ⟨by rw [obj_cell h];rfl,obj_frozen h 0⟩
end Go.Proofs.YtihodcnnappkbaaGreatDoor
namespace Go.Proofs.YtihodcnnappkbaaGreatDoor
open Go.RowKit Go.BigFrame
set_option linter.unusedVariables false
set_option linter.unusedSimpArgs false
attribute [local go_sem] run_storeF
theorem info_column:(Tryz.prog.info? 103).map (fun i=>(i.zero,i.size,i.bytes))=some (some (.agg #[.string ⟨#[]⟩,.int .i64 0,.slice none 0 0,.bool false,.int .i64 0,.int .i64 0,.float .f64 0,.string ⟨#[]⟩,.slice none 0 0]),9,120):=by kernel_rfl
set_option maxRecDepth 20000 in
set_option maxHeartbeats 4000000 in
theorem schema_calls (g:Nat) (A:Option Addr) (c:Nat) (l:List UInt8) (a:Nat) (w:World) (hr:RdAt w g A c l a) (htb:Tabs w) (hg1:g≠3) (hg2:g≠4) :
 Calls Tryz.prog 119 #[.pointer (some ⟨g,0,none⟩)] w (SchPost w g (rSchema l a)):=by
 have hg:=obj_lt hr.obj
 obtain ⟨W0,hW0⟩:∃ W0,W0=w.alloc (.cells #[.slice none 0 0] 30):=⟨_,rfl⟩
 have hr0:RdAt W0 g A c l a:=by rw [hW0];exact hr.below ((Keeps.refl w).alloc _).below
 have hb0:W0.heap[w.heap.size]? = some (.cells #[.slice none 0 0] 30):=by rw [hW0];exact obj_new w _
 have ht0:Touch (At g) w W0:=by rw [hW0];exact (Touch.refl _ w).alloc _
 have hp:rSchema l a=(match lebGet l a with | .error e=>.error e | .ok (n,k)=>if n=0 then .error 4 else if 16<n then .error 3 else rEnd l (rCols l n k [])):=rfl
 have HRW:=Hi hr
 have HTB:=Hi htb
 have HT0:=Hi ht0
 have HB0:=Hi hb0
 clear hr htb ht0 hb0
 cases hb:lebGet l a with
 | error er=>
   rw [hb] at hp
   rw [hp]
   have hc:=number_no g A c l a er _ hr0 hb (lebGet_err hb)
   rw [hW0] at hc
   have HC:=Hi hc
   have HW0:=Hi hW0
   clear hp hb hr0 hc hW0
   go_enter Tryz.func119,Tryz.ntmps119
   go_wp2_with fail
   refine HC.out.mono ?_
   rintro e w1 ⟨rfl,ht⟩
   have HT:=Hi ht
   clear ht HC
   go_wp2
   exact ⟨rfl,rfl,HT0.out.then (HW0.out▸HT.out)⟩
 | ok r=>
   obtain ⟨n,k⟩:=r
   rw [hb] at hp
   have hc:=number_ok g A c l a n k _ hr0 hb
   rw [hW0] at hc
   have HC:=Hi hc
   have HW0:=Hi hW0
   have hn64:=lebGet_num hb
   clear hb hr0 hc hW0
   by_cases hn0:n=0
   · simp only [hn0,if_true] at hp
     rw [hp]
     subst hn0
     clear hp
     go_enter Tryz.func119,Tryz.ntmps119
     go_wp2_with fail
     refine HC.out.mono ?_
     rintro e w1 ⟨rfl,hr1,ht⟩
     have HT:=Hi ht
     clear ht HC hr1
     go_wp2_with fail
     refine (must_noB _ _ _ _ (by simp <;> omega)).mono ?_
     rintro e w2 ⟨rfl,rfl⟩
     go_wp2
     exact ⟨rfl,rfl,HT0.out.then (HW0.out▸HT.out)⟩
   by_cases hn16:16<n
   · simp only [hn0,hn16,if_true,if_false] at hp
     rw [hp]
     clear hp
     go_enter Tryz.func119,Tryz.ntmps119
     go_wp2_with fail
     refine HC.out.mono ?_
     rintro e w1 ⟨rfl,hr1,ht⟩
     have HT:=Hi ht
     clear ht HC hr1
     go_wp2_with fail
     refine (must_okB _ _ _ _ (by simp <;> omega)).mono ?_
     rintro e w2 ⟨rfl,rfl⟩
     go_wp2_with fail
     refine (must_noB _ _ _ _ (by simp <;> omega)).mono ?_
     rintro e w2 ⟨rfl,rfl⟩
     go_wp2
     exact ⟨rfl,rfl,HT0.out.then (HW0.out▸HT.out)⟩
   simp only [hn0,hn16,if_false] at hp
   have hn1:1≤n:=by omega
   have hn2:n≤16:=by omega
   generalize hRR:rSchema l a=R at hp ⊢
   generalize hQ:rCols l n k []=Q at hp
   have HRR:=Hi hp
   have HQ:=Hi hQ.symm
   clear hRR hp hQ hn0 hn16 hn64
   go_enter Tryz.func119,Tryz.ntmps119
   go_wp2_with fail
   refine HC.out.mono ?_
   rintro e w1 ⟨rfl,hr1,ht⟩
   rw [← HW0.out] at ht
   have hb1:=ht.obj HB0.out (by show w.heap.size≠g;omega)
   have u1:=obj_lt hb1
   have hrel0:SchRel w g A c l w1.heap.size n Q 0 none 0 (w1.alloc (.cells #[.slice none 0 0] 30)) k [] []:=
    ⟨by omega,rfl,HQ.out,Loose.empty _ _ _ _ none,Cols.nil _ _,hr1.below ((Keeps.refl w1).alloc _).below,obj_old hb1 _,obj_new w1 _,(HT0.out.then ht).alloc _⟩
   have HR0:=Hi hrel0
   clear hr1 ht hrel0 HC HQ hb1
   go_wp2_with fail
   refine (must_okB _ _ _ _ (by simp <;> omega)).mono ?_
   rintro e w2 ⟨rfl,rfl⟩
   go_wp2_with fail
   refine (must_okB _ _ _ _ (by simp <;> omega)).mono ?_
   rintro e w2 ⟨rfl,rfl⟩
   go_wp2_with fail
   obtain ⟨bs,hbs⟩:∃ bs,bs=w1.heap.size:=⟨_,rfl⟩
   rw [← hbs] at HR0 u1 ⊢
   have HBS:=Hi hbs
   clear hbs
   go_loopw [19] (fun i wr=>∃ (j:Nat) (Ar:Option Addr) (cr a:Nat) (cols:List Col) (xs:List Value),i=.int .u64 (j:Int)∧SchRel w g A c l bs n Q j Ar cr wr a cols xs) (fun i _=>n-(intOf i).toNat)
   case atStart=>exact ⟨0,none,0,k,[],[],rfl,HR0.out⟩
   case round=>
    clear HR0 HBS
    obtain ⟨j,Ar,cr,a,cols,xs,rfl,hrel⟩:=hrel
    by_cases hlt:j<n
    · obtain rfl:cols.length=j:=hrel.len
      have hbg:bs≠g:=by omega
      have hw:=obj_lt hrel.sc
      have hbc:wr.heap.size≠g:=by omega
      have hst:=Rnd.start hrel #[.string ⟨#[]⟩,.int .i64 0,.slice none 0 0,.bool false,.int .i64 0,.int .i64 0,.float .f64 0,.string ⟨#[]⟩,.slice none 0 0]
      have HREL:=Hi hrel
      have HST:=Hi hst
      have HRD:=Hi hrel.rd
      have HLT:=Hi hlt
      clear hrel hst
      cases htx:rText 16 70 l a with
      | error er=>
        have HE:Hid (R=.error er):=Hi (by rw [HRR.out,HREL.out.res,rCols_error (rCol_text htx) (by omega)];rfl)
        have HC:=Hi (text_no g A c l a er 16 70 _ (by omega) HST.out.rd htx)
        clear htx HRR
        go_wp2_with fail
        refine HC.out.mono ?_
        rintro e w2 ⟨rfl,ht2⟩
        have HT2:=Hi ht2
        clear ht2 HC
        go_wp2
        refine ⟨rfl,?_⟩
        rw [HE.out]
        exact ⟨rfl,(HREL.out.touch.then HST.out.touch).then HT2.out⟩
      | ok r=>
      obtain ⟨t,k1⟩:=r
      have HC:=Hi (text_ok g A c l t a k1 16 70 _ (by omega) HST.out.rd htx)
      have HTX:=Hi htx
      have htl:=(rText_le HST.out.rd.within htx).2
      clear htx
      go_wp2_with fail
      refine HC.out.mono ?_
      rintro e w2 ⟨rfl,hr2,ht2⟩
      have h2:=HST.out.call hbg hbc hr2 ht2
      obtain ⟨⟨c0,c1,c2,c3,c4,c5,c6,c7,c8⟩,z0,z1,z2,z3,z4,z5,z6,z7,z8⟩:=cells9 h2.cc
      have u2:=obj_lt h2.cc
      obtain ⟨W2,hW2⟩:∃ W2,W2=w2.setCell ⟨wr.heap.size,0,none⟩ (.string (str t)):=⟨_,rfl⟩
      have h2s:=h2.store hw HRD.out 0 (.string (str t))
      rw [← hW2] at h2s
      have H2:=Hi h2s
      clear hr2 ht2 h2 h2s HC HST
      go_wp2_with fail
      rw [← hW2]
      clear hW2 c0 c1 c2 c3 c4 c5 c6 c7 c8 z0 z1 z2 z3 z4 z5 z6 z7 z8 u2
      refine (name_calls (str t) W2).mono ?_
      rintro e w3 ⟨rfl,hk3⟩
      have h3:=H2.out.keeps hk3
      clear H2 hk3
      cases hnm:nameOk (str t) with
      | false=>
        have HE:Hid (R=.error 70):=Hi (by rw [HRR.out,HREL.out.res,rCols_error (rCol_name HTX.out hnm) (by omega)];rfl)
        have H3:=Hi h3
        clear h3 hnm HRR
        go_wp2_with fail
        refine (must_noB _ _ _ _ (by simp <;> omega)).mono ?_
        rintro e w4 ⟨rfl,rfl⟩
        go_wp2
        refine ⟨rfl,?_⟩
        rw [HE.out]
        exact ⟨rfl,HREL.out.touch.then H3.out.touch⟩
      | true=>
      have HNM:=Hi hnm
      clear hnm
      have hsch:=(HREL.out.sch hn2).touch h3.touch (fun b hb e=>by rw [At] at e;omega)
      have hfc:=find_calls Ar cr _ cols (str t) w3 hsch
      obtain ⟨⟨c0,c1,c2,c3,c4,c5,c6,c7,c8⟩,z0,z1,z2,z3,z4,z5,z6,z7,z8⟩:=cells9 h3.cc
      obtain ⟨s0,_⟩:=cells1 h3.sc
      have u3:=obj_lt h3.cc
      have H3:=Hi h3
      have HFC:=Hi hfc
      clear h3 hsch hfc
      go_wp2_with fail
      refine (must_okB _ _ _ _ (by simp <;> omega)).mono ?_
      rintro e w4 ⟨rfl,rfl⟩
      go_wp2_with fail
      refine HFC.out.mono ?_
      rintro e w4 ⟨rfl,hk4⟩
      have h4:=H3.out.keeps hk4
      clear H3 hk4 HFC c0 c1 c2 c3 c4 c5 c6 c7 c8 z0 z1 z2 z3 z4 z5 z6 z7 z8 u3 s0
      generalize hFF:(findCol cols (str t)).1=F1
      clear hFF
      cases htw:(findCol cols (str t)).2 with
      | true=>
        have HE:Hid (R=.error 71):=Hi (by rw [HRR.out,HREL.out.res,rCols_error (rCol_twice HTX.out HNM.out htw) (by omega)];rfl)
        have H4:=Hi h4
        clear h4 htw HRR
        go_wp2_with fail
        refine (must_noB _ _ _ _ (by simp <;> omega)).mono ?_
        rintro e w5 ⟨rfl,rfl⟩
        go_wp2
        refine ⟨rfl,?_⟩
        rw [HE.out]
        exact ⟨rfl,HREL.out.touch.then H4.out.touch⟩
      | false=>
      have HTW:=Hi htw
      clear htw
      have hkc:Calls Tryz.prog 153 #[.pointer (some ⟨g,0,none⟩),.int .i64 1] w4 (KindPost w4 g A c l (rKind 4 l k1)):=kind_calls 4 1 g A c l k1 w4 rfl h4.rd
      have u4:=obj_lt h4.cc
      have H4:=Hi h4
      clear h4
      cases hki:rKind 4 l k1 with
      | error er=>
        rw [hki] at hkc
        have HE:Hid (R=.error er):=Hi (by rw [HRR.out,HREL.out.res,rCols_error (rCol_kind HTX.out HNM.out HTW.out hki) (by omega)];rfl)
        have HKC:=Hi hkc
        clear hkc hki HRR
        go_wp2_with fail
        refine (must_okB _ _ _ _ (by simp <;> omega)).mono ?_
        rintro e w5 ⟨rfl,rfl⟩
        go_wp2_with fail
        refine HKC.out.mono ?_
        rintro e w5 ⟨rfl,ht5⟩
        have HT5:=Hi ht5
        clear ht5 HKC
        go_wp2
        refine ⟨rfl,?_⟩
        rw [HE.out]
        exact ⟨rfl,(HREL.out.touch.then H4.out.touch).then HT5.out⟩
      | ok r=>
      obtain ⟨ty,k2⟩:=r
      rw [hki] at hkc
      have HKC:=Hi hkc
      have HKI:=Hi hki
      clear hkc hki
      go_wp2_with fail
      refine (must_okB _ _ _ _ (by simp <;> omega)).mono ?_
      rintro e w5 ⟨rfl,rfl⟩
      go_wp2_with fail
      refine HKC.out.mono ?_
      rintro e w5 ⟨v5,rfl,hty,hr5,ht5⟩
      obtain ⟨A5,c5',rfl⟩:=hty.form
      have h5:=H4.out.call hbg hbc hr5 ht5
      obtain ⟨⟨c0,c1,c2,c3,c4,c5,c6,c7,c8⟩,z0,z1,z2,z3,z4,z5,z6,z7,z8⟩:=cells9 h5.cc
      have u5:=obj_lt h5.cc
      have hty1:TyS w5 (fun b=>wr.heap.size<b) (.agg #[.int .i64 ty.kind,.slice A5 ty.of.length c5']) ty:=hty.mono fun b _ hb=>by have hb':w4.heap.size≤b:=hb;omega
      obtain ⟨W5,hW5⟩:∃ W5,W5=(w5.setCell ⟨wr.heap.size,1,none⟩ (.int .i64 ty.kind)).setCell ⟨wr.heap.size,2,none⟩ (.slice A5 ty.of.length c5'):=⟨_,rfl⟩
      have h5s:=(h5.store hw HRD.out 1 (.int .i64 ty.kind)).store hw HRD.out 2 (.slice A5 ty.of.length c5')
      rw [← hW5] at h5s
      have hty2:TyS W5 (fun b=>wr.heap.size<b) (.agg #[.int .i64 ty.kind,.slice A5 ty.of.length c5']) ty:=by
       rw [hW5]
       exact hty1.touch (((Touch.refl (At wr.heap.size) w5).set 1 _).set 2 _) fun b hb e=>by rw [At] at e;omega
      have H5:=Hi h5s
      have HTY:=Hi hty2
      clear hr5 ht5 h5 h5s hty hty1 hty2 HKC H4
      cases hbi:rBit l k2 with
      | error er=>
        have HE:Hid (R=.error er):=Hi (by rw [HRR.out,HREL.out.res,rCols_error (rCol_bit HTX.out HNM.out HTW.out HKI.out hbi) (by omega)];rfl)
        have HC:=Hi (bit_no g A c l k2 er W5 H5.out.rd hbi)
        clear hbi HRR
        go_wp2_with fail
        rw [← hW5]
        clear hW5
        refine HC.out.mono ?_
        rintro e w6 ⟨rfl,ht6⟩
        have HT6:=Hi ht6
        clear ht6 HC
        go_wp2
        refine ⟨rfl,?_⟩
        rw [HE.out]
        exact ⟨rfl,(HREL.out.touch.then H5.out.touch).then HT6.out⟩
      | ok r=>
      obtain ⟨x,k3⟩:=r
      have HC:=Hi (bit_ok g A c l k2 x k3 W5 H5.out.rd hbi)
      have hx2:=rBit_lt hbi
      have HBI:=Hi hbi
      clear hbi
      go_wp2_with fail
      rw [← hW5]
      clear hW5 c0 c1 c2 c3 c4 c5 c6 c7 c8 z0 z1 z2 z3 z4 z5 z6 z7 z8 u5
      refine HC.out.mono ?_
      rintro e w6 ⟨rfl,hr6,ht6⟩
      have h6:=H5.out.call hbg hbc hr6 ht6
      obtain ⟨⟨c0,c1,c2,c3,c4,c5,c6,c7,c8⟩,z0,z1,z2,z3,z4,z5,z6,z7,z8⟩:=cells9 h6.cc
      have u6:=obj_lt h6.cc
      have hty6:=HTY.out.touch ht6 (fun b hb e=>by rw [At] at e;omega)
      by_cases hx:x=1
      · have qx:((x:Int)==1)=true:=by simp;omega
        have H6W:Hid (Rnd w g A c l bs (.slice Ar cols.length cr) wr (w6.setCell ⟨wr.heap.size,3,none⟩ (.bool true)) k3 #[.string (str t),.int .i64 ty.kind,.slice A5 ty.of.length c5',.bool true,.int .i64 0,.int .i64 0,.float .f64 0,.string ⟨#[]⟩,.slice none 0 0]):=Hi (h6.store hw HRD.out 3 (.bool true))
        obtain ⟨W6,hW6⟩:∃ W6,W6=w6.setCell ⟨wr.heap.size,3,none⟩ (.bool true):=⟨_,rfl⟩
        rw [← hW6] at H6W
        have hty7:TyS W6 (fun b=>wr.heap.size<b) (.agg #[.int .i64 ty.kind,.slice A5 ty.of.length c5']) ty:=by
         rw [hW6]
         exact hty6.touch ((Touch.refl (At wr.heap.size) w6).set 3 _) fun b hb e=>by rw [At] at e;omega
        have hvc:=value_calls (SizeOf.sizeOf ty+1) ty _ g A c l k3 W6 (by omega) (rKind_good _ _ _ _ _ HKI.out) (hty7.mono fun b _ hb=>by omega) H6W.out.rd (HTB.out.touch (HREL.out.touch.then H6W.out.touch) (fun e=>hg1 e.symm) (fun e=>hg2 e.symm)) hg1 hg2
        have HTY7:=Hi hty7
        have HX:=Hi hx
        clear hr6 ht6 h6 hty6 hty7 hx HC
        cases hvl:rValue ty l k3 with
        | error er=>
          rw [hvl] at hvc
          have HE:Hid (R=.error er):=Hi (by rw [HRR.out,HREL.out.res,rCols_error (rCol_val HTX.out HNM.out HTW.out HKI.out HBI.out HX.out hvl) (by omega)];rfl)
          have HVC:=Hi hvc
          clear hvc hvl HRR
          go_wp2_with fail
          rw [← hW6]
          clear hW6
          refine HVC.out.mono ?_
          rintro e w7 ⟨rfl,ht7⟩
          have HT7:=Hi ht7
          clear ht7 HVC
          go_wp2
          refine ⟨rfl,?_⟩
          rw [HE.out]
          exact ⟨rfl,(HREL.out.touch.then H6W.out.touch).then HT7.out⟩
        | ok r=>
        obtain ⟨v,k4⟩:=r
        rw [hvl] at hvc
        have HVC:=Hi hvc
        have HVL:=Hi hvl
        clear hvc hvl
        go_wp2_with fail
        rw [← hW6]
        clear hW6 c0 c1 c2 c3 c4 c5 c6 c7 c8 z0 z1 z2 z3 z4 z5 z6 z7 z8 u6
        refine HVC.out.mono ?_
        rintro e w7 ⟨v7,rfl,hv7,hr7,ht7⟩
        obtain ⟨A7,c7',rfl⟩:=hv7.form
        have hz7:=obj_lt H6W.out.cc
        have h7:=H6W.out.call hbg hbc hr7 ht7
        obtain ⟨⟨c0,c1,c2,c3,c4,c5,c6,c7,c8⟩,z0,z1,z2,z3,z4,z5,z6,z7,z8⟩:=cells9 h7.cc
        have u7:=obj_lt h7.cc
        have hty8:=HTY7.out.touch ht7 (fun b hb e=>by rw [At] at e;omega)
        have hv8:VaS w7 (fun b=>wr.heap.size<b) _ v:=hv7.mono fun b _ hb=>by have hb':W6.heap.size≤b:=hb;omega
        have h7s:Rnd w g A c l bs (.slice Ar cols.length cr) wr (((((w7.setCell ⟨wr.heap.size,4,none⟩ (.int .i64 v.kind)).setCell ⟨wr.heap.size,5,none⟩ (.int .i64 v.int)).setCell ⟨wr.heap.size,6,none⟩ (.float .f64 v.fl)).setCell ⟨wr.heap.size,7,none⟩ (.string v.text)).setCell ⟨wr.heap.size,8,none⟩ (.slice A7 v.items.length c7')) k4
         #[.string (str t),.int .i64 ty.kind,.slice A5 ty.of.length c5',.bool true,.int .i64 v.kind,.int .i64 v.int,.float .f64 v.fl,.string v.text,.slice A7 v.items.length c7']:=
         ((((h7.store hw HRD.out 4 _).store hw HRD.out 5 _).store hw HRD.out 6 _).store hw HRD.out 7 _).store hw HRD.out 8 _
        have hts:Touch (At wr.heap.size) w7 (((((w7.setCell ⟨wr.heap.size,4,none⟩ (.int .i64 v.kind)).setCell ⟨wr.heap.size,5,none⟩ (.int .i64 v.int)).setCell ⟨wr.heap.size,6,none⟩ (.float .f64 v.fl)).setCell ⟨wr.heap.size,7,none⟩ (.string v.text)).setCell ⟨wr.heap.size,8,none⟩ (.slice A7 v.items.length c7')):=
         (((((Touch.refl _ w7).set 4 _).set 5 _).set 6 _).set 7 _).set 8 _
        obtain ⟨W7,hW7⟩:∃ W7,W7=((((w7.setCell ⟨wr.heap.size,4,none⟩ (.int .i64 v.kind)).setCell ⟨wr.heap.size,5,none⟩ (.int .i64 v.int)).setCell ⟨wr.heap.size,6,none⟩ (.float .f64 v.fl)).setCell ⟨wr.heap.size,7,none⟩ (.string v.text)).setCell ⟨wr.heap.size,8,none⟩ (.slice A7 v.items.length c7'):=⟨_,rfl⟩
        rw [← hW7] at h7s hts
        have hcol:ColC W7 (fun b=>wr.heap.size≤b) (.string (str t)) (.int .i64 ty.kind) (.slice A5 ty.of.length c5') (.bool true) (.int .i64 v.kind) (.int .i64 v.int) (.float .f64 v.fl) (.string v.text) (.slice A7 v.items.length c7') ⟨str t,ty,true,v⟩:=
         ⟨rfl,rfl,rfl,rfl,rfl,rfl,rfl,(hty8.touch hts fun b hb e=>by rw [At] at e;omega).mono fun b _ hb=>by omega,(hv8.touch hts fun b hb e=>by rw [At] at e;omega).mono fun b _ hb=>by omega⟩
        obtain ⟨s0,sz⟩:=cells1 h7.sc
        have us:=obj_lt h7.sc
        have hne:¬bs=wr.heap.size:=by omega
        have hne2:¬wr.heap.size=bs:=by omega
        clear hv7 hr7 ht7 h7 hty8 hv8 hts HVC H6W HTY7 H5 HTY
        have hrw7:=h7s.touch
        have hsz7:w7.heap.size=W7.heap.size:=by rw [hW7];simp
        have HSZ7:=Hi hsz7
        clear hsz7
        have hown7:=HREL.out.own.keep (w':=W7) hrw7 (fun k hk h=>by have:=(HREL.out.own.lt k hk).1;rw [At] at h;omega)
        have HOWN:=Hi hown7
        have HE:Hid (Q=rCols l (n-cols.length-1) k4 (cols++[⟨str t,ty,true,v⟩])):=Hi (by rw [HREL.out.res,rCols_ok (rCol_yes HTX.out HNM.out HTW.out HKI.out HBI.out HX.out HVL.out) (by omega)])
        have H7:=Hi h7s
        have HCOL:=Hi hcol
        have HW7:=Hi hW7
        clear hrw7 hown7 h7s hcol hW7
        go_wp2_with (at_builtin
                     rw [← HW7.out]
                     refine wpList_append_rows (bs+1) rfl _ _ 28 103 (.agg #[.string ⟨#[]⟩,.int .i64 0,.slice none 0 0,.bool false,.int .i64 0,.int .i64 0,.float .f64 0,.string ⟨#[]⟩,.slice none 0 0]) 9 120 rfl Tryz.underlying28 info_column rfl (by omega) (.slice Ar cols.length cr) cols.length xs rfl ?c0 (some ⟨w7.heap.size,0,none⟩) 1 1 [.string (str t),.int .i64 ty.kind,.slice A5 ty.of.length c5',.bool true,.int .i64 v.kind,.int .i64 v.int,.float .f64 v.fl,.string v.text,.slice A7 v.items.length c7'] ?cx ?c1 ?c2 ?c3 ?c4 ?c5 ?c6 ?_)
        case c0=>exact HOWN.out.below ((Keeps.refl W7).alloc _).below
        case cx=>rfl
        case c1=>rfl
        case c2=>exact RowAt.new_at W7 _ _ _ _ rfl _ HSZ7.out
        case c3=>simp [Value.oneCell']
        case c4=>simp only [maxLen];omega
        case c5=>omega
        case c6=>have:=obj_lt H7.out.cc;simp;omega
        intro v8 w8 hl8 hg8 hat8
        obtain ⟨A8,c8',rfl,_⟩:=hl8.form
        have hv8:=(hg8.block bs (by have:=obj_lt H7.out.sc;simp;omega) (fun e=>by have:=(HOWN.out.lt _ e.symm).1;omega)).trans (obj_old H7.out.sc _)
        obtain ⟨q0,qz⟩:=cells1 hv8
        have u8:=obj_lt hv8
        have HV8:=Hi hv8
        have HL8:=Hi hl8
        have HG8:=Hi hg8
        have HA8:=Hi hat8
        clear hv8 hl8 hg8 hat8
        go_wp2
        exact ⟨⟨cols.length+1,A8,c8',k4,cols++[⟨str t,ty,true,v⟩],_,by go_num,HREL.out.step HRW.out u1 hlt hg HE.out HCOL.out H7.out.rd H7.out.touch HL8.out HG8.out HA8.out HV8.out⟩,by simp [intOf];omega⟩
      · have qx:((x:Int)==1)=false:=by simp;omega
        have h7s:Rnd w g A c l bs (.slice Ar cols.length cr) wr (w6.setCell ⟨wr.heap.size,3,none⟩ (.bool false)) k3 #[.string (str t),.int .i64 ty.kind,.slice A5 ty.of.length c5',.bool false,.int .i64 0,.int .i64 0,.float .f64 0,.string ⟨#[]⟩,.slice none 0 0]:=h6.store hw HRD.out 3 (.bool false)
        have hts:Touch (At wr.heap.size) w6 (w6.setCell ⟨wr.heap.size,3,none⟩ (.bool false)):=(Touch.refl _ w6).set 3 _
        obtain ⟨W7,hW7⟩:∃ W7,W7=w6.setCell ⟨wr.heap.size,3,none⟩ (.bool false):=⟨_,rfl⟩
        rw [← hW7] at h7s hts
        have hcol:ColC W7 (fun b=>wr.heap.size≤b) (.string (str t)) (.int .i64 ty.kind) (.slice A5 ty.of.length c5') (.bool false) (.int .i64 0) (.int .i64 0) (.float .f64 0) (.string ⟨#[]⟩) (.slice none 0 0) ⟨str t,ty,false,vaZero⟩:=
         ⟨rfl,rfl,rfl,rfl,rfl,rfl,rfl,(hty6.touch hts fun b hb e=>by rw [At] at e;omega).mono fun b _ hb=>by omega,VaS.leaf _ _ _ _ _ _ _ _⟩
        have HX:=Hi hx
        obtain ⟨s0,sz⟩:=cells1 h6.sc
        have us:=obj_lt h6.sc
        have hne:¬bs=wr.heap.size:=by omega
        have hne2:¬wr.heap.size=bs:=by omega
        clear hr6 ht6 h6 hty6 hts HC H5 HTY hx
        have hrw7:=h7s.touch
        have hsz7:w6.heap.size=W7.heap.size:=by rw [hW7];simp
        have HSZ7:=Hi hsz7
        clear hsz7
        have hown7:=HREL.out.own.keep (w':=W7) hrw7 (fun k hk h=>by have:=(HREL.out.own.lt k hk).1;rw [At] at h;omega)
        have HOWN:=Hi hown7
        have HE:Hid (Q=rCols l (n-cols.length-1) k3 (cols++[⟨str t,ty,false,vaZero⟩])):=Hi (by rw [HREL.out.res,rCols_ok (rCol_no HTX.out HNM.out HTW.out HKI.out HBI.out HX.out) (by omega)])
        have H7:=Hi h7s
        have HCOL:=Hi hcol
        have HW7:=Hi hW7
        clear hrw7 hown7 h7s hcol hW7
        go_wp2_with (at_builtin
                     rw [← HW7.out]
                     refine wpList_append_rows (bs+1) rfl _ _ 28 103 (.agg #[.string ⟨#[]⟩,.int .i64 0,.slice none 0 0,.bool false,.int .i64 0,.int .i64 0,.float .f64 0,.string ⟨#[]⟩,.slice none 0 0]) 9 120 rfl Tryz.underlying28 info_column rfl (by omega) (.slice Ar cols.length cr) cols.length xs rfl ?c0 (some ⟨w6.heap.size,0,none⟩) 1 1 [.string (str t),.int .i64 ty.kind,.slice A5 ty.of.length c5',.bool false,.int .i64 0,.int .i64 0,.float .f64 0,.string ⟨#[]⟩,.slice none 0 0] ?cx ?c1 ?c2 ?c3 ?c4 ?c5 ?c6 ?_)
        case c0=>exact HOWN.out.below ((Keeps.refl W7).alloc _).below
        case cx=>rfl
        case c1=>rfl
        case c2=>exact RowAt.new_at W7 _ _ _ _ rfl _ HSZ7.out
        case c3=>simp [Value.oneCell']
        case c4=>simp only [maxLen];omega
        case c5=>omega
        case c6=>have:=obj_lt H7.out.cc;simp;omega
        intro v8 w8 hl8 hg8 hat8
        obtain ⟨A8,c8',rfl,_⟩:=hl8.form
        have hv8:=(hg8.block bs (by have:=obj_lt H7.out.sc;simp;omega) (fun e=>by have:=(HOWN.out.lt _ e.symm).1;omega)).trans (obj_old H7.out.sc _)
        obtain ⟨q0,qz⟩:=cells1 hv8
        have u8:=obj_lt hv8
        have HV8:=Hi hv8
        have HL8:=Hi hl8
        have HG8:=Hi hg8
        have HA8:=Hi hat8
        clear hv8 hl8 hg8 hat8
        go_wp2
        exact ⟨⟨cols.length+1,A8,c8',k3,cols++[⟨str t,ty,false,vaZero⟩],_,by go_num,HREL.out.step HRW.out u1 hlt hg HE.out HCOL.out H7.out.rd H7.out.touch HL8.out HG8.out HA8.out HV8.out⟩,by simp [intOf];omega⟩
    · have hj:j=n:=by have:=hrel.le;omega
      have hres:=hrel.res
      rw [hj,Nat.sub_self,rCols] at hres
      have hlen:=hrel.rd.len
      obtain ⟨c0,c1,_⟩:=hrel.rd.cells
      obtain ⟨s0,_⟩:=cells1 hrel.sc
      obtain ⟨r0,rz⟩:=cells1 hrel.br
      have us:=obj_lt hrel.sc
      have ug:=obj_lt hrel.rd.obj
      have hin:=hrel.rd.within
      have hsch:=hrel.sch hn2
      have HFC:=Hi hrel.free
      have hjl:=hrel.len
      have HREL:=Hi hrel
      have HJ:=Hi hjl
      have HSC:=Hi hsch
      clear hrel hsch hjl hj
      by_cases hal:a=l.length
      · have HE:Hid (R=.ok cols):=Hi (by rw [HRR.out,hres];show (if a=l.length then _ else _)=_;rw [if_pos hal])
        have qa:((a:Int)==(l.length:Int))=true:=by simp;omega
        clear hres hal HRR
        generalize l.length=L at c0 hlen hin qa
        go_wp2_with fail
        go_quiet ((go_at_call 150;exact quiet_eq (must_okB _ _ _ _ (by first | assumption | (simp <;> omega)))))
        go_wp2
        refine bodyPost_ret (v:=.agg #[.slice Ar j cr]) (by simp [results,Tryz.results119,go_sem,us,r0,s0]) rfl ?_
        rw [HE.out]
        have ht:Touch (At w.heap.size) wr ((wr.drewN nq).setCell ⟨w.heap.size,0,none⟩ (.slice Ar j cr)):=((Touch.refl _ wr).drewN nq).set 0 _
        refine ⟨Ar,cr,by rw [HJ.out],(HSC.out.touch ht (fun b hb e=>by rw [At] at e;omega)).mono fun b _ hb=>by omega,HFC.out.touch HSC.out ht (fun b hb e=>by rw [At] at e;omega),HREL.out.touch.trans ht (fun b hb e=>by rw [At] at e;omega)⟩
      · have HE:Hid (R=.error 5):=Hi (by rw [HRR.out,hres];show (if a=l.length then _ else _)=_;rw [if_neg hal])
        have qa:((a:Int)==(l.length:Int))=false:=by simp;omega
        clear hres hal HRR
        generalize l.length=L at c0 hlen hin qa
        go_wp2_with fail
        go_region_dies
        all_goals
         refine (must_noB _ _ _ _ (by first | assumption | (simp <;> omega))).mono ?_
         rintro e w2 ⟨rfl,rfl⟩
         go_wp2
         refine ⟨rfl,?_⟩
         rw [HE.out]
         exact ⟨rfl,HREL.out.touch.drew⟩
end Go.Proofs.YtihodcnnappkbaaGreatDoor
namespace Go.Proofs.YtihodcnnappkbaaGreatDoor
theorem rByte_nz {l:List UInt8} {a:Nat} {e:Int} (h:rByte l a=.error e):e≠0:=by
 unfold rByte at h
 split at h
 · cases h
 · injection h with h;omega
theorem rBit_nz {l:List UInt8} {a:Nat} {e:Int} (h:rBit l a=.error e):e≠0:=by have:=rBit_err h;omega
theorem rText_nz {most:Nat} {long:Int} {l:List UInt8} {a:Nat} {e:Int} (hl:long≠0) (h:rText most long l a=.error e):e≠0:=by
 unfold rText at h
 split at h
 · rename_i e1 hg
   injection h with h
   rw [← h]
   exact lebGet_err hg
 · split at h
   · split at h
     · cases h
     · injection h with h;omega
   · injection h with h;omega
theorem rFloat_nz {l:List UInt8} {a:Nat} {e:Int} (h:rFloat l a=.error e):e≠0:=by
 unfold rFloat at h
 split at h
 · split at h
   · cases h
   · injection h with h;omega
 · injection h with h;omega
theorem rKind_nz:∀ (n:Nat) (l:List UInt8) (a:Nat) (e:Int),rKind n l a=.error e→e≠0
 | 0,l,a,e,h=>by rw [rKind] at h;injection h with h;omega
 | n+1,l,a,e,h=>by
   rw [rKind] at h
   split at h
   · rename_i e1 hb
     injection h with h
     rw [← h];exact rByte_nz hb
   · split at h
     · injection h with h;omega
     · split at h
       · unfold rKindOf at h
         split at h
         · rename_i e1 hk
           injection h with h
           rw [← h];exact rKind_nz n _ _ _ hk
         · cases h
       · cases h
theorem rMany_nz {f:Nat→Except Int (Va×Nat)} (hf:∀ a e,f a=.error e→e≠0):∀ (n a:Nat) (vs:List Va) (e:Int),rMany f n a vs=.error e→e≠0
 | 0,a,vs,e,h=>by rw [rMany] at h;cases h
 | n+1,a,vs,e,h=>by
   rw [rMany] at h
   split at h
   · rename_i e1 hb
     injection h with h
     rw [← h];exact hf _ _ hb
   · exact rMany_nz hf n _ _ _ h
theorem rKinds_nz {k:Int} {f:Nat→Except Int (Va×Nat)} {l:List UInt8} {a:Nat} {e:Int} (hf:k=6∨k=7→∀ a e,f a=.error e→e≠0) (h:rKinds k f l a=.error e):e≠0:=by
 unfold rKinds at h
 split at h
 · split at h
   · rename_i e1 hb;injection h with h;rw [← h];exact rBit_nz hb
   · cases h
 split at h
 · split at h
   · rename_i e1 hb;injection h with h;rw [← h];exact lebGet_err hb
   · cases h
 split at h
 · split at h
   · rename_i e1 hb;injection h with h;rw [← h];exact rFloat_nz hb
   · cases h
 split at h
 · split at h
   · rename_i e1 hb;injection h with h;rw [← h];exact rText_nz (by omega) hb
   · split at h
     · cases h
     · injection h with h;omega
 split at h
 · split at h
   · rename_i e1 hb;injection h with h;rw [← h];exact rText_nz (by omega) hb
   · cases h
 split at h
 · rename_i h6
   split at h
   · rename_i e1 hb;injection h with h;rw [← h];exact rBit_nz hb
   · unfold rList at h
     split at h
     · rename_i e1 hb;injection h with h;rw [← h];exact rMany_nz (hf (.inl h6)) _ _ _ _ hb
     · cases h
 split at h
 · rename_i h7
   split at h
   · rename_i e1 hb;injection h with h;rw [← h];exact lebGet_err hb
   · split at h
     · unfold rList at h
       split at h
       · rename_i e1 hb;injection h with h;rw [← h];exact rMany_nz (hf (.inr h7)) _ _ _ _ hb
       · cases h
     · injection h with h;omega
 · cases h
theorem rValue_nz (n:Nat):∀ (t:Ty) (l:List UInt8) (a:Nat) (e:Int),SizeOf.sizeOf t<n→t.good=true→rValue t l a=.error e→e≠0:=by
 induction n with
 | zero=>intro t l a e hn;exact absurd hn (by omega)
 | succ n ih=>
   intro t l a e hn hg h
   cases t with
   | mk k ts=>
     rw [rValue] at h
     refine rKinds_nz (fun h67=>?_) h
     have hlen:ts.length=1:=by
      simp only [Ty.good,Bool.and_eq_true,beq_iff_eq,decide_eq_decide] at hg
      exact hg.1.1.1 h67
     obtain ⟨t,rfl⟩:=List.length_eq_one_iff.1 hlen
     have hgt:t.good=true:=by
      simp only [Ty.good,Ty.goods,Bool.and_eq_true] at hg
      exact hg.2.1
     have hsz:SizeOf.sizeOf t<n:=by
      simp only [Ty.mk.sizeOf_spec,List.cons.sizeOf_spec,List.nil.sizeOf_spec] at hn
      omega
     intro a e h
     rw [rHead] at h
     exact ih t l a e hsz hgt h
theorem rCol_nz {l:List UInt8} {cols:List Col} {a:Nat} {e:Int} (h:rCol l cols a=.error e):e≠0:=by
 unfold rCol at h
 split at h
 · rename_i e1 hb;injection h with h;rw [← h];exact rText_nz (by omega) hb
 · split at h
   · injection h with h;omega
   · split at h
     · injection h with h;omega
     · split at h
       · rename_i e1 hb;injection h with h;rw [← h];exact rKind_nz _ _ _ _ hb
       · rename_i ty k2 hk
         split at h
         · rename_i e1 hb;injection h with h;rw [← h];exact rBit_nz hb
         · split at h
           · split at h
             · rename_i e1 hb;injection h with h;rw [← h];exact rValue_nz _ _ _ _ _ (Nat.lt_succ_self _) (rKind_good _ _ _ _ _ hk) hb
             · cases h
           · cases h
theorem rCols_nz {l:List UInt8}:∀ (n a:Nat) (cols:List Col) (e:Int),rCols l n a cols=.error e→e≠0
 | 0,a,cols,e,h=>by rw [rCols] at h;cases h
 | n+1,a,cols,e,h=>by
   rw [rCols] at h
   split at h
   · rename_i e1 hb;injection h with h;rw [← h];exact rCol_nz hb
   · exact rCols_nz n _ _ _ h
theorem rSchema_nz {l:List UInt8} {a:Nat} {e:Int} (h:rSchema l a=.error e):e≠0:=by
 unfold rSchema at h
 split at h
 · rename_i e1 hb;injection h with h;rw [← h];exact lebGet_err hb
 · split at h
   · injection h with h;omega
   · split at h
     · injection h with h;omega
     · unfold rEnd at h
       split at h
       · rename_i e1 hb;injection h with h;rw [← h];exact rCols_nz _ _ _ _ hb
       · split at h
         · cases h
         · injection h with h;omega
end Go.Proofs.YtihodcnnappkbaaGreatDoor
namespace Go.Proofs.YtihodcnnappkbaaGreatDoor
open Go.RowKit Go.BigFrame
set_option linter.unusedVariables false
set_option linter.unusedSimpArgs false
set_option maxRecDepth 10000 in
theorem catch_panicking (g:Nat) (x er:Int) (older:List PanicEntry) (w:World) (hc:w.cell? ⟨g,0,none⟩=some (.int .i64 x)) (hz:w.frozen? ⟨g,0,none⟩=false) :
 CallsD Tryz.prog 148 #[.pointer (some ⟨g,0,none⟩)] (.panicking ({ v:=.iface 193 (.agg #[.int .i64 er]),recovered:=false } :: older)) w fun e u' w'=>
  e=.returned (.tuple #[])∧u'=.panicking ({ v:=.iface 193 (.agg #[.int .i64 er]),recovered:=true } :: older)∧w'=(w.setCell ⟨g,0,none⟩ (.int .i64 er)).alloc (.cells #[.int .i64 er] 193):=by
 refine callsD_of_wpS Tryz.func148 rfl fun c₀ cs hu=>?_
 have hta:∀ w:World,(Instr.typeAssert (.iface 193 (.agg #[.int .i64 er])) 20 193 true).run Tryz.prog w=.ok (.tuple #[.agg #[.int .i64 er],.bool true]) w:=fun w=>by
  unfold Instr.typeAssert
  simp [run_underlying Tryz.underlying193]
 have hp:g<w.heap.size:=World.block_lt_of_cell? w _ hc
 change Code.wpS _ _ _ { tmps:=#[.pointer (some ⟨g,0,none⟩),undef,undef,undef,undef,undef,undef,undef,undef,undef,undef,undef,undef,undef,undef,undef,undef],defers:=[] } _ _
 apply wpS_seq
 apply wpS_region
 simp [wpOpsS,go_sem,recoverD,hu,Tryz.ntmps148,Exit.thenS]
 refine wpS_of_wp ?_
 go_wp2
 simp [bodyPostS,results,Tryz.results148]
set_option maxRecDepth 10000 in
theorem catch_idle (p:Addr) (w:World) :
 CallsD Tryz.prog 148 #[.pointer (some p)] .returning w fun e u' w'=>e=.returned (.tuple #[])∧u'=.returning∧w'=w:=by
 refine callsD_of_wpS Tryz.func148 rfl fun c₀ cs hu=>?_
 change Code.wpS _ _ _ { tmps:=#[.pointer (some p),undef,undef,undef,undef,undef,undef,undef,undef,undef,undef,undef,undef,undef,undef,undef,undef],defers:=[] } _ _
 apply wpS_seq
 apply wpS_region
 simp [wpOpsS,go_sem,recoverD,hu,Tryz.ntmps148,Exit.thenS]
 refine wpS_of_wp ?_
 go_wp2
 cases c₀
 simp_all [bodyPostS,results,Tryz.results148]
theorem reads_ok (f:Nat) (caps:Array Value) (w:World) (P:World→Prop) (hf:∀ w,(callFunc f caps).run Tryz.prog w=.ok (.enter f caps) w)
 (hc:Calls Tryz.prog f caps (w.alloc (.cells #[.int .i64 0] 39)) fun e w'=>e=.returned (.tuple #[])∧w'.heap[w.heap.size]? = some (.cells #[.int .i64 0] 39)∧P w') :
 Calls Tryz.prog 117 #[.func (.func f) #[] caps] w fun e w'=>∃ w1,P w1∧e=.returned (.int .i64 0)∧w'=w1.setCell ⟨w.heap.size,0,none⟩ (.int .i64 0):=by
 have hmf:∀ (fn:Fn) (first cap:Array Value) (w:World),(Instr.makeFunc fn first cap).run Tryz.prog w=.ok (.func fn first cap) w:=fun _ _ _ _=>rfl
 have HC:=Hi hc
 clear hc
 go_enter_defers Tryz.func117,Tryz.ntmps117
 go_wp2_with fail
 refine HC.out.mono ?_
 rintro e w1 ⟨rfl,hb,hP⟩
 have c0:w1.cell? ⟨w.heap.size,0,none⟩=some (.int .i64 0):=by rw [obj_cell hb];rfl
 have z0:=obj_frozen hb 0
 have u1:=obj_lt hb
 have HP:=Hi hP
 clear hP HC hb
 go_wp2
 refine leaves_cons (f:=148) (args:=#[.pointer (some ⟨w.heap.size,0,none⟩)]) (by simp) (by simp [go_sem]) ?_
 refine (catch_idle _ _).mono ?_
 rintro e u' w2 ⟨rfl,rfl,rfl⟩
 simp [Leaves,settle,results,Tryz.results117,go_sem,u1,c0,z0]
 exact ⟨w1,HP.out,rfl⟩
theorem reads_no (f:Nat) (caps:Array Value) (er:Int) (w:World) (P:World→Prop) (hf:∀ w,(callFunc f caps).run Tryz.prog w=.ok (.enter f caps) w)
 (hc:Calls Tryz.prog f caps (w.alloc (.cells #[.int .i64 0] 39)) fun e w'=>e=raised er∧w'.heap[w.heap.size]? = some (.cells #[.int .i64 0] 39)∧P w') :
 Calls Tryz.prog 117 #[.func (.func f) #[] caps] w fun e w'=>∃ w1,P w1∧e=.returned (.int .i64 er)∧w'=(w1.setCell ⟨w.heap.size,0,none⟩ (.int .i64 er)).alloc (.cells #[.int .i64 er] 193):=by
 have hmf:∀ (fn:Fn) (first cap:Array Value) (w:World),(Instr.makeFunc fn first cap).run Tryz.prog w=.ok (.func fn first cap) w:=fun _ _ _ _=>rfl
 have HC:=Hi hc
 clear hc
 go_enter_defers Tryz.func117,Tryz.ntmps117
 go_wp2_with fail
 refine HC.out.mono ?_
 rintro e w1 ⟨rfl,hb,hP⟩
 have c0:w1.cell? ⟨w.heap.size,0,none⟩=some (.int .i64 0):=by rw [obj_cell hb];rfl
 have z0:=obj_frozen hb 0
 have u1:=obj_lt hb
 have HP:=Hi hP
 clear hP HC hb
 go_wp2
 refine leaves_cons (f:=148) (args:=#[.pointer (some ⟨w.heap.size,0,none⟩)]) (by simp) (by simp [go_sem]) ?_
 refine (catch_panicking w.heap.size 0 er _ _ c0 z0).mono ?_
 rintro e u' w2 ⟨rfl,rfl,rfl⟩
 simp [Leaves,settle,results,Tryz.results117,go_sem,u1,c0,z0]
 exact ⟨w1,HP.out,rfl⟩
def decodeS (l:List UInt8):Except Int (List Col):=if 1024<l.length then .error 2 else rSchema l 0
theorem decodeS_nz {l:List UInt8} {e:Int} (h:decodeS l=.error e):e≠0:=by
 unfold decodeS at h
 split at h
 · injection h with h;omega
 · exact rSchema_nz h
def DecPost (w:World) (r:Except Int (List Col)) (e:Ending) (w':World):Prop:=
 match r with
 | .error er=>e=.returned (.tuple #[.agg #[.slice none 0 0],.int .i64 er])∧Keeps w w'
 | .ok cols=>∃ A c,e=.returned (.tuple #[.agg #[.slice A cols.length c],.int .i64 0])∧SchS w' (fun b=>w.heap.size≤b) A cols∧Keeps w w'
def DecFree (w:World) (r:Except Int (List Col)) (e:Ending) (w':World):Prop:=
 match r with
 | .error er=>e=.returned (.tuple #[.agg #[.slice none 0 0],.int .i64 er])∧Keeps w w'
 | .ok cols=>∃ A c,e=.returned (.tuple #[.agg #[.slice A cols.length c],.int .i64 0])∧SchS w' (fun b=>w.heap.size≤b) A cols∧FreeC w' A cols∧Keeps w w'
def Dec1Post (w:World) (g sc:Nat) (r:Except Int (List Col)) (e:Ending) (w':World):Prop:=
 match r with
 | .error er=>e=raised er∧Touch (At g) w w'
 | .ok cols=>∃ A c,e=.returned (.tuple #[])∧SchS w' (fun b=>w.heap.size≤b) A cols∧FreeC w' A cols∧w'.heap[sc]? = some (.cells #[.slice A cols.length c] 30)∧Touch (fun b=>b=g∨b=sc) w w'
set_option maxRecDepth 10000 in
set_option maxHeartbeats 1000000 in
theorem decode1_calls (g rc sc:Nat) (A:Option Addr) (c:Nat) (l:List UInt8) (a:Nat) (w:World) (hr:RdAt w g A c l a) (htb:Tabs w) (hg1:g≠3) (hg2:g≠4)
 (hrc:w.cell? ⟨rc,0,none⟩=some (.pointer (some ⟨g,0,none⟩))) (hsc:w.heap[sc]? = some (.cells #[.slice none 0 0] 30)) (hne:sc≠g) :
 Calls Tryz.prog 118 #[.pointer (some ⟨rc,0,none⟩),.pointer (some ⟨sc,0,none⟩)] w (Dec1Post w g sc (rSchema l a)):=by
 have hc:=schema_calls g A c l a w hr htb hg1 hg2
 have HSC:=Hi hsc
 clear hr htb hsc
 cases hq:rSchema l a with
 | error er=>
   rw [hq] at hc
   have HC:=Hi hc
   clear hc hq
   go_enter Tryz.func118,Tryz.ntmps118
   go_wp2_with fail
   refine HC.out.mono ?_
   rintro e w1 ⟨rfl,ht⟩
   go_wp2
   exact ⟨rfl,rfl,ht⟩
 | ok cols=>
   rw [hq] at hc
   have HC:=Hi hc
   clear hc hq
   go_enter Tryz.func118,Tryz.ntmps118
   go_wp2_with fail
   refine HC.out.mono ?_
   rintro e w1 ⟨A1,c1,rfl,hs,hfc,ht⟩
   have hs1:=ht.obj HSC.out hne
   obtain ⟨d0,z0⟩:=cells1 hs1
   have hl:=obj_lt HSC.out
   have HS:=Hi hs
   have HFC:=Hi hfc
   have HT:=Hi ht
   have HS1:=Hi hs1
   clear hs hfc ht hs1 HC
   go_wp2
   go_end0
   have ht2:Touch (At sc) w1 (w1.setCell ⟨sc,0,none⟩ (.slice A1 cols.length c1)):=(Touch.refl _ w1).set 0 _
   exact ⟨A1,c1,rfl,HS.out.touch ht2 (fun b hb e=>by have hb':w.heap.size≤b:=hb;rw [At] at e;omega),HFC.out.touch HS.out ht2 (fun b hb e=>by have hb':w.heap.size≤b:=hb;rw [At] at e;omega),obj_set HS1.out 0 _,(HT.out.mono fun b _ h=>.inl h).trans ht2 fun b _ h=>.inr h⟩
set_option maxRecDepth 10000 in
set_option maxHeartbeats 1000000 in
theorem schDecode_free (A:Option Addr) (c:Nat) (l:List UInt8) (w:World) (hr:Reads w A l) (hl:l.length≤140737488355328) (hlc:l.length≤c) (hc:c≤9223372036854775807) (htb:Tabs w) :
 Calls Tryz.prog 85 #[.slice A l.length c] w (DecFree w (decodeS l)):=by
 by_cases h1:1024<l.length
 · have e1:decodeS l=.error 2:=by unfold decodeS;rw [if_pos h1]
   rw [e1]
   clear e1 hr htb hlc
   generalize l.length=L at h1 hl ⊢
   go_enter Tryz.func85,Tryz.ntmps85
   go_wp2
   exact bodyPost_ret (v:=.tuple #[.agg #[.slice none 0 0],.int .i64 2]) (by simp [results,Tryz.results85,go_sem]) rfl ⟨rfl,(Keeps.refl w).alloc _⟩
 · have e1:decodeS l=rSchema l 0:=by unfold decodeS;rw [if_neg h1]
   have hmf:∀ (fn:Fn) (first cap:Array Value) (w:World),(Instr.makeFunc fn first cap).run Tryz.prog w=.ok (.func fn first cap) w:=fun _ _ _ _=>rfl
   have hcf:=fun (args:Array Value) (wx:World)=>run_callFunc_body (P:=Tryz.prog) Tryz.func118 (by kernel_rfl) (by kernel_rfl) args wx
   obtain ⟨W,hW⟩:∃ W,W=(((w.alloc (.cells #[.slice none 0 0] 30)).alloc (.cells #[.slice A l.length c,.int .i64 0] 166)).alloc (.cells #[.pointer (some ⟨w.heap.size+1,0,none⟩)] 164)).alloc (.cells #[.slice none 0 0] 30):=⟨_,rfl⟩
   obtain ⟨W1,hW1⟩:∃ W1,W1=W.alloc (.cells #[.int .i64 0] 39):=⟨_,rfl⟩
   have hsW:W.heap.size=w.heap.size+4:=by rw [hW];simp
   have hkW:Keeps w W:=by rw [hW];exact ((((Keeps.refl w).alloc _).alloc _).alloc _).alloc _
   have hkW1:Keeps w W1:=by rw [hW1];exact hkW.alloc _
   have b0:W1.heap[w.heap.size]? = some (.cells #[.slice none 0 0] 30):=by rw [hW1,hW];exact obj_old (obj_old (obj_old (obj_old (obj_new w _) _) _) _) _
   have b1:W1.heap[w.heap.size+1]? = some (.cells #[.slice A l.length c,.int .i64 0] 166):=by rw [hW1,hW];exact obj_old (obj_old (obj_old (obj_new_at _ _ _ (by simp)) _) _) _
   have b2:W1.heap[w.heap.size+1+1]? = some (.cells #[.pointer (some ⟨w.heap.size+1,0,none⟩)] 164):=by rw [hW1,hW];exact obj_old (obj_old (obj_new_at _ _ _ (by simp)) _) _
   have b3:W1.heap[w.heap.size+1+1+1]? = some (.cells #[.slice none 0 0] 30):=by rw [hW1,hW];exact obj_old (obj_new_at _ _ _ (by simp)) _
   have b4:W1.heap[W.heap.size]? = some (.cells #[.int .i64 0] 39):=by rw [hW1];exact obj_new W _
   have hrd:RdAt W1 (w.heap.size+1) A c l 0:=⟨b1,hr.below hkW1.below,fun b e hn=>by
    have hp:0<l.length:=List.length_pos_iff.2 hn
    obtain ⟨ad,e1,hcell⟩:=hr.out 0 hp
    rw [e] at e1
    cases e1
    have:=World.block_lt_of_cell? w _ hcell
    rw [addr_add_block] at this
    omega,hl,hlc,hc,Nat.zero_le _⟩
   have hlt:=htb.lt
   have hcall:=decode1_calls (w.heap.size+1) (w.heap.size+1+1) (w.heap.size+1+1+1) A c l 0 W1 hrd (htb.below hkW1.below) (by omega) (by omega) (cells1 b2).1 b3 (by omega)
   have HB0:=Hi b0
   have HB4:=Hi b4
   have HK:=Hi hkW
   have HK1:=Hi hkW1
   have HSW:=Hi hsW
   clear hr htb hlc b0 b1 b2 b3 b4 hkW hkW1 hrd hsW hlt
   rw [e1]
   clear e1
   cases hq:rSchema l 0 with
   | error er=>
     have hnz:=rSchema_nz hq
     rw [hq] at hcall
     have q0:(er != 0)=true:=by simpa using hnz
     have hr2:=reads_no 118 #[.pointer (some ⟨w.heap.size+1+1,0,none⟩),.pointer (some ⟨w.heap.size+1+1+1,0,none⟩)] er W (fun w'=>Touch (At (w.heap.size+1)) W1 w') (fun wx=>hcf _ wx) (by
      rw [← hW1]
      exact hcall.mono fun e w' h=>⟨h.1,h.2.obj HB4.out (by have:=HSW.out;rw [At];omega),h.2⟩)
     have HR2:=Hi hr2
     have HW1:=Hi hW1
     clear hcall hq hnz hr2 hW1
     generalize l.length=L at hl h1 hW ⊢
     have hL:L≤1024:=by omega
     clear h1
     go_enter Tryz.func85,Tryz.ntmps85
     go_wp2_with fail
     rw [← hW]
     clear hW
     refine HR2.out.mono ?_
     rintro e w2 ⟨w1,ht,rfl,rfl⟩
     obtain ⟨W2,hW2⟩:∃ W2,W2=(w1.setCell ⟨W.heap.size,0,none⟩ (.int .i64 er)).alloc (.cells #[.int .i64 er] 193):=⟨_,rfl⟩
     rw [← hW2]
     have hk2:Touch (fun b=>w.heap.size<b) W1 W2:=by
      rw [hW2]
      exact ((ht.mono fun b _ h=>by rw [At] at h;omega).setCell _ _ fun _=>by have:=HSW.out;show w.heap.size<W.heap.size;omega).alloc _
     have hb2:=hk2.obj HB0.out (by omega)
     obtain ⟨d0,z0⟩:=cells1 hb2
     have u2:=obj_lt hb2
     have HK2:=Hi hk2
     clear hk2 hb2 hW2 ht HR2
     go_wp2
     refine bodyPost_ret (v:=.tuple #[.agg #[.slice none 0 0],.int .i64 er]) (by simp [results,Tryz.results85,go_sem,u2,d0]) rfl ⟨rfl,?_⟩
     exact Touch.nothing (((Touch.of_below (F:=fun b=>w.heap.size≤b) HK1.out.below fun b _ h=>h).trans HK2.out fun b _ h=>by omega).setCell _ _ fun _=>Nat.le_refl _) fun b hb h=>by omega
   | ok cols=>
     rw [hq] at hcall
     have hr2:=reads_ok 118 #[.pointer (some ⟨w.heap.size+1+1,0,none⟩),.pointer (some ⟨w.heap.size+1+1+1,0,none⟩)] W (fun w'=>∃ A' c',SchS w' (fun b=>W1.heap.size≤b) A' cols∧FreeC w' A' cols∧w'.heap[w.heap.size+1+1+1]? = some (.cells #[.slice A' cols.length c'] 30)∧Touch (fun b=>b=w.heap.size+1∨b=w.heap.size+1+1+1) W1 w') (fun wx=>hcf _ wx) (by
      rw [← hW1]
      refine hcall.mono fun e w' h=>?_
      obtain ⟨A',c',h1,h2,hfc,h3,h4⟩:=h
      exact ⟨h1,h4.obj HB4.out (by have:=HSW.out;omega),A',c',h2,hfc,h3,h4⟩)
     have HR2:=Hi hr2
     have HW1:=Hi hW1
     have HSW1:=Hi (show W1.heap.size=W.heap.size+1 by rw [hW1];simp)
     clear hcall hq hr2 hW1
     generalize l.length=L at hl h1 hW ⊢
     have hL:L≤1024:=by omega
     clear h1
     go_enter Tryz.func85,Tryz.ntmps85
     go_wp2_with fail
     rw [← hW]
     clear hW
     refine HR2.out.mono ?_
     rintro e w2 ⟨w1,⟨A',c',hs,hfc,hb3,ht⟩,rfl,rfl⟩
     obtain ⟨W2,hW2⟩:∃ W2,W2=w1.setCell ⟨W.heap.size,0,none⟩ (.int .i64 0):=⟨_,rfl⟩
     rw [← hW2]
     have hk12:Touch (At W.heap.size) w1 W2:=by rw [hW2];exact (Touch.refl _ w1).set 0 _
     have hk2:Touch (fun b=>w.heap.size<b) W1 W2:=(ht.mono fun b _ h=>by omega).trans hk12 fun b _ h=>by have:=HSW.out;rw [At] at h;omega
     have hs2:=hs.touch hk12 (fun b hb e=>by have hb':W1.heap.size≤b:=hb;have:=HSW1.out;rw [At] at e;omega)
     have HFC2:=Hi (hfc.touch hs hk12 (fun b hb e=>by have hb':W1.heap.size≤b:=hb;have:=HSW1.out;rw [At] at e;omega))
     have hb32:=hk12.obj hb3 (by have:=HSW.out;rw [At];omega)
     have hb2:=hk2.obj HB0.out (by omega)
     obtain ⟨d0,z0⟩:=cells1 hb2
     obtain ⟨e0,y0⟩:=cells1 hb32
     have u2:=obj_lt hb2
     have u3:=obj_lt hb32
     have HK2:=Hi hk2
     have HS2:=Hi hs2
     clear hk2 hb2 hW2 ht HR2 hs hfc hb3 hk12 hs2 hb32
     go_wp2
     refine bodyPost_ret (v:=.tuple #[.agg #[.slice A' cols.length c'],.int .i64 0]) (by simp [results,Tryz.results85,go_sem,u2,u3,d0,e0]) rfl ⟨A',c',rfl,?_,?_,?_⟩
     · have:=HSW.out
       have:=HSW1.out
       exact (HS2.out.touch ((Touch.refl (At w.heap.size) W2).set 0 _) (fun b hb e=>by have hb':W1.heap.size≤b:=hb;rw [At] at e;omega)).mono fun b _ hb=>by have hb':W1.heap.size≤b:=hb;omega
     · have:=HSW.out
       have:=HSW1.out
       exact HFC2.out.touch HS2.out ((Touch.refl (At w.heap.size) W2).set 0 _) (fun b hb e=>by have hb':W1.heap.size≤b:=hb;rw [At] at e;omega)
     · exact Touch.nothing (((Touch.of_below (F:=fun b=>w.heap.size≤b) HK1.out.below fun b _ h=>h).trans HK2.out fun b _ h=>by omega).setCell _ _ fun _=>Nat.le_refl _) fun b hb h=>by omega
theorem schDecode_calls (A:Option Addr) (c:Nat) (l:List UInt8) (w:World) (hr:Reads w A l) (hl:l.length≤140737488355328) (hlc:l.length≤c) (hc:c≤9223372036854775807) (htb:Tabs w) :
 Calls Tryz.prog 85 #[.slice A l.length c] w (DecPost w (decodeS l)):=
 (schDecode_free A c l w hr hl hlc hc htb).mono fun e w' h=>by
   unfold DecFree at h
   unfold DecPost
   cases hd:decodeS l with
   | error er=>rw [hd] at h;exact h
   | ok cols=>
     rw [hd] at h
     obtain ⟨A',c',h1,h2,_,h3⟩:=h
     exact ⟨A',c',h1,h2,h3⟩
end Go.Proofs.YtihodcnnappkbaaGreatDoor
namespace Go.Proofs.YtihodcnnappkbaaGreatDoor
open Go.RowKit
structure Grows (w w':World) (base:Nat) (v v':Value) (l':List UInt8):Prop where
 own:OwnB 5 w' base v' l'
 touch:Touch (fun k=>v.ownBlock=some k) w w'
 spot:v'.ownBlock=v.ownBlock∨∀ k,v'.ownBlock=some k→w.heap.size≤k
theorem Grows.refl {w:World} {base:Nat} {v:Value} {l:List UInt8} (h:OwnB 5 w base v l):Grows w w base v v l:=⟨h,Touch.refl _ _,.inl rfl⟩
theorem Grows.trans {w w1 w2:World} {base:Nat} {v v1 v2:Value} {l1 l2:List UInt8} (h:Grows w w1 base v v1 l1) (k:Grows w1 w2 base v1 v2 l2):Grows w w2 base v v2 l2:=by
 refine ⟨k.own,h.touch.trans k.touch fun i hi e=>?_,?_⟩
 · rcases h.spot with h1 | h1
   · rw [h1] at e;exact e
   · have:=h1 i e;omega
 · rcases k.spot with h2 | h2
   · rw [h2]
     exact h.spot
   · exact .inr fun i e=>Nat.le_trans h.touch.size (h2 i e)
theorem Grows.later {w w1 w2:World} {base:Nat} {v v1:Value} {l1:List UInt8} (h:Grows w w1 base v v1 l1) (k:Keeps w1 w2):Grows w w2 base v v1 l1:=⟨h.own.below k.below,h.touch.below k,h.spot⟩
theorem Grows.first {w w1 w2:World} {base:Nat} {v v1:Value} {l1:List UInt8} (k:Keeps w w1) (h:Grows w1 w2 base v v1 l1):Grows w w2 base v v1 l1:=
 ⟨h.own,(Touch.of_below (F:=fun i=>v.ownBlock=some i) k.below fun i hi hb=>absurd hi (by omega)).then h.touch,by
  rcases h.spot with h1 | h1
  · exact .inl h1
  · exact .inr fun i e=>Nat.le_trans k.size (h1 i e)⟩
theorem Grows.of {w w':World} {base:Nat} {v v':Value} {l':List UInt8} (h:OwnB 5 w' base v' l') (hg:w.grownBy w' v.ownBlock) (ha:v'.ownBlock=v.ownBlock∨v'.ownBlock=some w.heap.size):Grows w w' base v v' l':=
 ⟨h,Touch.of_grown hg fun _ e=>e,by
  rcases ha with ha | ha
  · exact .inl ha
  · exact .inr fun k e=>by rw [ha] at e;injection e with e;omega⟩
theorem Grows.keeps {w w':World} {base:Nat} {v v':Value} {l':List UInt8} (h:Grows w w' base v v' l') (hv:∀ k,v.ownBlock=some k→w.heap.size≤k):Keeps w w':=Touch.nothing h.touch fun k hk e=>by have:=hv k e;omega
theorem OwnB.ge {w:World} {e:TypeId} {base:Nat} {v:Value} {l:List UInt8} (h:OwnB e w base v l):∀ k,v.ownBlock=some k→base≤k:=own_base h
theorem info_u8b:(Tryz.prog.info? 5).map (fun i=>(i.zero,i.size,i.bytes))=some (some (.int .u8 0),1,1):=by kernel_rfl
theorem append_string_at {P:Program} (w:World) (base:Nat) (t u ty e:TypeId) (i:TypeInfo) (ht:P.underlying t=some (.slice e)) (hu:P.underlying u=some .string) (hi:P.info? e=some i) (hz:i.zero=some (.int .u8 0))
 (hsize:i.size=1) (hby:i.bytes=1) (v:Value) (n:Nat) (xs:List Value) (hown:w.ownsRow base e 1 v n xs) (s:ByteArray)
 (hbytes:n+s.size≤140737488355328) (v':Value) (w':World) (hrun:(Builtin.append_ #[t,u] ty #[v,.string s]).run P w=.ok v' w') :
 v'.ownBlock=v.ownBlock∨v'.ownBlock=some w.heap.size:=by
 have hxl:xs.length=n:=by simpa using hown.1
 rcases hown.2 with ⟨rfl,rfl⟩ | ⟨g,cap,cur,rfl,hbg,hg,hnc,hcm,hcs,htake⟩
 · by_cases hm:s.size=0
   · have hf:=Lib.run_firstCells_string (P:=P) w 1 s
     rw [hm] at hf
     have hn:Lib.strCells s=[]:=List.eq_nil_of_length_eq_zero (by rw [Lib.strCells_length];exact hm)
     have:(Builtin.append_ #[t,u] ty #[.slice none 0 0,.string s]).run P w=.ok (.slice none 0 0) w:=by
      simp [Builtin.append_,run_underlying ht,run_underlying hu,sizeOf,typeInfo,hi,hsize,Builtin.lenOf,hm,hf]
     rw [this] at hrun
     injection hrun with h1 _
     exact .inl (by rw [← h1])
   · have:=run_append_nil_string (P:=P) w t u ty e i (.int .u8 0) ht hu hi hz s (by omega) (by omega) (by rw [hby];omega)
     rw [this] at hrun
     injection hrun with h1 _
     exact .inr (by rw [← h1];rfl)
 · by_cases hroom:n+s.size≤cap
   · have:=Lib.run_append_room_string (P:=P) w t u ty e i ht hu hi hsize g n cap cur hg s hroom (by simp only [Nat.mul_one] at hcs;omega)
     rw [this] at hrun
     injection hrun with h1 _
     exact .inl (by rw [← h1];rfl)
   · have:=Lib.run_append_grow_string (P:=P) w t u ty e i (.int .u8 0) ht hu hi hz ⟨g,0,none⟩ n cap xs (by rw [hsize];simpa using hxl) (hown.cells (g:=g) rfl) s (by omega) (by omega) (by rw [hby];exact growslice_fits (by omega) (by omega))
     rw [this] at hrun
     injection hrun with h1 _
     exact .inr (by rw [← h1];rfl)
section
variable {P:Program} {ops:Array Oper} {rest:List Oper} {o:Oper} {a:Act} {Q:Exit→Act→World→Prop} {w:World}
theorem wpList_append_text (base:Nat) (hgd:o.guard=none) (sl x:Operand) (t u e:TypeId)
 (ho:o.op=.call { callee:=.builtin .append,args:=#[sl,x],argTypes:=#[t,u] })
 (ht:P.underlying t=some (.slice e)) (hu:P.underlying u=some .string) (hinfo:(P.info? e).map (fun i=>(i.zero,i.size,i.bytes))=some (some (.int .u8 0),1,1))
 (v:Value) (l:List UInt8) (hs:a.eval sl=v) (hown:OwnB e w base v l) (s:ByteArray) (hx:a.eval x=.string s)
 (hlen:l.length+s.size≤140737488355328) (hbase:base≤w.heap.size)
 (h:∀ v' w',OwnB e w' base v' (l++s.data.toList)→w.grownBy w' v.ownBlock→(v'.ownBlock=v.ownBlock∨v'.ownBlock=some w.heap.size)→wpList P ops Q rest (a.put o.dst v') w'):wpList P ops Q (o :: rest) a w:=by
 obtain ⟨i0,hi,hzz⟩:=Option.map_eq_some_iff.1 hinfo
 simp only [Prod.mk.injEq] at hzz
 obtain ⟨hz0,hz1,hz2⟩:=hzz
 refine wpList_plain hgd fun K hK=>?_
 obtain ⟨v',w',hr,h2,h3,_⟩:=Lib.run_append_own_string (P:=P) w base t u o.type e i0 ht hu hi hz0 hz1 hz2 v l.length (u8s l) hown s (by simp only [maxLen];omega) hlen hbase
 have h4:=append_string_at (P:=P) w base t u o.type e i0 ht hu hi hz0 hz1 hz2 v l.length (u8s l) hown s hlen v' w' hr
 unfold Oper.wp execOp
 simp only [ho,resolve,invoke,builtin,Sem.run_bind,Sem.run_pure,Result.andThen_ok,List.map_toArray,List.map_cons,List.map_nil,hs,hx,hr]
 refine hK _ _ (h v' w' ?_ h3 h4)
 have e1:(l++s.data.toList).length=l.length+s.size:=by rw [List.length_append];rfl
 unfold OwnB
 rw [e1,u8s_append]
 exact h2
end
end Go.Proofs.YtihodcnnappkbaaGreatDoor
namespace Go.Proofs.YtihodcnnappkbaaGreatDoor
open Go.RowKit
set_option linter.unusedVariables false
set_option linter.unusedSimpArgs false
def i64s (l:List Int):List Value:=l.map (Value.int .i64)
theorem i64s_length (l:List Int):(i64s l).length=l.length:=by simp [i64s]
theorem row_i64 {w:World} {A:Option Addr} {l:List Int} (h:RowAt w A (i64s l)) (k:Nat) (hk:k<l.length):∃ ad,A=some ad∧w.cell? (ad.add k)=some (.int .i64 (l[k]'hk)):=
 h k _ (by simp [i64s,hk])
def outOf (m n:Int):Bool:=decide (n<0)||decide (m≤n)
def idxOf:List Int→Int→Nat→Int
 | [],_,_=>-1
 | n :: l,m,i=>if outOf m n then (i:Int) else idxOf l m (i+1)
theorem idxOf_ge (l:List Int) (m:Int) (i:Nat):decide (0≤idxOf l m i)=l.any (outOf m):=by
 induction l generalizing i with
 | nil=>rfl
 | cons n l ih=>
   rw [idxOf,List.any_cons]
   cases outOf m n with
   | true=>simp
   | false=>simp only [Bool.false_eq_true,if_false,Bool.false_or];exact ih _
set_option maxRecDepth 10000 in
theorem limit_calls (p:Addr) (m n:Int) (w:World) (hp:w.cell? p=some (.int .i64 m)):Calls Tryz.prog 208 #[.int .i64 n,.pointer (some p)] w fun e w'=>e=.returned (.bool (outOf m n))∧Keeps w w':=by
 by_cases hn:n<0
 · have e:outOf m n=true:=by simp [outOf,hn]
   rw [e]
   go_enter Tryz.func208,Tryz.ntmps208
   go_wp2
   go_ret
   exact ⟨rfl,Keeps.refl w⟩
 · have e:outOf m n=decide (m≤n):=by simp [outOf,hn]
   rw [e]
   go_enter Tryz.func208,Tryz.ntmps208
   go_wp2
   go_ret
   exact ⟨rfl,Keeps.refl w⟩
set_option maxRecDepth 20000 in
set_option maxHeartbeats 1000000 in
theorem indexFunc_calls (p:Addr) (m:Int) (A:Option Addr) (c:Nat) (l:List Int) (w:World) (hl:l.length≤1000000) (hr:RowAt w A (i64s l)) (hp:w.cell? p=some (.int .i64 m)) :
 Calls Tryz.prog 115 #[.slice A l.length c,.func (.func 208) #[] #[.pointer (some p)]] w fun e w'=>e=.returned (.int .i64 (idxOf l m 0))∧Keeps w w':=by
 have hcf:∀ (args:Array Value) (w:World),(callFunc 208 args).run Tryz.prog w=.ok (.enter 208 args) w:=run_callFunc_body Tryz.func208 (by kernel_rfl) (by kernel_rfl)
 have hpb:=World.block_lt_of_cell? w _ hp
 obtain ⟨g,o,fld⟩:=p
 generalize hN:l.length=N at hl ⊢
 generalize hR:idxOf l m 0=R
 have HN:=Hi hN
 have HR:=Hi hR.symm
 have HA:=Hi hr
 have HP:=Hi hp
 clear hr hN hR hp
 go_enter Tryz.func115,Tryz.ntmps115
 go_wp2
 go_loopw [8] (fun i wr=>∃ k:Nat,k≤N∧i=.int .i64 (k:Int)∧R=idxOf (l.drop k) m k∧Keeps w wr) (fun i _=>N-(intOf i).toNat)
 case atStart=>exact ⟨0,by omega,rfl,HR.out,(Keeps.refl w)⟩
 case round=>
  obtain ⟨k,hk,rfl,hres,hkw⟩:=hrel
  by_cases hlt:k<N
  · have hlt1:k<l.length:=by rw [HN.out];exact hlt
    obtain ⟨ad,rfl,hcell⟩:=row_i64 (HA.out.below hkw.below) k hlt1
    have hcall:=limit_calls ⟨g,o,fld⟩ m (l[k]'hlt1) wr ((hkw.below.cell hpb).trans HP.out)
    rw [List.drop_eq_getElem_cons hlt1,idxOf] at hres
    have HC:=Hi hcall
    have HRES:=Hi hres
    have HKW:=Hi hkw
    clear hcall hres hkw
    go_wp2_with fail
    refine HC.out.mono ?_
    rintro e w2 ⟨rfl,hk2⟩
    cases hb:outOf m (l[k]'hlt1) with
    | true=>
      have hres:=HRES.out
      rw [hb,if_pos rfl] at hres
      have HRR:=Hi hres
      clear hres
      have HK2:=Hi (HKW.out.trans hk2)
      clear hk2
      go_wp2
      go_ret
      exact ⟨by rw [HRR.out];rfl,HK2.out⟩
    | false=>
      have hres:=HRES.out
      rw [hb] at hres
      simp only [Bool.false_eq_true,if_false] at hres
      have HRR:=Hi hres
      clear hres
      have HK2:=Hi (HKW.out.trans hk2)
      clear hk2
      go_wp2
      first
       | exact ⟨⟨k+1,by omega,by go_num,HRR.out,HK2.out⟩,by simp [intOf];omega⟩
       | (go_roundw
          case rel=>exact ⟨k+1,by omega,by go_num,HRR.out,HK2.out⟩
          case measure=>simp [intOf];omega)
  · have e:l.drop k=[]:=List.drop_eq_nil_of_le (by rw [HN.out];omega)
    rw [e,idxOf] at hres
    have HRES:=Hi hres
    clear hres e
    go_wp2
    go_ret
    exact ⟨by rw [HRES.out];rfl,hkw⟩
set_option maxRecDepth 20000 in
theorem beyond_calls (m:Int) (A:Option Addr) (c:Nat) (l:List Int) (w:World) (hl:l.length≤1000000) (hr:RowAt w A (i64s l)) :
 Calls Tryz.prog 207 #[.int .i64 m,.slice A l.length c] w fun e w'=>e=.returned (.bool (l.any (outOf m)))∧Keeps w w':=by
 have hmf:∀ (fn:Fn) (first cap:Array Value) (w:World),(Instr.makeFunc fn first cap).run Tryz.prog w=.ok (.func fn first cap) w:=fun _ _ _ _=>rfl
 obtain ⟨W,hW⟩:∃ W,W=w.alloc (.cells #[.int .i64 m] 2):=⟨_,rfl⟩
 have hkW:Keeps w W:=by rw [hW];exact (Keeps.refl w).alloc _
 have b0:W.heap[w.heap.size]? = some (.cells #[.int .i64 m] 2):=by rw [hW];exact obj_new w _
 have hc:=indexFunc_calls ⟨w.heap.size,0,none⟩ m A c l W hl (hr.below hkW.below) (cells1 b0).1
 have hge:=idxOf_ge l m 0
 have hc2:Calls Tryz.prog 80 #[.slice A l.length c,.func (.func 208) #[] #[.pointer (some ⟨w.heap.size,0,none⟩)]] W fun e w'=>e=.returned (.bool (l.any (outOf m)))∧Keeps W w':=by
  have HC:=Hi hc
  have HG:=Hi hge
  clear hc hge hW hkW b0 hr
  generalize l.length=N at HC ⊢
  generalize w.heap.size=z at HC ⊢
  generalize idxOf l m 0=R at HC HG
  generalize l.any (outOf m)=T at HG ⊢
  go_enter Tryz.func80,Tryz.ntmps80
  go_wp2_with fail
  refine HC.out.mono ?_
  rintro e w1 ⟨rfl,hk1⟩
  go_wp2
  go_ret
  exact ⟨by rw [← HG.out];rfl,hk1⟩
 have HC:=Hi hc2
 have HK:=Hi hkW
 clear hc hc2 hge hkW b0 hr
 generalize l.length=N at HC ⊢
 generalize l.any (outOf m)=T at HC ⊢
 go_enter Tryz.func207,Tryz.ntmps207
 go_wp2_with fail
 rw [← hW]
 clear hW
 refine HC.out.mono ?_
 rintro e w1 ⟨rfl,hk1⟩
 go_wp2
 go_ret
 exact ⟨rfl,HK.out.trans hk1⟩
def lebs (l:List Nat):List UInt8:=l.flatMap leb
def n64s (l:List Nat):List Value:=l.map fun n:Nat=>Value.int .i64 ((n:Nat):Int)
theorem row_n64 {w:World} {A:Option Addr} {l:List Nat} (h:RowAt w A (n64s l)) (k:Nat) (hk:k<l.length):∃ ad,A=some ad∧w.cell? (ad.add k)=some (.int .i64 ((l[k]'hk:Nat):Int)):=
 h k _ (by simp [n64s,hk])
theorem lebs_take (l:List Nat) (k:Nat) (hk:k<l.length):lebs (l.take (k+1))=lebs (l.take k)++leb (l[k]'hk):=by
 rw [List.take_add_one,List.getElem?_eq_getElem hk]
 show (l.take k++[l[k]'hk]).flatMap leb=_
 rw [List.flatMap_append,List.flatMap_singleton]
 rfl
theorem lebs_le (l:List Nat) (h:∀ n∈l,n<9223372036854775808):(lebs l).length≤10*l.length:=by
 induction l with
 | nil=>simp [lebs]
 | cons n l ih=>
   have h1:=leb_le n (by have:=h n (by simp);omega)
   have h2:=ih fun m hm=>h m (by simp [hm])
   simp only [lebs,List.flatMap_cons,List.length_append,List.length_cons] at h2 ⊢
   omega
set_option maxRecDepth 20000 in
set_option maxHeartbeats 1000000 in
theorem frPut_calls (base:Nat) (v:Value) (l:List UInt8) (B:Option Addr) (cb:Nat) (ns:List Nat) (w:World) (hown:OwnB 5 w base v l) (hbase:base≤w.heap.size) (hns:∀ n∈ns,n<9223372036854775808)
 (hr:RowAt w B (n64s ns)) (hap:∀ a,B=some a→v.ownBlock≠some a.block) (hlen:l.length+10*ns.length≤140737488355000) :
 Calls Tryz.prog 206 #[v,.slice B ns.length cb] w fun e w'=>∃ v',e=.returned v'∧Grows w w' base v v' (l++lebs ns):=by
 obtain ⟨A,c,rfl,hlc,_⟩:=hown.form
 have HG0:=Hi (Grows.refl hown)
 clear hown
 have HR:=Hi hr
 have HAP:=Hi hap
 have HNS:=Hi hns
 clear hr hap hns
 generalize hL:l.length=L at hlen hlc HG0 HAP ⊢
 generalize hN:ns.length=N at hlen ⊢
 have HL:=Hi hL
 have HN:=Hi hN
 clear hL hN
 go_enter Tryz.func206,Tryz.ntmps206
 go_wp2_with fail
 go_loopw [0,9] (fun b i wr=>∃ (k:Nat) (A':Option Addr) (c' M:Nat),k≤N∧i=.int .i64 (k:Int)∧b=.slice A' M c'∧Grows w wr base (.slice A L c) (.slice A' M c') (l++lebs (ns.take k))) (fun _ i _=>N-(intOf i).toNat)
 case atStart=>exact ⟨0,A,c,L,Nat.zero_le _,rfl,rfl,by simpa [lebs] using HG0.out⟩
 case round=>
  obtain ⟨k,A',c',M,hk,rfl,rfl,hg⟩:=hrel
  by_cases hlt:k<N
  · have hlt1:k<ns.length:=by rw [HN.out];exact hlt
    have hgr:=hg.touch.size
    obtain ⟨ad,rfl,hcell⟩:=row_n64 (hg.touch.row HR.out (fun a e _ hF=>HAP.out a e hF)) k hlt1
    have hn:=HNS.out _ (List.getElem_mem hlt1)
    have hc:=lebPut_calls (ns[k]'hlt1) (by omega) wr
    have htk:=lebs_take ns k hlt1
    have hll:=lebs_le (ns.take k) fun n hm=>HNS.out n (List.mem_of_mem_take hm)
    have h10:=leb_le (ns[k]'hlt1) (by omega)
    have htl:(ns.take k).length=k:=by rw [List.length_take];omega
    rw [htl] at hll
    generalize ns[k]'hlt1=n at hcell hn hc htk h10
    have hwr:IntKind.u64.wrap ((n:Nat):Int)=(n:Int):=IntWalk.u64_in _ (by omega)
    have HC:=Hi hc
    have HTK:=Hi htk
    have HG:=Hi hg
    have HLL:=Hi hll
    have H10:=Hi h10
    clear hc htk hg hlt1 hll h10 htl HG0
    go_wp2_with fail
    refine HC.out.mono ?_
    rintro e w1 ⟨v1,rfl,hown1,hk1⟩
    obtain ⟨A1,c1,rfl,hlc1,hr1,_,_⟩:=hown1.form
    have HR1:=Hi hr1
    have HK1:=Hi hk1
    clear hown1 hr1 hk1 HC
    have hM:M=(l++lebs (ns.take k)).length:=by
     obtain ⟨_,_,e,_⟩:=HG.out.own.form
     injection e
    have HM:=Hi hM
    clear hM
    generalize hm:(leb n).length=mm at hlc1
    have HMM:=Hi hm
    clear hm
    go_wp2_with (at_builtin;refine wpList_append_bytes (w0:=w1) base rfl _ _ 31 5 rfl Tryz.underlying31 info_u8b (.slice A' M c') (l++lebs (ns.take k)) (leb n) rfl ?c0 A1 c1 (by rw [HMM.out];rfl) HR1.out ?c2 ?c3 ?c4 ?_)
    case c0=>exact HG.out.own.below HK1.out.below
    case c2=>have:=HLL.out;have:=H10.out;have:=HL.out;rw [List.length_append];omega
    case c3=>have:=HK1.out.size;omega
    case c4=>exact Below.refl _ _
    intro v2 w2 hown2 _ hg2 ha2
    have hg3:=HG.out.trans (Grows.first HK1.out (Grows.of hown2 hg2 ha2))
    first | rw [List.append_assoc,← HTK.out] at hg3 | rw [← HTK.out] at hg3
    obtain ⟨A2,c2,e2,hlc2,_⟩:=hg3.own.form
    generalize (l++lebs (ns.take (k+1))).length=M2 at e2 hlc2
    subst e2
    have HG3:=Hi hg3
    clear hown2 hg2 ha2 hg3 HG
    go_wp2
    first
     | exact ⟨⟨k+1,A2,c2,M2,by omega,by go_num,rfl,HG3.out⟩,by simp [intOf];omega⟩
     | (go_roundw
        case rel=>exact ⟨k+1,A2,c2,M2,by omega,by go_num,rfl,HG3.out⟩
        case measure=>simp [intOf];omega)
  · have e8:ns.take k=ns:=List.take_of_length_le (by rw [HN.out];omega)
    rw [e8] at hg
    have HG4:=Hi hg
    clear hg e8
    go_wp2
    go_ret
    exact ⟨_,rfl,HG4.out⟩
def textBytes (s:ByteArray):List UInt8:=leb s.size++s.data.toList
set_option maxRecDepth 10000 in
set_option maxHeartbeats 1000000 in
theorem putText_calls (base:Nat) (v:Value) (l:List UInt8) (s:ByteArray) (w:World) (hown:OwnB 5 w base v l) (hbase:base≤w.heap.size) (hlen:l.length+s.size≤140737488355000) :
 Calls Tryz.prog 135 #[v,.string s] w fun e w'=>∃ v',e=.returned v'∧Grows w w' base v v' (l++textBytes s):=by
 have hs64:s.size<18446744073709551616:=by omega
 have hl10:=leb_le s.size hs64
 have hc:=lebPut_calls s.size hs64 w
 obtain ⟨A,c,rfl,hlc,_,hcm,_⟩:=hown.form
 have HO:=Hi hown
 have HC:=Hi hc
 have H10:=Hi hl10
 clear hown hc hl10
 generalize hL:l.length=L at hlen HO hlc
 have HL:=Hi hL
 clear hL
 go_enter Tryz.func135,Tryz.ntmps135
 go_wp2_with fail
 refine HC.out.mono ?_
 rintro e w1 ⟨v1,rfl,hown1,hk1⟩
 obtain ⟨A1,c1,rfl,hlc1,hr1,_,_⟩:=hown1.form
 have HR1:=Hi hr1
 have HK1:=Hi hk1
 have HO1:=Hi (HO.out.below hk1)
 clear hown1 hr1 hk1 HC
 generalize hm:(leb s.size).length=m at hlc1
 have HM:=Hi hm
 clear hm
 go_wp2_with (at_builtin;refine wpList_append_bytes (w0:=w1) base rfl _ _ 31 5 rfl Tryz.underlying31 info_u8b (.slice A L c) l (leb s.size) rfl ?c0 A1 c1 (by rw [HM.out];rfl) HR1.out ?c2 ?c3 ?c4 ?_)
 case c0=>exact HO1.out
 case c2=>have:=HL.out;have:=H10.out;omega
 case c3=>have:=HK1.out.size;omega
 case c4=>exact Below.refl _ _
 intro v2 w2 hown2 _ hg2 ha2
 obtain ⟨A2,c2,rfl,hlc2,_,_,_⟩:=hown2.form
 have HO2:=Hi hown2
 have HG2:Hid (Grows w w2 base (.slice A L c) (.slice A2 (l++leb s.size).length c2) (l++leb s.size)):=Hi (Grows.first HK1.out (Grows.of hown2 hg2 ha2))
 clear hown2 hg2 ha2
 generalize hL2:(l++leb s.size).length=L2 at hlc2 HO2 HG2
 have HL2:=Hi hL2
 clear hL2
 go_wp2_with (at_builtin;refine wpList_append_text base rfl _ _ 31 9 5 rfl Tryz.underlying31 Tryz.underlying9 info_u8b (.slice A2 L2 c2) (l++leb s.size) rfl ?d0 s rfl ?d1 ?d2 ?_)
 case d0=>exact HO2.out
 case d1=>have:=HL.out;have:=H10.out;rw [List.length_append];omega
 case d2=>have:=HG2.out.touch.size;omega
 intro v3 w3 hown3 hg3 ha3
 have HG3:=Hi (Grows.of hown3 hg3 ha3)
 clear hown3 hg3 ha3
 go_wp2
 go_ret
 have:=HG2.out.trans HG3.out
 exact ⟨v3,rfl,by unfold textBytes;first | exact this | (rw [← List.append_assoc];exact this)⟩
set_option maxRecDepth 10000 in
set_option maxHeartbeats 1000000 in
theorem putBit_calls (base:Nat) (v:Value) (l:List UInt8) (b:Bool) (w:World) (hown:OwnB 5 w base v l) (hbase:base≤w.heap.size) (hlen:l.length≤140737488355000) :
 Calls Tryz.prog 137 #[v,.bool b] w fun e w'=>∃ v',e=.returned v'∧Grows w w' base v v' (l++[if b then 1 else 0]):=by
 obtain ⟨A,c,rfl,hlc,_,hcm,_⟩:=hown.form
 have HO:=Hi hown
 clear hown
 generalize hL:l.length=L at hlen HO hlc
 have HL:=Hi hL
 clear hL
 cases b with
 | true=>
   go_enter Tryz.func137,Tryz.ntmps137
   go_wp2_with (at_builtin;refine wpList_append_bytes (w0:=w.alloc (.cells #[.int .u8 1] 5)) base rfl _ _ 31 5 rfl Tryz.underlying31 info_u8b (.slice A L c) l [1] rfl ?c0 (some ⟨w.heap.size,0,none⟩) 1 rfl ?c1 ?c2 ?c3 ?c4 ?_)
   case c0=>exact HO.out.below ((Keeps.refl w).alloc _).below
   case c1=>exact Reads.new w [1] _ _ _ rfl
   case c2=>have:=HL.out;simp;omega
   case c3=>simp;omega
   case c4=>exact Below.refl _ _
   intro v2 w2 hown2 _ hg2 ha2
   have HG2:=Hi (Grows.first ((Keeps.refl w).alloc _) (Grows.of hown2 hg2 (by simpa using ha2)))
   clear hown2 hg2 ha2
   go_wp2
   go_ret
   exact ⟨_,rfl,HG2.out⟩
 | false=>
   go_enter Tryz.func137,Tryz.ntmps137
   go_wp2_with (at_builtin;refine wpList_append_bytes (w0:=w.alloc (.cells #[.int .u8 0] 5)) base rfl _ _ 31 5 rfl Tryz.underlying31 info_u8b (.slice A L c) l [0] rfl ?c0 (some ⟨w.heap.size,0,none⟩) 1 rfl ?c1 ?c2 ?c3 ?c4 ?_)
   case c0=>exact HO.out.below ((Keeps.refl w).alloc _).below
   case c1=>exact Reads.new w [0] _ _ _ rfl
   case c2=>have:=HL.out;simp;omega
   case c3=>simp;omega
   case c4=>exact Below.refl _ _
   intro v2 w2 hown2 _ hg2 ha2
   have HG2:=Hi (Grows.first ((Keeps.refl w).alloc _) (Grows.of hown2 hg2 (by simpa using ha2)))
   clear hown2 hg2 ha2
   go_wp2
   go_ret
   exact ⟨_,rfl,HG2.out⟩
theorem xor_u64 (a b:Nat) (ha:a<18446744073709551616) (hb:b<18446744073709551616):bits BinOp.xor IntKind.u64 (a:Int) (b:Int)=((a ^^^ b:Nat):Int):=by
 show IntKind.u64.wrap ((BitVec.ofInt 64 (a:Int) ^^^ BitVec.ofInt 64 (b:Int)).toNat:Int)=_
 have e:(BitVec.ofInt 64 (a:Int) ^^^ BitVec.ofInt 64 (b:Int)).toNat=a ^^^ b:=by
  simp only [BitVec.ofInt_natCast,BitVec.toNat_xor,BitVec.toNat_ofNat]
  rw [Nat.mod_eq_of_lt ha,Nat.mod_eq_of_lt hb]
 have hlt:a ^^^ b<2 ^ 64:=Nat.xor_lt_two_pow (by simpa using ha) (by simpa using hb)
 rw [e,IntWalk.u64_in _ (by omega)]
theorem xor_ones (a:Nat) (ha:a<18446744073709551616):a ^^^ 18446744073709551615=18446744073709551615-a:=by
 have:(BitVec.ofNat 64 a ^^^ BitVec.allOnes 64).toNat=18446744073709551615-a:=by
  rw [BitVec.xor_allOnes,BitVec.toNat_not,BitVec.toNat_ofNat,Nat.mod_eq_of_lt (by omega)]
 rw [BitVec.toNat_xor,BitVec.toNat_ofNat,Nat.mod_eq_of_lt (by omega),BitVec.toNat_allOnes] at this
 exact this
set_option maxRecDepth 10000 in
set_option maxHeartbeats 400000 in
theorem zig_calls (n:Int) (h1:-9223372036854775808≤n) (h2:n≤9223372036854775807) (w:World):Calls Tryz.prog 167 #[.int .i64 n] w fun e w'=>e=.returned (.int .u64 ((zig n:Nat):Int))∧w=w':=by
 by_cases h0:0≤n
 · have hz:zig n=2*n.toNat:=by unfold zig;rw [if_pos h0]
   have HZ:=Hi hz
   clear hz
   obtain ⟨m,hm⟩:∃ m:Nat,m=n.toNat:=⟨_,rfl⟩
   obtain rfl:n=(m:Int):=by omega
   have hx:=xor_u64 (2*m) 0 (by omega) (by omega)
   rw [Nat.xor_zero] at hx
   have e1:IntKind.u64.wrap (m:Int)=(m:Int):=IntWalk.u64_in _ (by omega)
   have e2:IntKind.u64.wrap ((m:Int)*2)=((2*m:Nat):Int):=by rw [IntWalk.u64_in _ (by omega)];omega
   have e3:(m:Int) / 9223372036854775808=0:=by omega
   have e4:bits BinOp.xor IntKind.u64 (2*(m:Int)) 0=2*(m:Int):=by
    have:=hx
    rw [show ((2*m:Nat):Int)=2*(m:Int) by omega] at this
    exact this
   clear hm hx
   go_enter Tryz.func167,Tryz.ntmps167
   go_wp2
   go_ret
   exact ⟨by rw [HZ.out];show Ending.returned (.int .u64 (2*(m:Int)))=_;congr 2 <;> omega,rfl⟩
 · have hz:zig n=2*(-(n+1)).toNat+1:=by unfold zig;rw [if_neg h0]
   have HZ:=Hi hz
   clear hz
   obtain ⟨m,hm⟩:∃ m:Nat,m=(-(n+1)).toNat:=⟨_,rfl⟩
   have hmn:n = -(m:Int)-1:=by omega
   have hx:=xor_u64 (18446744073709551614-2*m) 18446744073709551615 (by omega) (by omega)
   rw [xor_ones _ (by omega)] at hx
   have HM:=Hi hmn
   have e1:IntKind.u64.wrap n=n+18446744073709551616:=by
    simp only [IntKind.wrap,IntKind.bits,IntKind.signed];simp;omega
   have e3:n / 9223372036854775808 = -1:=by omega
   have HX:=Hi hx
   clear hm hmn hx
   go_enter Tryz.func167,Tryz.ntmps167
   go_wp2
   go_ret
   have f1:IntKind.u64.wrap ((n+18446744073709551616)*2)=((18446744073709551614-2*m:Nat):Int):=by
    have:=HM.out
    simp only [IntKind.wrap,IntKind.bits,IntKind.signed];simp;omega
   have f2:IntKind.u64.wrap (-1)=((18446744073709551615:Nat):Int):=by decide
   refine ⟨?_,rfl⟩
   show Ending.returned (.int .u64 (bits BinOp.xor IntKind.u64 (IntKind.u64.wrap ((n+18446744073709551616)*2)) (IntKind.u64.wrap (-1))))=_
   rw [f1,f2,HX.out,HZ.out]
   congr 2
   have:=HM.out
   omega
end Go.Proofs.YtihodcnnappkbaaGreatDoor
namespace Go.Proofs.YtihodcnnappkbaaGreatDoor
open Go.RowKit Go.BigFrame
set_option linter.unusedVariables false
set_option linter.unusedSimpArgs false
mutual
def tyCheck:Ty→Nat→Int
 | .mk k ts,d=>if 4<d then 62 else if k<1∨7<k then 60 else if k=6∨k=7 then (if ts.length=1 then tyHead ts (d+1) else 60) else if ts.length=0 then 0 else 60
def tyHead:List Ty→Nat→Int
 | [],_=>0
 | t :: _,d=>tyCheck t d
end
mutual
def putTy:Ty→List UInt8
 | .mk k ts=>UInt8.ofNat k.toNat :: if k=6∨k=7 then putTyHead ts else []
def putTyHead:List Ty→List UInt8
 | []=>[]
 | t :: _=>putTy t
end
theorem tyCheck_ok {k:Int} {ts:List Ty} {d:Nat} (h:tyCheck (.mk k ts) d=0):d≤4∧1≤k∧k≤7∧((k=6∨k=7)→∃ t,ts=[t]∧tyCheck t (d+1)=0)∧(¬(k=6∨k=7)→ts=[]):=by
 rw [tyCheck] at h
 split at h
 · omega
 split at h
 · omega
 refine ⟨by omega,by omega,by omega,fun h67=>?_,fun h67=>?_⟩
 · rw [if_pos h67] at h
   split at h
   · rename_i hl
     obtain ⟨t,rfl⟩:=List.length_eq_one_iff.1 hl
     rw [tyHead] at h
     exact ⟨t,rfl,h⟩
   · omega
 · rw [if_neg h67] at h
   split at h
   · rename_i hl;exact List.eq_nil_of_length_eq_zero hl
   · omega
theorem putTy_length:∀ (n:Nat) (t:Ty) (d:Nat),n+d=5→tyCheck t d=0→(putTy t).length≤n
 | 0,.mk k ts,d,hd,h=>by have:=(tyCheck_ok h).1;omega
 | n+1,.mk k ts,d,hd,h=>by
   obtain ⟨_,_,_,h67,_⟩:=tyCheck_ok h
   rw [putTy]
   by_cases hk:k=6∨k=7
   · obtain ⟨t,rfl,ht⟩:=h67 hk
     rw [if_pos hk,putTyHead,List.length_cons]
     have:=putTy_length n t (d+1) (by omega) ht
     omega
   · rw [if_neg hk];simp
theorem nested_yes (k:Int) (h:k=6∨k=7) (w:World):Calls Tryz.prog 162 #[.int .i64 k] w fun e w'=>e=.returned (.bool true)∧w=w':=by
 have e:(decide (k=6)||decide (k=7))=true:=by simpa using h
 rw [← e];exact nested_calls k w
theorem nested_no (k:Int) (h:¬(k=6∨k=7)) (w:World):Calls Tryz.prog 162 #[.int .i64 k] w fun e w'=>e=.returned (.bool false)∧w=w':=by
 have e:(decide (k=6)||decide (k=7))=false:=by simp;omega
 rw [← e];exact nested_calls k w
set_option maxRecDepth 10000 in
set_option maxHeartbeats 1000000 in
theorem checkType_calls (n:Nat):∀ (t:Ty) (d:Nat) (v:Value) (w:World),SizeOf.sizeOf t<n→d≤5→TyAt w v t →
 Calls Tryz.prog 130 #[v,.int .i64 (d:Int)] w fun e w'=>e=.returned (.int .i64 (tyCheck t d))∧Keeps w w':=by
 induction n with
 | zero=>intro t d v w hn;exact absurd hn (by omega)
 | succ n ih=>
   intro t d v w hn hd ht
   cases t with
   | mk k ts=>
     obtain ⟨A,c,rfl⟩:=ht.form
     show Calls _ _ #[.agg #[.int .i64 k,.slice A ts.length c],_] _ _
     change TyAt w (.agg #[.int .i64 k,.slice A ts.length c]) _ at ht
     by_cases h4:4<d
     · have he:tyCheck (.mk k ts) d=62:=by rw [tyCheck,if_pos h4]
       rw [he]
       clear he ih ht hn
       generalize ts.length=L
       go_enter Tryz.func130,Tryz.ntmps130
       go_wp2
       go_ret
       exact ⟨rfl,(Keeps.refl w).alloc _⟩
     have hd4:d≤4:=by omega
     by_cases h17:k<1∨7<k
     · have he:tyCheck (.mk k ts) d=60:=by rw [tyCheck,if_neg h4,if_pos h17]
       rw [he]
       clear he ih ht hn h4
       generalize ts.length=L
       rcases h17 with h17 | h17
       all_goals
        go_enter Tryz.func130,Tryz.ntmps130
        go_wp2
        go_ret
        exact ⟨rfl,(Keeps.refl w).alloc _⟩
     · have hk1:1≤k:=by omega
       have hk7:k≤7:=by omega
       by_cases h67:k=6∨k=7
       · have HY:=Hi (nested_yes k h67)
         by_cases hl:ts.length=1
         · obtain ⟨t,rfl⟩:=List.length_eq_one_iff.1 hl
           have he:tyCheck (.mk k [t]) d=tyCheck t (d+1):=by rw [tyCheck,if_neg h4,if_neg h17,if_pos h67,if_pos hl,tyHead]
           rw [he]
           change TyAt w (.agg #[.int .i64 k,.slice A 1 c]) _ at ht
           change Calls _ _ #[.agg #[.int .i64 k,.slice A 1 c],_] _ _
           have hsz:SizeOf.sizeOf t<n:=by
            simp only [Ty.mk.sizeOf_spec,List.cons.sizeOf_spec,List.nil.sizeOf_spec] at hn
            omega
           obtain ⟨W0,hW0⟩:∃ W0,W0=w.alloc (.cells #[.int .i64 k,.slice A 1 c] 97):=⟨_,rfl⟩
           have hk0:Keeps w W0:=by rw [hW0];exact (Keeps.refl w).alloc _
           obtain ⟨ad,k',s',rfl,hlt,c0,c1,hsub⟩:=(TyS.of_at ht).elem
           obtain ⟨A2,c2,n2,rfl⟩:∃ A2 c2 n2,s'=Value.slice A2 n2 c2:=by
            obtain ⟨A2,c2,e⟩:=hsub.form
            simp only [Value.agg.injEq,Array.mk.injEq,List.cons.injEq] at e
            exact ⟨A2,c2,_,e.2.1⟩
           have hc:=ih t (d+1) _ W0 hsz (by omega) (hsub.later hk0.below).at
           rw [show (((d+1:Nat):Int))=(d:Int)+1 by omega,hW0] at hc
           have HC:=Hi hc
           have HK0:=Hi hk0
           have HW0:=Hi hW0
           clear he ih ht hn h4 h17 hl hk0 hW0 hsub hc h67
           go_enter Tryz.func130,Tryz.ntmps130
           go_wp2_with (first | (go_at_call 162;refine (HY.out _).mono ?_;rintro e w2 ⟨rfl,rfl⟩) | (go_at_call 130;refine HC.out.mono ?_;rintro e w2 ⟨rfl,hk2⟩))
           go_ret
           exact ⟨rfl,HK0.out.trans (HW0.out▸hk2)⟩
         · have he:tyCheck (.mk k ts) d=60:=by rw [tyCheck,if_neg h4,if_neg h17,if_pos h67,if_neg hl]
           rw [he]
           have q1:((ts.length:Int) != 1)=true:=by rw [bne_iff_ne];omega
           clear he ih ht hn h4 h17 hl h67
           generalize ts.length=L at q1 ⊢
           go_enter Tryz.func130,Tryz.ntmps130
           go_wp2_with (go_at_call 162;refine (HY.out _).mono ?_;rintro e w2 ⟨rfl,rfl⟩)
           go_ret
           exact ⟨rfl,(Keeps.refl w).alloc _⟩
       · have HY:=Hi (nested_no k h67)
         by_cases hl:ts.length=0
         · have he:tyCheck (.mk k ts) d=0:=by rw [tyCheck,if_neg h4,if_neg h17,if_neg h67,if_pos hl]
           rw [he,hl]
           clear he ih ht hn h4 h17 hl h67
           go_enter Tryz.func130,Tryz.ntmps130
           go_wp2_with (go_at_call 162;refine (HY.out _).mono ?_;rintro e w2 ⟨rfl,rfl⟩)
           go_ret
           exact ⟨rfl,(Keeps.refl w).alloc _⟩
         · have he:tyCheck (.mk k ts) d=60:=by rw [tyCheck,if_neg h4,if_neg h17,if_neg h67,if_neg hl]
           rw [he]
           have q1:((ts.length:Int) != 0)=true:=by rw [bne_iff_ne];omega
           clear he ih ht hn h4 h17 hl h67
           generalize ts.length=L at q1 ⊢
           go_enter Tryz.func130,Tryz.ntmps130
           go_wp2_with (go_at_call 162;refine (HY.out _).mono ?_;rintro e w2 ⟨rfl,rfl⟩)
           go_ret
           exact ⟨rfl,(Keeps.refl w).alloc _⟩
theorem checkTypeTop_calls (t:Ty) (v:Value) (w:World) (ht:TyAt w v t) :
 Calls Tryz.prog 100 #[v] w fun e w'=>e=.returned (.int .i64 (tyCheck t 1))∧Keeps w w':=by
 obtain ⟨A,c,rfl⟩:=ht.form
 obtain ⟨W0,hW0⟩:∃ W0,W0=w.alloc (.cells #[.int .i64 t.kind,.slice A t.of.length c] 97):=⟨_,rfl⟩
 have hk0:Keeps w W0:=by rw [hW0];exact (Keeps.refl w).alloc _
 have HC:Hid (Calls Tryz.prog 130 #[.agg #[.int .i64 t.kind,.slice A t.of.length c],.int .i64 1] W0 fun e w'=>e=.returned (.int .i64 (tyCheck t 1))∧Keeps W0 w'):=Hi (checkType_calls (SizeOf.sizeOf t+1) t 1 _ W0 (by omega) (by omega) (ht.later hk0.below))
 have HK0:=Hi hk0
 clear ht hk0
 go_enter Tryz.func100,Tryz.ntmps100
 go_wp2_with fail
 rw [← hW0]
 clear hW0
 refine HC.out.mono ?_
 rintro e w2 ⟨rfl,hk⟩
 go_wp2
 go_ret
 exact ⟨rfl,HK0.out.trans hk⟩
theorem u8_of (k:Int) (h1:0≤k) (h2:k≤255):(((UInt8.ofNat k.toNat).toNat:Nat):Int)=k:=by simp;omega
set_option maxRecDepth 10000 in
set_option maxHeartbeats 1000000 in
theorem putType_calls (n:Nat):∀ (t:Ty) (d base:Nat) (v tv:Value) (l:List UInt8) (w:World),n+d=5→tyCheck t d=0→TyS w (fun k=>k<base) tv t→OwnB 5 w base v l→base≤w.heap.size→l.length+n≤140737488355000 →
 Calls Tryz.prog 136 #[v,tv] w fun e w'=>∃ v',e=.returned v'∧Grows w w' base v v' (l++putTy t):=by
 induction n with
 | zero=>intro t d base v tv l w hd h;cases t;have:=(tyCheck_ok h).1;omega
 | succ n ih=>
   intro t d base v tv l w hd hok ht hown hbase hlen
   cases t with
   | mk k ts=>
     obtain ⟨_,hk1,hk7,h67,hno⟩:=tyCheck_ok hok
     obtain ⟨B,cB,rfl⟩:=ht.form
     obtain ⟨A,c,rfl,hlc,_,hcm,_⟩:=hown.form
     change TyS w _ (.agg #[.int .i64 k,.slice B ts.length cB]) _ at ht
     change Calls _ _ #[_,.agg #[.int .i64 k,.slice B ts.length cB]] _ _
     obtain ⟨W0,hW0⟩:∃ W0,W0=(w.alloc (.cells #[.int .i64 k,.slice B ts.length cB] 97)).alloc (.cells #[.int .u8 k] 5):=⟨_,rfl⟩
     have hk0:Keeps w W0:=by rw [hW0];exact ((Keeps.refl w).alloc _).alloc _
     have hs0:W0.heap.size=w.heap.size+1+1:=by rw [hW0];simp
     have hb0:W0.heap[w.heap.size]? = some (.cells #[.int .i64 k,.slice B ts.length cB] 97):=by rw [hW0];exact obj_old (obj_new w _) _
     have hr0:Reads W0 (some ⟨w.heap.size+1,0,none⟩) [UInt8.ofNat k.toNat]:=by
      rw [hW0];exact Reads.new_at _ _ _ _ _ (by show [Value.int .u8 k]=[Value.int .u8 (((UInt8.ofNat k.toNat).toNat:Nat):Int)];rw [u8_of k (by omega) (by omega)]) _ (by simp)
     have HO:=Hi (hown.below hk0)
     have HK0:=Hi hk0
     have HB0:=Hi hb0
     have HR0:=Hi hr0
     have HS0:=Hi hs0
     have HW0:=Hi hW0
     have HT:=Hi (ht.later hk0.below)
     have HOK:=Hi hok
     have H67:=Hi h67
     have HNO:=Hi hno
     have IH:=Hi ih
     clear ih hok ht hown hk0 hb0 hr0 hs0 hW0 h67 hno
     generalize hL:l.length=L at hlen HO hlc
     have HL:=Hi hL
     clear hL
     have hput:putTy (.mk k ts)=UInt8.ofNat k.toNat :: if k=6∨k=7 then putTyHead ts else []:=by rw [putTy]
     generalize hR:putTy (.mk k ts)=R at hput
     have HP:=Hi hput
     have HR:=Hi hR
     clear hput hR
     generalize hN:ts.length=N at HB0 HT HW0
     have HN:=Hi hN
     clear hN
     by_cases hk:k=6∨k=7
     · have HY:=Hi (nested_yes k hk)
       obtain ⟨t,rfl,htc⟩:=H67.out hk
       have HE:Hid (R=UInt8.ofNat k.toNat :: putTy t):=Hi (by rw [HP.out,if_pos hk,putTyHead])
       obtain rfl:N=1:=HN.out.symm
       have HTC:=Hi htc
       clear hk htc
       go_enter Tryz.func136,Tryz.ntmps136
       go_wp2_with (at_builtin;rw [← HW0.out];refine wpList_append_bytes (w0:=W0) base rfl _ _ 31 5 rfl Tryz.underlying31 info_u8b (.slice A L c) l [UInt8.ofNat k.toNat] rfl ?c0 (some ⟨w.heap.size+1,0,none⟩) 1 rfl HR0.out ?c2 ?c3 ?c4 ?_)
       case c0=>exact HO.out
       case c2=>have:=HL.out;simp;omega
       case c3=>have:=HS0.out;omega
       case c4=>exact Below.refl _ _
       intro v2 w2 hown2 _ hg2 ha2
       obtain ⟨A2,c2,rfl,hlc2,_,_,_⟩:=hown2.form
       have hg:=Grows.of hown2 hg2 ha2
       have hb2:=hg.touch.obj HB0.out (fun e=>own_obj_ne HO.out HB0.out (by decide) e)
       obtain ⟨t0,t1,_,_⟩:=cells2 hb2
       have u2:=obj_lt hb2
       have HT2:=Hi (HT.out.touch hg.touch (fun b hb e=>by have:=HO.out.ge b e;omega))
       have HG:=Hi (Grows.first HK0.out hg)
       have HO2:=Hi hown2
       clear hg hb2 hown2 hg2 ha2 HB0
       generalize hM:(l++[UInt8.ofNat k.toNat]).length=M at hlc2 HO2 HG
       have HM:=Hi hM
       clear hM
       obtain ⟨ad,k',s',rfl,hlt,x0,x1,hsub⟩:=HT2.out.elem
       obtain ⟨A3,c3,n3,rfl⟩:∃ A3 c3 n3,s'=Value.slice A3 n3 c3:=by
        obtain ⟨A3,c3,e⟩:=hsub.form
        simp only [Value.agg.injEq,Array.mk.injEq,List.cons.injEq] at e
        exact ⟨A3,c3,_,e.2.1⟩
       have hc:=IH.out t (d+1) base (.slice A2 M c2) (.agg #[.int .i64 k',.slice A3 n3 c3]) (l++[UInt8.ofNat k.toNat]) w2 (by omega) HTC.out hsub HO2.out (by have:=HG.out.touch.size;omega) (by rw [List.length_append,HL.out];simp;omega)
       have HC:=Hi hc
       clear hc hsub IH
       go_wp2_with fail
       refine (HY.out _).mono ?_
       rintro e w3 ⟨rfl,rfl⟩
       go_wp2_with fail
       refine HC.out.mono ?_
       rintro e w3 ⟨v3,rfl,hg3⟩
       have HG3:=Hi hg3
       clear hg3
       go_wp2
       go_ret
       refine ⟨v3,rfl,?_⟩
       rw [HE.out]
       have:=HG.out.trans HG3.out
       rw [List.append_assoc] at this
       exact this
     · have HY:=Hi (nested_no k hk)
       have HE:Hid (R=[UInt8.ofNat k.toNat]):=Hi (by rw [HP.out,if_neg hk])
       clear hk IH
       go_enter Tryz.func136,Tryz.ntmps136
       go_wp2_with (at_builtin;rw [← HW0.out];refine wpList_append_bytes (w0:=W0) base rfl _ _ 31 5 rfl Tryz.underlying31 info_u8b (.slice A L c) l [UInt8.ofNat k.toNat] rfl ?c0 (some ⟨w.heap.size+1,0,none⟩) 1 rfl HR0.out ?c2 ?c3 ?c4 ?_)
       case c0=>exact HO.out
       case c2=>have:=HL.out;simp;omega
       case c3=>have:=HS0.out;omega
       case c4=>exact Below.refl _ _
       intro v2 w2 hown2 _ hg2 ha2
       obtain ⟨A2,c2,rfl,hlc2,_,_,_⟩:=hown2.form
       have hg:=Grows.of hown2 hg2 ha2
       have hb2:=hg.touch.obj HB0.out (fun e=>own_obj_ne HO.out HB0.out (by decide) e)
       obtain ⟨t0,t1,_,_⟩:=cells2 hb2
       have u2:=obj_lt hb2
       have HT2:=Hi (HT.out.touch hg.touch (fun b hb e=>by have:=HO.out.ge b e;omega))
       have HG:=Hi (Grows.first HK0.out hg)
       have HO2:=Hi hown2
       clear hg hb2 hown2 hg2 ha2 HB0
       generalize hM:(l++[UInt8.ofNat k.toNat]).length=M at hlc2 HO2 HG
       have HM:=Hi hM
       clear hM
       go_wp2_with fail
       refine (HY.out _).mono ?_
       rintro e w3 ⟨rfl,rfl⟩
       go_wp2
       go_ret
       refine ⟨_,rfl,?_⟩
       rw [HE.out]
       exact HG.out
end Go.Proofs.YtihodcnnappkbaaGreatDoor
