/-
  A file whose power may fail, as a plain machine on bytes. No condition. A file of bytes in memory: its block, its row, its bound failure; small walks. Condition: the block stands for the machine. The walk of Write's closure. Condition: the block stands for the machine. The walks of deed: no failure bound; one bound behind more deeds; one bound to come now. Condition: the block stands for the machine. The walk of Write. Condition: the block stands for the machine; the bytes that are written lie elsewhere. The walks of Sync, Fail, Start, Up, Damage and of what tells how it stands. Condition: the block stands for the machine. The walks of All, Read, Tail, Clone. Condition: the block stands for the machine. The walks of New. Condition: the quota, as each says. What always holds of the plain machine holds behind each of its steps; what its counts may be. No condition. What a writing comes to, with no failure bound, with one bound behind it, with one bound within it. No condition.
-/
import Derived.Test.YtihodcnnappkbaaGreatDoorG6
import Derived.Test.YtihodcnnappkbaaGreatDoorG1
import Derived.Deep.RegionHeld3
import Derived.Deep.RegionLaw
import Derived.BigRegion
import Derived.Defers
import Derived.StillTailTactics
import Derived.Outline
import Derived.Deep.RegionWith
set_option linter.unusedVariables false
set_option linter.unusedSimpArgs false
set_option maxHeartbeats 2000000
set_option maxRecDepth 100000
namespace Go.Proofs.YtihodcnnappkbaaGreatDoor
structure Dv where
 b:List UInt8
 quota:Nat
 synced:Nat
 down:Bool
 bound:Option (Nat×Nat)
 counted:Nat
 deeds:Nat
deriving DecidableEq
def Dv.fresh (q:Nat):Dv:=⟨[],q,0,false,none,0,0⟩
def Dv.deed (d:Dv):Dv×Bool:=
 match d.bound with
 | none=>({ d with deeds:=d.deeds+1 },true)
 | some (0,k)=>({ d with b:=d.b.take (min (d.b.length-d.synced) k+d.synced),bound:=none,down:=true },false)
 | some (a+1,k)=>({ d with bound:=some (a,k),deeds:=d.deeds+1 },true)
def Dv.put (d:Dv):List UInt8→Dv×Int
 | []=>(d,0)
 | c :: l=>match d.deed with
   | (d',false)=>(d',51)
   | (d',true)=>Dv.put { d' with b:=d'.b++[c] } l
def Dv.write (d:Dv) (l:List UInt8):Dv×Int:=
 if d.down then (d,50) else if 0<l.length∧d.quota<d.b.length+l.length then (d,52) else d.put l
def Dv.read (d:Dv) (a n:Int):Dv×List UInt8×Int:=
 if a<0∨(d.b.length:Int)<a∨n<0 then (d,[],7) else
 ({ d with counted:=d.counted+((d.b.drop a.toNat).take n.toNat).length },(d.b.drop a.toNat).take n.toNat,0)
structure Dv.Ok (d:Dv):Prop where
 synced:d.synced≤d.b.length
 size:d.b.length≤2097152
 quota:d.quota≤1048576
 fits:∀ a k,d.bound=some (a,k)→a≤9223372036854775807∧k≤9223372036854775807
theorem Dv.deed_quota (d:Dv):d.deed.1.quota=d.quota:=by
 unfold Dv.deed
 split <;> rfl
theorem Dv.deed_counted (d:Dv):d.deed.1.counted=d.counted:=by
 unfold Dv.deed
 split <;> rfl
theorem Dv.deed_yes {d:Dv} (h:d.deed.2=true):d.deed.1.b=d.b∧d.deed.1.synced=d.synced∧d.deed.1.deeds=d.deeds+1∧d.deed.1.down=d.down:=by
 unfold Dv.deed at h ⊢
 split
 · exact ⟨rfl,rfl,rfl,rfl⟩
 · rename_i h';rw [h'] at h;cases h
 · exact ⟨rfl,rfl,rfl,rfl⟩
theorem Dv.deed_no {d:Dv} (h:d.deed.2=false):∃ k,d.bound=some (0,k)∧d.deed.1 = { d with b:=d.b.take (min (d.b.length-d.synced) k+d.synced),bound:=none,down:=true }:=by
 unfold Dv.deed at h ⊢
 split
 · rename_i h';rw [h'] at h;cases h
 · rename_i k h';exact ⟨k,h',rfl⟩
 · rename_i h';rw [h'] at h;cases h
theorem Dv.deed_ok {d:Dv} (h:d.Ok):d.deed.1.Ok:=by
 obtain ⟨h1,h2,h3,h4⟩:=h
 unfold Dv.deed
 split
 · exact ⟨h1,h2,h3,h4⟩
 · refine ⟨?_, ?_,h3,fun a k h=>by cases h⟩
   · simp only [List.length_take];omega
   · simp only [List.length_take];omega
 · rename_i a k h
   refine ⟨h1,h2,h3,fun a' k' h'=>?_⟩
   have:=h4 _ _ h
   simp only [Option.some.injEq,Prod.mk.injEq] at h'
   omega
theorem Dv.put_yes {d:Dv} {c:UInt8} {l:List UInt8} (h:d.deed.2=true):d.put (c :: l)=Dv.put { d.deed.1 with b:=d.b++[c] } l:=by
 obtain ⟨d',h'⟩:∃ d',d.deed=(d',true):=⟨d.deed.1,by rw [← h]⟩
 have hb:d'.b=d.b:=by have:=(Dv.deed_yes h).1;rw [h'] at this;exact this
 rw [Dv.put,h']
 simp only
 rw [hb]
theorem Dv.put_no {d:Dv} {c:UInt8} {l:List UInt8} (h:d.deed.2=false):d.put (c :: l)=(d.deed.1,51):=by
 obtain ⟨d',h'⟩:∃ d',d.deed=(d',false):=⟨d.deed.1,by rw [← h]⟩
 rw [Dv.put,h']
theorem Dv.put_ok (l:List UInt8):∀ {d:Dv},d.Ok→(l=[]∨d.b.length+l.length≤2097152)→(d.put l).1.Ok∧(d.put l).1.quota=d.quota∧(d.put l).1.deeds≤d.deeds+l.length∧(d.put l).1.counted=d.counted∧(d.put l).1.b.length≤d.b.length+l.length:=by
 induction l with
 | nil=>intro d h _;exact ⟨h,rfl,Nat.le_refl _,rfl,Nat.le_refl _⟩
 | cons c l ih=>
   intro d h hs
   have co:d.b.length+(l.length+1)≤2097152:=by
    rcases hs with h | h
    · cases h
    · exact h
   cases hd:d.deed.2 with
   | true=>
     rw [Dv.put_yes hd]
     obtain ⟨e1,e2,e3,_⟩:=Dv.deed_yes hd
     obtain ⟨k1,k2,k3,k4⟩:=Dv.deed_ok h
     rw [e1] at k1 k2
     obtain ⟨r1,r2,r3,r4,r5⟩:=ih (d:={ d.deed.1 with b:=d.b++[c] }) ⟨by simp only [List.length_append];omega,by simp only [List.length_append,List.length_singleton];omega,k3,k4⟩ (.inr (by simp only [List.length_append,List.length_singleton];omega))
     refine ⟨r1,r2.trans (Dv.deed_quota d), ?_,r4.trans (Dv.deed_counted d), ?_⟩
     · simp only [List.length_cons] at r3 ⊢;omega
     · simp only [List.length_cons,List.length_append,List.length_nil] at r5 ⊢;omega
   | false=>
     rw [Dv.put_no hd]
     obtain ⟨k,_,e⟩:=Dv.deed_no hd
     refine ⟨Dv.deed_ok h,Dv.deed_quota d, ?_,Dv.deed_counted d, ?_⟩
     · rw [e];simp only;omega
     · rw [e];simp only [List.length_take];omega
section
open Go.RowKit
def dvCells (v:Value) (q s:Int) (dn:Bool) (bp:Value) (ct dd:Int) (does:Value):Array Value:=#[v,.int .i64 q,.int .i64 s,.bool dn,bp,.int .i64 ct,.int .i64 dd,does]
def BoundAt (w:World) (bp:Value):Option (Nat×Nat)→Prop
 | none=>bp=.pointer none
 | some (a,k)=>∃ f,bp=.pointer (some ⟨f,0,none⟩)∧w.heap[f]? = some (.cells #[.int .i64 (a:Int),.int .i64 (k:Int)] 160 (0,0))
def bpBlock:Value→Option Nat
 | .pointer (some a)=>some a.block
 | _=>none
def DvAt (w:World) (g:Nat) (v bp does:Value) (d:Dv):Prop:=
 w.heap[g]? = some (.cells (dvCells v d.quota d.synced d.down bp d.counted d.deeds does) 108 (0,0))∧OwnL 5 w 0 v d.b∧BoundAt w bp d.bound
theorem BoundAt.keep {F:Nat→Prop} {w w':World} {bp:Value} {o:Option (Nat×Nat)} (h:BoundAt w bp o) (ht:Touch F w w') (hF:∀ k,bpBlock bp=some k→¬F k):BoundAt w' bp o:=by
 cases o with
 | none=>exact h
 | some x=>
   obtain ⟨f,rfl,hf⟩:=h
   exact ⟨f,rfl,ht.obj hf (hF f rfl)⟩
theorem DvAt.keep {F:Nat→Prop} {w w':World} {g:Nat} {v bp does:Value} {d:Dv} (h:DvAt w g v bp does d) (ht:Touch F w w') (hg:¬F g) (hv:∀ k,blk v=some k→¬F k) (hF:∀ k,bpBlock bp=some k→¬F k):DvAt w' g v bp does d:=
 ⟨ht.obj h.1 hg,h.2.1.keep ht hv,h.2.2.keep ht hF⟩
theorem dv_cells {w:World} {g:Nat} {v bp does:Value} {q s ct dd:Int} {dn:Bool} (hg:w.heap[g]? = some (.cells (dvCells v q s dn bp ct dd does) 108 (0,0))) :
 w.cell? ⟨g,0,none⟩=some v∧w.cell? ⟨g,1,none⟩=some (.int .i64 q)∧w.cell? ⟨g,2,none⟩=some (.int .i64 s)∧w.cell? ⟨g,3,none⟩=some (.bool dn)∧w.cell? ⟨g,4,none⟩=some bp∧w.cell? ⟨g,5,none⟩=some (.int .i64 ct)∧w.cell? ⟨g,6,none⟩=some (.int .i64 dd)∧w.cell? ⟨g,7,none⟩=some does∧∀ i,w.frozen? ⟨g,i,none⟩=false:=
 ⟨by rw [obj_cell hg];rfl,by rw [obj_cell hg];rfl,by rw [obj_cell hg];rfl,by rw [obj_cell hg];rfl,by rw [obj_cell hg];rfl,by rw [obj_cell hg];rfl,by rw [obj_cell hg];rfl,by rw [obj_cell hg];rfl,obj_frozen hg⟩
def DV (w:World) (S:Nat→Prop) (g:Nat) (d:Dv):Prop:=
 ∃ v bp does,DvAt w g v bp does d∧S g∧(∀ k,blk v=some k→S k)∧(∀ k,bpBlock bp=some k→S k)∧does=.nilFunc
def More (S:Nat→Prop) (w:World):Nat→Prop:=fun j=>S j∨w.heap.size≤j
theorem BoundAt.lt {w:World} {bp:Value} {o:Option (Nat×Nat)} (h:BoundAt w bp o) (k:Nat) (hk:bpBlock bp=some k):k<w.heap.size:=by
 cases o with
 | none=>rw [show bp=_ from h] at hk;simp [bpBlock] at hk
 | some x=>
   obtain ⟨f,rfl,hf⟩:=h
   simp only [bpBlock,Option.some.injEq] at hk
   rw [← hk]
   exact obj_lt hf
theorem DV.mono {w:World} {S T:Nat→Prop} {g:Nat} {d:Dv} (h:DV w S g d) (hS:∀ k,k<w.heap.size→S k→T k):DV w T g d:=by
 obtain ⟨v,bp,does,a0,h1,h2,h3,h4⟩:=h
 exact ⟨v,bp,does,a0,hS g (obj_lt a0.1) h1,fun k hk=>hS k ((a0.2.1.lt k hk).2) (h2 k hk),fun k hk=>hS k (a0.2.2.lt k hk) (h3 k hk),h4⟩
theorem DV.keep {F S:Nat→Prop} {w w':World} {g:Nat} {d:Dv} (h:DV w S g d) (ht:Touch F w w') (hF:∀ k,k<w.heap.size→S k→¬F k):DV w' S g d:=by
 obtain ⟨v,bp,does,a0,h1,h2,h3,h4⟩:=h
 exact ⟨v,bp,does,a0.keep ht (hF g (obj_lt a0.1) h1) (fun k hk=>hF k ((a0.2.1.lt k hk).2) (h2 k hk)) (fun k hk=>hF k (a0.2.2.lt k hk) (h3 k hk)),h1,h2,h3,h4⟩
theorem DV.below {S:Nat→Prop} {w w':World} {g:Nat} {d:Dv} (h:DV w S g d) (hb:Below w.heap.size w w'):DV w' S g d:=
 h.keep (F:=fun _=>False) (Touch.of_below hb fun k hk hb=>absurd hk (by omega)) fun _ _ _ h=>h
theorem DV.here {w:World} {S:Nat→Prop} {g:Nat} {d:Dv} (h:DV w S g d):DV w (fun k=>S k∧k<w.heap.size) g d:=h.mono fun _ hk hS=>⟨hS,hk⟩
theorem put_touch {w w1:World} {v:Value} {o:Obj} (az:(w.drew.alloc o).grownBy w1 (blk v)):Touch (fun j=>blk v=some j) w w1:=(((Touch.refl _ w).drew).alloc o).grown az (fun j h _=>h)
theorem put_obj {w w1:World} {v:Value} {l:List UInt8} {g:Nat} {C:Array Value} {o:Obj} (ho:OwnL 5 w 0 v l) (hg:w.heap[g]? = some (.cells C 108 (0,0))) (az:(w.drew.alloc o).grownBy w1 (blk v)):w1.heap[g]? = some (.cells C 108 (0,0)):=
 (put_touch az).obj hg (ho.ne hg (by decide))
theorem put_end {w w1:World} {g n m:Nat} {A1:Option Addr} {v bp does:Value} {d:Dv} {c:UInt8} {o:Obj} (hg:w.heap[g]? = some (.cells (dvCells v d.quota d.synced d.down bp d.counted d.deeds does) 108 (0,0))) (ho:OwnL 5 w 0 v d.b) (ab:BoundAt w bp d.bound)
 (aa:OwnL 5 w1 0 (.slice A1 n m) (d.b++[c])) (az:(w.drew.alloc o).grownBy w1 (blk v)) (a0:blk (.slice A1 n m)=blk v∨blk (.slice A1 n m)=some (w.drew.alloc o).heap.size) :
 ∃ v',DvAt (w1.setCell ⟨g,0,none⟩ (.slice A1 n m)) g v' bp does { d with b:=d.b++[c] }∧(blk v'=blk v∨∃ k,blk v'=some k∧w.heap.size≤k)∧Touch (fun j=>j=g∨blk v=some j) w (w1.setCell ⟨g,0,none⟩ (.slice A1 n m)):=by
 have af:=put_obj ho hg az
 have ht:=put_touch az
 have aC:BoundAt w1 bp d.bound:=by
  cases hd:d.bound with
  | none=>rw [hd] at ab;exact ab
  | some x=>
    rw [hd] at ab
    obtain ⟨f,rfl,hf⟩:=ab
    exact ⟨f,rfl,ht.obj hf (ho.ne hf (by decide))⟩
 have ac:Touch (fun j=>j=g∨blk v=some j) w (w1.setCell ⟨g,0,none⟩ (.slice A1 n m)):=(ht.mono fun _ _ h=>Or.inr h).setCell _ _ (fun _=>.inl rfl)
 refine ⟨.slice A1 n m,⟨obj_set af 0 _,aa.far (p:=⟨g,0,none⟩) (aa.ne af (by decide)) _, ?_⟩, ?_,ac⟩
 · refine aC.keep ((Touch.refl (At g) w1).set 0 _) fun k hk e=>?_
   cases hd:d.bound with
   | none=>rw [hd] at aC;rw [aC] at hk;simp [bpBlock] at hk
   | some x=>
     rw [hd] at aC
     obtain ⟨f,rfl,hf⟩:=aC
     simp only [bpBlock,Option.some.injEq] at hk
     cases e
     subst hk
     rw [af] at hf
     injection hf with h1
     injection h1 with h2 h3 h4
     revert h3
     decide
 · rcases a0 with h | h
   · exact .inl h
   · exact .inr ⟨_,h,by simp⟩
theorem put1_calls (p q g:Nat) (v bp does:Value) (d:Dv) (c:UInt8) (w:World) (hd:DvAt w g v bp does d) (b7:w.heap[p]? = some (.cells #[.pointer (some ⟨g,0,none⟩)] 44 (0,0))) (hq:w.cell? ⟨q,0,none⟩=some (.int .u8 ((c.toNat:Nat):Int))) (hl:d.b.length≤4194304) :
 Calls Tryz.prog 77 #[.pointer (some ⟨p,0,none⟩),.pointer (some ⟨q,0,none⟩)] w fun e w'=>e=.returned (.tuple #[])∧∃ v',DvAt w' g v' bp does { d with b:=d.b++[c] }∧(blk v'=blk v∨∃ k,blk v'=some k∧w.heap.size≤k)∧Touch (fun j=>j=g∨blk v=some j) w w':=by
 obtain ⟨hg,ho,ab⟩:=hd
 obtain ⟨c0,c1,c2,c3,c4,c5,c6,c7,fz⟩:=dv_cells hg
 have am:=obj_lt hg
 have hp:w.cell? ⟨p,0,none⟩=some (.pointer (some ⟨g,0,none⟩)):=by rw [obj_cell b7];rfl
 have c9:=World.block_lt_of_cell? _ _ hp
 have bZ:=Hi (show ¬blk v=some p from ho.ne b7 (by decide))
 have bS:=World.block_lt_of_cell? _ _ hq
 simp only at c9 bS
 have HG:=Hi hg
 have HO:=Hi ho
 have ca:=Hi ab
 clear hg ho ab b7
 go_enter Tryz.func77,Tryz.ntmps77
 go_wp2_with fail
 go_region_law ((refine step_append_loose 0 (by rfl) _ _ 31 5 (by rfl) Tryz.underlying31 info_u8 v d.b [c] (by rfl) (HO.out.below ((Below.refl w.heap.size w).drew.alloc (Nat.le_refl _) _)) (some ⟨w.heap.size,0,none⟩) 1 (by rfl) (Reads.new_at _ [c] 5 (0,0) #[.int .u8 ((c.toNat:Nat):Int)] rfl _ rfl) (by simp;omega) (Nat.zero_le _) ?_;intro v1 w1 aa ag a0;have cn:=(put_touch ag).cell hp bZ.out;obtain ⟨d0,d1,d2,d3,d4,d5,d6,d7,dz⟩:=dv_cells (put_obj HO.out HG.out ag);obtain ⟨A1,m1,rfl,bO⟩:=aa.form;clear bO))
 all_goals (go_wp2;go_end0;rw [show (d.b++[c]).length=d.b.length+1 by simp] at aa a0;exact ⟨rfl,put_end HG.out HO.out ca.out aa ag a0⟩)
theorem deed1_deferred (p g:Nat) (x:Value) (u:FrameMode) (w:World) (hp:w.cell? ⟨p,0,none⟩=some (.pointer (some ⟨g,0,none⟩))) (hx:w.cell? ⟨g,7,none⟩=some x) (hf:w.frozen? ⟨g,7,none⟩=false) :
 CallsD Tryz.prog 112 #[.pointer (some ⟨p,0,none⟩)] u w fun e u' w'=>u'=u∧(e=.returned (.tuple #[])∧w'=w.setCell ⟨g,7,none⟩ .nilFunc):=by
 go_enter_d Tryz.func112,Tryz.ntmps112
 go_wp2
 go_end0
 exact ⟨rfl,rfl⟩
def DoesPost (w1:World) (g:Nat) (v bp does:Value) (d2:Dv) (e:Ending) (w2:World):Prop:=
 e=.returned (.tuple #[])∧∃ v',DvAt w2 g v' bp does d2∧(blk v'=blk v∨∃ k,blk v'=some k∧w1.heap.size≤k)∧Touch (fun j=>j=g∨blk v=some j) w1 w2
theorem deed_none (F:Nat) (caps:Array Value) (au:∀ (w:World),(callFunc F caps).run Tryz.prog w=.ok (.enter F caps) w) (g:Nat) (v does0:Value) (d d2:Dv) (w:World) (hb:d.bound=none) (hd:DvAt w g v (.pointer none) does0 d) (a9:d.deeds≤9223372036854775806)
 (hF:∀ w1,DvAt w1 g v (.pointer none) (.func (.func F) #[] caps) d.deed.1→Touch (At g) w w1→Calls Tryz.prog F caps w1 (DoesPost w1 g v (.pointer none) (.func (.func F) #[] caps) d2)) :
 Calls Tryz.prog 76 #[.pointer (some ⟨g,0,none⟩),.func (.func F) #[] caps] w fun e w'=>e=.returned (.int .i64 0)∧∃ v',DvAt w' g v' (.pointer none) .nilFunc d2∧(blk v'=blk v∨∃ k,blk v'=some k∧w.heap.size≤k)∧Touch (fun j=>j=g∨blk v=some j) w w':=by
 have ba:∀ (fn:Fn) (first cap:Array Value) (w:World),(Instr.makeFunc fn first cap).run Tryz.prog w=.ok (.func fn first cap) w:=fun _ _ _ _=>rfl
 obtain ⟨hg,ho,_⟩:=hd
 obtain ⟨c0,c1,c2,c3,c4,c5,c6,c7,fz⟩:=dv_cells hg
 have am:=obj_lt hg
 have HG:=Hi hg
 have HO:=Hi ho
 have HF:=Hi hF
 have HB:=Hi hb
 clear hg ho hF hb
 go_enter_defers Tryz.func76,Tryz.ntmps76
 go_wp2_with fail
 have hW:DvAt (((w.setCell ⟨g,7,none⟩ (.func (.func F) #[] caps)).setCell ⟨g,6,none⟩ (.int .i64 ((d.deeds:Int)+1))).alloc (.cells #[.pointer (some ⟨g,0,none⟩)] 44)) g v (.pointer none) (.func (.func F) #[] caps) d.deed.1:=by
  have a9:d.deed.1 = { d with deeds:=d.deeds+1 }:=by unfold Dv.deed;rw [HB.out]
  rw [a9]
  have aj:=HO.out.ne HG.out (by decide)
  refine ⟨obj_old (obj_set (obj_set HG.out 7 _) 6 _) _, ?_, ?_⟩
  · exact HO.out.keep ((((Touch.refl (At g) w).set 7 _).set 6 _).alloc _) (fun k hk e=>aj (by rw [hk,e]))
  · rw [HB.out];rfl
 have hT:Touch (At g) w (((w.setCell ⟨g,7,none⟩ (.func (.func F) #[] caps)).setCell ⟨g,6,none⟩ (.int .i64 ((d.deeds:Int)+1))).alloc (.cells #[.pointer (some ⟨g,0,none⟩)] 44)):=(((Touch.refl (At g) w).set 7 _).set 6 _).alloc _
 refine (HF.out _ hW hT).mono ?_
 rintro e w2 ⟨rfl,v',aq,aR,ac⟩
 have ay:=ac.cell (p:=⟨w.heap.size,0,none⟩) (v:=.pointer (some ⟨g,0,none⟩)) (by rw [obj_cell (obj_new_at _ _ _ (by simp [World.setCell])) 0];rfl) (by
  rintro (h | h)
  · simp only at h;omega
  · have:=(HO.out.lt _ h).2;simp only at this;omega)
 obtain ⟨e0,e1,e2,e3,e4,e5,e6,e7,ez⟩:=dv_cells aq.1
 have ez7:=ez 7
 have aF:Touch (fun j=>j=g∨blk v=some j) w w2:=(hT.mono fun _ _ h=>Or.inl h).then ac
 have bg:=Hi aq
 have b6:=Hi aR
 have b8:=Hi aF
 have aX:=hT.size
 clear hW hT aq aR ac aF c0 c1 c2 c3 c4 c5 c6 c7 fz ez
 go_wp2
 refine leaves_cons (f:=112) (args:=#[.pointer (some ⟨w.heap.size,0,none⟩)]) (by simp) (by simp [go_sem]) ?_
 refine (deed1_deferred w.heap.size g _ .returning w2 ay e7 ez7).mono ?_
 rintro e u' w3 ⟨rfl,rfl,rfl⟩
 refine ⟨_,results_tmp rfl _ _ _,rfl, ?_⟩
 obtain ⟨h1,h2,h3⟩:=bg.out
 have aj:=h2.ne h1 (by decide)
 refine ⟨v',⟨obj_set h1 7 _,h2.far (p:=⟨g,7,none⟩) aj _, ?_⟩, ?_,b8.out.setCell _ _ (fun _=>.inl rfl)⟩
 · exact h3.keep ((Touch.refl (At g) w2).set 7 _) (fun k hk=>by simp [bpBlock] at hk)
 · rcases b6.out with h | ⟨k,h,hk⟩
   · exact .inl h
   · exact .inr ⟨k,h,by omega⟩
theorem deed_more (F:Nat) (caps:Array Value) (au:∀ (w:World),(callFunc F caps).run Tryz.prog w=.ok (.enter F caps) w) (g f a k:Nat) (v does0:Value) (d d2:Dv) (w:World) (hb:d.bound=some (a+1,k)) (hd:DvAt w g v (.pointer (some ⟨f,0,none⟩)) does0 d) (a9:d.deeds≤9223372036854775806) (ha:a≤9223372036854775806)
 (hF:∀ w1,DvAt w1 g v (.pointer (some ⟨f,0,none⟩)) (.func (.func F) #[] caps) d.deed.1→Touch (fun j=>j=g∨j=f) w w1→Calls Tryz.prog F caps w1 (DoesPost w1 g v (.pointer (some ⟨f,0,none⟩)) (.func (.func F) #[] caps) d2)) :
 Calls Tryz.prog 76 #[.pointer (some ⟨g,0,none⟩),.func (.func F) #[] caps] w fun e w'=>e=.returned (.int .i64 0)∧∃ v',DvAt w' g v' (.pointer (some ⟨f,0,none⟩)) .nilFunc d2∧(blk v'=blk v∨∃ k,blk v'=some k∧w.heap.size≤k)∧Touch (fun j=>j=g∨j=f∨blk v=some j) w w':=by
 have ba:∀ (fn:Fn) (first cap:Array Value) (w:World),(Instr.makeFunc fn first cap).run Tryz.prog w=.ok (.func fn first cap) w:=fun _ _ _ _=>rfl
 obtain ⟨hg,ho,ai⟩:=hd
 rw [hb] at ai
 obtain ⟨f',e0,hf⟩:=ai
 injection e0 with e0
 injection e0 with e0
 injection e0 with e0
 subst e0
 obtain ⟨c0,c1,c2,c3,c4,c5,c6,c7,fz⟩:=dv_cells hg
 obtain ⟨b0,b1,b2,b3⟩:=cells2 hf
 have am:=obj_lt hg
 have cd:=obj_lt hf
 have HG:=Hi hg
 have HO:=Hi ho
 have HF:=Hi hF
 have HB:=Hi hb
 have aY:=Hi hf
 have aV:¬g=f:=by
  intro e
  subst e
  rw [hg] at hf
  injection hf with h1
  injection h1 with h2 h3 h4
  revert h3
  decide
 have aH:¬f=g:=fun e=>aV e.symm
 clear hg ho hF hb hf
 go_enter_defers Tryz.func76,Tryz.ntmps76
 go_wp2_with fail
 have hT:Touch (fun j=>j=g∨j=f) w ((((w.setCell ⟨g,7,none⟩ (.func (.func F) #[] caps)).setCell ⟨f,0,none⟩ (.int .i64 (a:Int))).setCell ⟨g,6,none⟩ (.int .i64 ((d.deeds:Int)+1))).alloc (.cells #[.pointer (some ⟨g,0,none⟩)] 44)):=
  ((((Touch.refl (fun j=>j=g∨j=f) w).setCell _ _ (fun _=>.inl rfl)).setCell _ _ (fun _=>.inr rfl)).setCell _ _ (fun _=>.inl rfl)).alloc _
 have aj:=HO.out.ne HG.out (by decide)
 have cg:=HO.out.ne aY.out (by decide)
 have hW:DvAt ((((w.setCell ⟨g,7,none⟩ (.func (.func F) #[] caps)).setCell ⟨f,0,none⟩ (.int .i64 (a:Int))).setCell ⟨g,6,none⟩ (.int .i64 ((d.deeds:Int)+1))).alloc (.cells #[.pointer (some ⟨g,0,none⟩)] 44)) g v (.pointer (some ⟨f,0,none⟩)) (.func (.func F) #[] caps) d.deed.1:=by
  have a9:d.deed.1 = { d with bound:=some (a,k),deeds:=d.deeds+1 }:=by unfold Dv.deed;rw [HB.out]
  rw [a9]
  refine ⟨obj_old (obj_set (obj_far (obj_set HG.out 7 _) (p:=⟨f,0,none⟩) aV _) 6 _) _, ?_,f,rfl, ?_⟩
  · exact HO.out.keep hT (fun j hj h=>by
     rcases h with rfl | rfl
     · exact aj hj
     · exact cg hj)
  · exact obj_old (obj_far (obj_set (obj_far aY.out (p:=⟨g,7,none⟩) aH _) 0 _) (p:=⟨g,6,none⟩) aH _) _
 refine (HF.out _ hW hT).mono ?_
 rintro e w2 ⟨rfl,v',aq,aR,ac⟩
 have ay:=ac.cell (p:=⟨w.heap.size,0,none⟩) (v:=.pointer (some ⟨g,0,none⟩)) (by rw [obj_cell (obj_new_at _ _ _ (by simp [World.setCell])) 0];rfl) (by
  rintro (h | h)
  · simp only at h;omega
  · have:=(HO.out.lt _ h).2;simp only at this;omega)
 obtain ⟨e0,e1,e2,e3,e4,e5,e6,e7,ez⟩:=dv_cells aq.1
 have ez7:=ez 7
 have aF:Touch (fun j=>j=g∨j=f∨blk v=some j) w w2:=(hT.mono fun _ _ h=>by
  rcases h with h | h
  · exact Or.inl h
  · exact Or.inr (Or.inl h)).then (ac.mono fun _ _ h=>by
  rcases h with h | h
  · exact Or.inl h
  · exact Or.inr (Or.inr h))
 have bg:=Hi aq
 have b6:=Hi aR
 have b8:=Hi aF
 have aX:=hT.size
 clear hW hT aq aR ac aF c0 c1 c2 c3 c4 c5 c6 c7 fz ez b0 b1 b2 b3
 go_wp2
 refine leaves_cons (f:=112) (args:=#[.pointer (some ⟨w.heap.size,0,none⟩)]) (by simp) (by simp [go_sem]) ?_
 refine (deed1_deferred w.heap.size g _ .returning w2 ay e7 ez7).mono ?_
 rintro e u' w3 ⟨rfl,rfl,rfl⟩
 refine ⟨_,results_tmp rfl _ _ _,rfl, ?_⟩
 obtain ⟨h1,h2,h3⟩:=bg.out
 have aj:=h2.ne h1 (by decide)
 refine ⟨v',⟨obj_set h1 7 _,h2.far (p:=⟨g,7,none⟩) aj _, ?_⟩, ?_,b8.out.setCell _ _ (fun _=>.inl rfl)⟩
 · exact h3.keep ((Touch.refl (At g) w2).set 7 _) (fun k hk e=>by
    simp only [bpBlock,Option.some.injEq] at hk
    exact aH (hk.trans e))
 · rcases b6.out with h | ⟨k,h,hk⟩
   · exact .inl h
   · exact .inr ⟨k,h,by omega⟩
theorem deed_power (fn:Value) (cf:∃ F caps,fn=.func (.func F) #[] caps) (g f k:Nat) (v does0:Value) (d:Dv) (w:World) (hb:d.bound=some (0,k)) (hd:DvAt w g v (.pointer (some ⟨f,0,none⟩)) does0 d) (hk:k≤9223372036854775807) (hs:d.synced≤d.b.length) :
 Calls Tryz.prog 76 #[.pointer (some ⟨g,0,none⟩),fn] w fun e w'=>e=.returned (.int .i64 51)∧∃ v',DvAt w' g v' (.pointer none) .nilFunc d.deed.1∧blk v'=blk v∧Touch (At g) w w':=by
 obtain ⟨F,caps,rfl⟩:=cf
 have ba:∀ (fn:Fn) (first cap:Array Value) (w:World),(Instr.makeFunc fn first cap).run Tryz.prog w=.ok (.func fn first cap) w:=fun _ _ _ _=>rfl
 obtain ⟨hg,ho,ai⟩:=hd
 rw [hb] at ai
 obtain ⟨f',e0,hf⟩:=ai
 injection e0 with e0
 injection e0 with e0
 injection e0 with e0
 subst e0
 obtain ⟨A,c,rfl,aN,_,aU,_⟩:=ho.form
 obtain ⟨c0,c1,c2,c3,c4,c5,c6,c7,fz⟩:=dv_cells hg
 obtain ⟨b0,b1,b2,b3⟩:=cells2 hf
 have am:=obj_lt hg
 have cd:=obj_lt hf
 have HG:=Hi hg
 have HO:=Hi ho
 have HB:=Hi hb
 have aY:=Hi hf
 have aV:¬g=f:=by
  intro e
  subst e
  rw [hg] at hf
  injection hf with h1
  injection h1 with h2 h3 h4
  revert h3
  decide
 have aH:¬f=g:=fun e=>aV e.symm
 obtain ⟨m,hm,aw⟩:∃ m:Nat,min ((d.b.length:Int)-(d.synced:Int)) (k:Int)=(m:Int)∧m=min (d.b.length-d.synced) k:=by
  refine ⟨min (d.b.length-d.synced) k, ?_,rfl⟩
  omega
 have bP:m+d.synced≤d.b.length:=by omega
 have aZ:m+d.synced≤c:=by omega
 have HM:=Hi aw
 obtain ⟨t,ht⟩:∃ t:Nat,t=m+d.synced:=⟨_,rfl⟩
 have bR:t≤c:=by omega
 have cj:IntKind.i64.wrap ((d.b.length:Int)-(d.synced:Int))=(d.b.length:Int)-(d.synced:Int):=by rw [IntKind.wrap_i64];omega
 have bW:IntKind.i64.wrap ((m:Int)+(d.synced:Int))=(t:Int):=by rw [IntKind.wrap_i64,ht];omega
 have a9:d.deed.1 = { d with b:=d.b.take t,bound:=none,down:=true }:=by
  unfold Dv.deed
  rw [HB.out,ht,aw]
 have b9:=Hi a9
 have cb:=Hi (OwnL.prefix ho (m:=t) (by omega))
 clear ht a9
 have bX:d.b.length≤9223372036854775807:=by omega
 clear hg ho hb hf aw
 generalize d.synced=s at *
 generalize d.b.length=n at *
 clear aU aN bP aZ bX hs
 go_enter_defers Tryz.func76,Tryz.ntmps76
 go_wp2_with fail
 obtain ⟨w1,aA⟩:∃ w1,w1=((w.setCell ⟨g,7,none⟩ (.func (.func F) #[] caps)).alloc (.cells #[.pointer (some ⟨g,0,none⟩)] 44)):=⟨_,rfl⟩
 have af:w1.heap[g]? = some (.cells (dvCells (.slice A n c) d.quota s d.down (.pointer (some ⟨f,0,none⟩)) d.counted d.deeds (.func (.func F) #[] caps)) 108 (0,0)):=by rw [aA];exact obj_old (obj_set HG.out 7 _) _
 have bH:w1.heap[f]? = some (.cells #[.int .i64 0,.int .i64 (k:Int)] 160 (0,0)):=by rw [aA];exact obj_old (obj_far aY.out (p:=⟨g,7,none⟩) aH _) _
 have ak:w1.heap[w.heap.size]? = some (.cells #[.pointer (some ⟨g,0,none⟩)] 44 (0,0)):=by rw [aA];exact obj_new_at _ _ _ (by simp [World.setCell])
 have hT:Touch (At g) w w1:=by rw [aA];exact ((Touch.refl (At g) w).set 7 _).alloc _
 rw [← aA]
 clear aA c0 c1 c2 c3 c4 c5 c6 c7 fz b0 b1 b2 b3
 obtain ⟨c0,c1,c2,c3,c4,c5,c6,c7,fz⟩:=dv_cells af
 obtain ⟨b0,b1,b2,b3⟩:=cells2 bH
 have bx:w1.cell? ⟨w.heap.size,0,none⟩=some (.pointer (some ⟨g,0,none⟩)):=by rw [obj_cell ak];rfl
 have bA:=Hi af
 have HT:=Hi hT
 clear af bH ak hT
 go_still_tail 26,(by kernel_rfl)
 change wpList _ _ _ _ _ w1.drew
 go_wp2
 have bq:((((w1.setCell ⟨g,0,none⟩ (.slice A t c)).setCell ⟨g,4,none⟩ (.pointer none)).setCell ⟨g,3,none⟩ (.bool true)).drew).heap[g]? = some (.cells (dvCells (.slice A t c) d.quota s true (.pointer none) d.counted d.deeds (.func (.func F) #[] caps)) 108 (0,0)):=
  obj_set (obj_set (obj_set bA.out 0 _) 4 _) 3 _
 have bD:Touch (At g) w ((((w1.setCell ⟨g,0,none⟩ (.slice A t c)).setCell ⟨g,4,none⟩ (.pointer none)).setCell ⟨g,3,none⟩ (.bool true)).drew):=(((HT.out.set 0 _).set 4 _).set 3 _).drew
 have bh:Touch (At g) w1 ((((w1.setCell ⟨g,0,none⟩ (.slice A t c)).setCell ⟨g,4,none⟩ (.pointer none)).setCell ⟨g,3,none⟩ (.bool true)).drew):=((((Touch.refl (At g) w1).set 0 _).set 4 _).set 3 _).drew
 have bT:=bh.cell bx (fun h=>by simp only [At] at h;omega)
 obtain ⟨e0,e1,e2,e3,e4,e5,e6,e7,ez⟩:=dv_cells bq
 have aj:=HO.out.ne HG.out (by decide)
 refine leaves_cons (f:=112) (args:=#[.pointer (some ⟨w.heap.size,0,none⟩)]) (by simp) (by simp [go_sem]) ?_
 refine (deed1_deferred w.heap.size g _ .returning _ bT e7 (ez 7)).mono ?_
 rintro e u' w3 ⟨rfl,rfl,rfl⟩
 refine ⟨_,results_tmp rfl _ _ _,rfl,.slice A t c,⟨?_, ?_, ?_⟩,by cases A <;> rfl,bD.set 7 _⟩
 · rw [b9.out];exact obj_set bq 7 _
 · rw [b9.out];exact cb.out.keep (bD.set 7 _) (fun j hj h=>aj (by rw [show At g j from h] at hj;cases A <;> exact hj))
 · rw [b9.out];rfl
theorem deed_calls (F:Nat) (caps:Array Value) (au:∀ (w:World),(callFunc F caps).run Tryz.prog w=.ok (.enter F caps) w) (g:Nat) (S:Nat→Prop) (d d2:Dv) (w:World) (hd:DV w S g d) (a2:d.Ok) (a9:d.deeds≤9223372036854775806)
 (hF:d.deed.2=true→∀ v bp does w1,DvAt w1 g v bp does d.deed.1→S g→(∀ k,blk v=some k→S k)→(∀ k,bpBlock bp=some k→S k)→Touch S w w1→Calls Tryz.prog F caps w1 (DoesPost w1 g v bp does d2)) :
 Calls Tryz.prog 76 #[.pointer (some ⟨g,0,none⟩),.func (.func F) #[] caps] w fun e w'=>e=.returned (.int .i64 (if d.deed.2 then 0 else 51))∧DV w' (More S w) g (if d.deed.2 then d2 else d.deed.1)∧Touch S w w':=by
 obtain ⟨v,bp,does0,a0,a3,a4,a7,_⟩:=hd
 cases hb:d.bound with
 | none=>
   obtain rfl:bp=.pointer none:=by have:=a0.2.2;rw [hb] at this;exact this
   have ht:d.deed.2=true:=by unfold Dv.deed;rw [hb]
   refine (deed_none F caps au g v does0 d d2 w hb a0 a9 (fun w1 h1 h2=>hF ht v _ _ w1 h1 a3 a4 a7 (h2.mono fun k _ h=>by rw [show k=g from h];exact a3))).mono ?_
   rintro e w' ⟨rfl,v',ae,aK,aQ⟩
   rw [if_pos ht,if_pos ht]
   refine ⟨rfl,⟨v',_,_,ae,.inl a3,fun k hk=>?_,fun k hk=>.inl (a7 k hk),rfl⟩,aQ.mono fun k _ h=>?_⟩
   · rcases aK with h | ⟨k',h,bf⟩
     · exact .inl (a4 k (by rw [← h];exact hk))
     · rw [h] at hk;injection hk with hk;exact .inr (by omega)
   · rcases h with rfl | h
     · exact a3
     · exact a4 k h
 | some x=>
   obtain ⟨a,k⟩:=x
   have ai:=a0.2.2
   rw [hb] at ai
   obtain ⟨f,rfl,hf⟩:=ai
   obtain ⟨cq,aS⟩:=a2.fits a k hb
   have bN:S f:=a7 f rfl
   cases a with
   | zero=>
     have ht:¬d.deed.2=true:=by unfold Dv.deed;rw [hb];simp
     refine (deed_power _ ⟨F,caps,rfl⟩ g f k v does0 d w hb a0 aS a2.synced).mono ?_
     rintro e w' ⟨rfl,v',ae,aK,aQ⟩
     rw [if_neg ht,if_neg ht]
     exact ⟨rfl,⟨v',_,_,ae,.inl a3,fun k hk=>.inl (a4 k (by rw [← aK];exact hk)),fun k hk=>by simp [bpBlock] at hk,rfl⟩,aQ.mono fun k _ h=>by rw [show k=g from h];exact a3⟩
   | succ a=>
     have ht:d.deed.2=true:=by unfold Dv.deed;rw [hb]
     refine (deed_more F caps au g f a k v does0 d d2 w hb a0 a9 (by omega) (fun w1 h1 h2=>hF ht v _ _ w1 h1 a3 a4 a7 (h2.mono fun k _ h=>by
      rcases h with rfl | rfl
      · exact a3
      · exact bN))).mono ?_
     rintro e w' ⟨rfl,v',ae,aK,aQ⟩
     rw [if_pos ht,if_pos ht]
     refine ⟨rfl,⟨v',_,_,ae,.inl a3,fun k hk=>?_,fun k hk=>.inl (a7 k hk),rfl⟩,aQ.mono fun k _ h=>?_⟩
     · rcases aK with h | ⟨k',h,bf⟩
       · exact .inl (a4 k (by rw [← h];exact hk))
       · rw [h] at hk;injection hk with hk;exact .inr (by omega)
     · rcases h with rfl | rfl | h
       · exact a3
       · exact bN
       · exact a4 k h
end
section
open Go.RowKit Go.BigFrame
def Past (S:Nat→Prop) (n:Nat):Nat→Prop:=fun j=>(S j∧j<n)∨n<j
theorem write_loop (g:Nat) (S:Nat→Prop) (d:Dv) (A:Option Addr) (c:Nat) (l:List UInt8) (w:World) (hd:DV w S g d) (a2:d.Ok) (a5:d.down=false) (hl:0<l.length) (hq:d.b.length+l.length≤d.quota) (hr:Reads w A l) (hS:∀ a,A=some a→l≠[]→¬S a.block)
 (a9:d.deeds+l.length≤9223372036854775806) :
 Calls Tryz.prog 39 #[.pointer (some ⟨g,0,none⟩),.slice A l.length c] w fun e w'=>e=.returned (.int .i64 (d.put l).2)∧DV w' (More S w) g (d.put l).1∧Touch S w w':=by
 have HD:=Hi hd
 obtain ⟨v,bp,does0,a0,a3,a4,a7,_⟩:=hd
 obtain ⟨A0,c0,rfl,aN,_,aU,_⟩:=a0.2.1.form
 obtain ⟨c0,c1,c2,c3,c4,c5,c6,c7,fz⟩:=dv_cells a0.1
 rw [a5] at c3
 have am:=obj_lt a0.1
 have ci:=a2.quota
 have aW:(0:Int)<(l.length:Int):=by omega
 have bQ:decide ((d.quota:Int)<(d.b.length:Int)+(l.length:Int))=false:=by rw [decide_eq_false_iff_not];omega
 have ba:∀ (fn:Fn) (first cap:Array Value) (w:World),(Instr.makeFunc fn first cap).run Tryz.prog w=.ok (.func fn first cap) w:=fun _ _ _ _=>rfl
 have bj:=Hi a2
 have HR:=Hi hr
 have bY:=Hi hS
 have cr:=Hi a5
 clear a0 a2 hr a5 a3 a4 a7 hS
 go_enter Tryz.func39,Tryz.ntmps39
 go_wp2_with fail
 go_quiet (fail)
 go_wp2
 have ak:((w.alloc (.cells #[.pointer (some ⟨g,0,none⟩)] 44)).drewN nq).heap[w.heap.size]? = some (.cells #[.pointer (some ⟨g,0,none⟩)] 44 (0,0)):=obj_new _ _
 have bM:DV ((w.alloc (.cells #[.pointer (some ⟨g,0,none⟩)] 44)).drewN nq) (Past S w.heap.size) g d:=((HD.out.here).below (below_drewN ((Below.refl _ w).alloc (Nat.le_refl _) _) nq)).mono fun k _ h=>.inl h
 have bK:Touch S w ((w.alloc (.cells #[.pointer (some ⟨g,0,none⟩)] 44)).drewN nq):=((Touch.refl S w).alloc _).drewN nq
 have bF:=Hi ak
 have bt:=Hi bM
 have bw:=Hi bK
 clear ak bM bK c1 c2 c3 c4 c5 c6 c7 fz
 go_loopw [32] (fun i wr=>∃ (k:Nat) (dk:Dv),k≤l.length∧i=.int .i64 (k:Int)∧wr.heap[w.heap.size]? = some (.cells #[.pointer (some ⟨g,0,none⟩)] 44 (0,0))∧DV wr (Past S w.heap.size) g dk∧Touch S w wr∧dk.Ok∧dk.b.length=d.b.length+k∧dk.deeds=d.deeds+k∧d.put l=dk.put (l.drop k)) (fun i _=>l.length-(intOf i).toNat)
 case atStart=>exact ⟨0,d,Nat.zero_le _,rfl,bF.out,bt.out,bw.out,bj.out,rfl,rfl,rfl⟩
 case round=>
  obtain ⟨k,dk,hk,rfl,ak,bG,bv,aL,aS,aG,aE⟩:=hrel
  have cl:w.heap.size<wr.heap.size:=obj_lt ak
  have bV:wr.cell? ⟨w.heap.size,0,none⟩=some (.pointer (some ⟨g,0,none⟩)):=by rw [obj_cell ak];rfl
  have bd:=Hi ak
  have bz:=Hi bG
  have b5:=Hi bv
  have al:=Hi aL
  have bs:=Hi aS
  have aM:=Hi aG
  have av:=Hi aE
  clear ak bG bv aL aS aG aE bF bt bw HD bj
  by_cases ao:k<l.length
  · have i1:(0:Int)≤(k:Int):=Int.natCast_nonneg _
    have i2:(k:Int)<(l.length:Int):=by omega
    have aj:l≠[]:=by intro h;rw [h] at ao;simp at ao
    have bu:∀ a,A=some a→a.block<w.heap.size:=fun a e=>by
     subst e
     obtain ⟨ad,e1,hc⟩:=HR.out.out k ao
     cases e1
     have:=World.block_lt_of_cell? w _ hc
     rwa [addr_add_block] at this
    obtain ⟨a1,rfl,x1⟩:=(b5.out.reads HR.out bY.out).out k ao
    have h1:DV (wr.alloc (.cells #[.int .u8 (((l[k]'ao).toNat:Nat):Int)] 5)) (fun j=>Past S w.heap.size j∧j<wr.heap.size) g dk:=(bz.out.here).below ((Below.refl _ wr).alloc (Nat.le_refl _) _)
    have au:=fun (wx:World)=>run_callFunc_body (P:=Tryz.prog) Tryz.func77 (by kernel_rfl) (by kernel_rfl) #[.pointer (some ⟨w.heap.size,0,none⟩),.pointer (some ⟨wr.heap.size,0,none⟩)] wx
    obtain ⟨x,hx⟩:∃ x,x=l[k]'ao:=⟨_,rfl⟩
    have ap:l.drop k=x :: l.drop (k+1):=by rw [hx];exact List.drop_eq_getElem_cons ao
    rw [← hx] at x1 h1
    have H1:=Hi h1
    have bl:=Hi ap
    have ck:=Hi bu
    have HX:=Hi hx
    clear h1 ap bu hx
    go_wp2_with fail
    have bi:(wr.alloc (.cells #[.int .u8 ((x.toNat:Nat):Int)] 5)).heap[w.heap.size]? = some (.cells #[.pointer (some ⟨g,0,none⟩)] 44 (0,0)):=obj_old bd.out _
    have bB:(wr.alloc (.cells #[.int .u8 ((x.toNat:Nat):Int)] 5)).cell? ⟨wr.heap.size,0,none⟩=some (.int .u8 ((x.toNat:Nat):Int)):=by rw [obj_cell (obj_new _ _)];rfl
    refine (deed_calls _ _ au g (fun j=>Past S w.heap.size j∧j<wr.heap.size) dk { dk.deed.1 with b:=dk.b++[x] } _ H1.out al.out (by rw [aM.out];omega) (fun ht v bp does w2 bc _ _ _ ac=>?_)).mono ?_
    · have ah:=Dv.deed_yes ht
      have:=put1_calls w.heap.size wr.heap.size g v bp does dk.deed.1 x w2 bc (ac.obj bi (fun h=>by rcases h.1 with h | h <;> omega)) (ac.cell bB (fun h=>by have:=h.2;simp only at this;omega)) (by rw [ah.1];have:=al.out.size;omega)
      rw [ah.1] at this
      exact this
    · rintro e w3 ⟨rfl,bI,bk⟩
      have aI:Touch S w w3:=(b5.out.alloc _).trans bk fun j hj h=>by
       rcases h.1 with h | h
       · exact h.1
       · omega
      have an:∀ j,j<w3.heap.size→More (fun j=>Past S w.heap.size j∧j<wr.heap.size) (wr.alloc (.cells #[.int .u8 ((x.toNat:Nat):Int)] 5)) j→Past S w.heap.size j:=fun j _ h=>by
       rcases h with h | h
       · exact h.1
       · have:wr.heap.size+1≤j:=by simpa using h
         exact .inr (by omega)
      have aO:=bk.obj bi (fun h=>by rcases h.1 with h | h <;> omega)
      have aJ:=bI.mono an
      have aB:=Hi aJ
      have bJ:=Hi aI
      have be:=Hi aO
      clear bI aJ aI an bk aO bi bB au
      cases a8:dk.deed.2 with
      | true=>
        rw [a8] at aB
        simp only [if_true] at aB ⊢
        have ah:=Dv.deed_yes a8
        have HY:=Hi ah
        have ar:=Hi a8
        clear ah a8
        go_wp2
        refine ⟨⟨k+1,{ dk.deed.1 with b:=dk.b++[x] },by omega,by go_num,be.out,aB.out,bJ.out, ?_, ?_, ?_, ?_⟩,by simp [intOf];omega⟩
        · obtain ⟨k1,k2,k3,k4⟩:=Dv.deed_ok al.out
          have h1:=al.out.synced
          have h2:=bs.out
          obtain ⟨y1,y2,y3,y4⟩:=HY.out
          exact ⟨by simp only [List.length_append];omega,by simp only [List.length_append,List.length_singleton];omega,k3,k4⟩
        · simp only [List.length_append,List.length_singleton];rw [bs.out];omega
        · simp only;rw [HY.out.2.2.1,aM.out];omega
        · rw [av.out,bl.out,Dv.put_yes ar.out]
      | false=>
        rw [a8] at aB
        simp only [if_false,Bool.false_eq_true] at aB ⊢
        have ar:=Hi a8
        clear a8
        go_wp2
        go_ret
        rw [av.out,bl.out,Dv.put_no ar.out]
        exact ⟨rfl,aB.out.mono fun j _ h=>h.elim (fun h=>.inl h.1) (fun h=>.inr (Nat.le_of_lt h)),bJ.out⟩
  · go_wp2
    go_ret
    have bf:k=l.length:=by omega
    have hp:=av.out
    rw [bf,List.drop_length] at hp
    rw [hp]
    exact ⟨rfl,bz.out.mono fun j _ h=>h.elim (fun h=>.inl h.1) (fun h=>.inr (Nat.le_of_lt h)),b5.out⟩
theorem DV.same {S:Nat→Prop} {w w':World} {g:Nat} {d:Dv} (h:DV w S g d) (hb:Below w.heap.size w w'):DV w' (More S w) g d:=(h.below hb).mono fun _ _ h=>.inl h
theorem write_down (g:Nat) (S:Nat→Prop) (d:Dv) (A:Option Addr) (c n:Nat) (w:World) (hd:DV w S g d) (a5:d.down=true) :
 Calls Tryz.prog 39 #[.pointer (some ⟨g,0,none⟩),.slice A n c] w fun e w'=>e=.returned (.int .i64 50)∧Below w.heap.size w w':=by
 obtain ⟨v,bp,does0,a0,_⟩:=hd
 obtain ⟨c0,c1,c2,c3,c4,c5,c6,c7,fz⟩:=dv_cells a0.1
 rw [a5] at c3
 have am:=obj_lt a0.1
 clear a0
 go_enter Tryz.func39,Tryz.ntmps39
 go_wp2
 go_ret
 exact ⟨rfl,(Below.refl _ _).alloc (Nat.le_refl _) _⟩
theorem write_none (g:Nat) (S:Nat→Prop) (d:Dv) (A:Option Addr) (c:Nat) (w:World) (hd:DV w S g d) (a5:d.down=false) :
 Calls Tryz.prog 39 #[.pointer (some ⟨g,0,none⟩),.slice A 0 c] w fun e w'=>e=.returned (.int .i64 0)∧Below w.heap.size w w':=by
 obtain ⟨v,bp,does0,a0,_⟩:=hd
 obtain ⟨c0,c1,c2,c3,c4,c5,c6,c7,fz⟩:=dv_cells a0.1
 rw [a5] at c3
 have am:=obj_lt a0.1
 have aW:decide ((0:Int)<0)=false:=by decide
 clear a0
 go_enter Tryz.func39,Tryz.ntmps39
 go_wp2_with fail
 go_quiet (fail)
 go_wp2
 go_loopw [32] (fun i wr=>i=.int .i64 0∧Below w.heap.size w wr) (fun i _=>0)
 case atStart=>exact ⟨rfl,below_drewN ((Below.refl _ w).alloc (Nat.le_refl _) _) nq⟩
 case round=>
  obtain ⟨rfl,hb⟩:=hrel
  go_wp2
  go_ret
  exact ⟨rfl,hb⟩
theorem write_full (g:Nat) (S:Nat→Prop) (d:Dv) (A:Option Addr) (c n:Nat) (w:World) (hd:DV w S g d) (a2:d.Ok) (a5:d.down=false) (hl:0<n) (hn:n≤1152921504606846976) (hq:d.quota<d.b.length+n) :
 Calls Tryz.prog 39 #[.pointer (some ⟨g,0,none⟩),.slice A n c] w fun e w'=>e=.returned (.int .i64 52)∧Below w.heap.size w w':=by
 obtain ⟨v,bp,does0,a0,_⟩:=hd
 obtain ⟨A0,c0,rfl,aN,_,aU,_⟩:=a0.2.1.form
 obtain ⟨c0,c1,c2,c3,c4,c5,c6,c7,fz⟩:=dv_cells a0.1
 rw [a5] at c3
 have am:=obj_lt a0.1
 have aX:=a2.size
 have aW:(0:Int)<(n:Int):=by omega
 have bQ:decide ((d.quota:Int)<(d.b.length:Int)+(n:Int))=true:=by rw [decide_eq_true_eq];omega
 clear a0
 go_enter Tryz.func39,Tryz.ntmps39
 go_wp2_with fail
 go_quiet (fail)
 go_wp2
 go_ret
 exact ⟨rfl,below_drewN ((Below.refl _ w).alloc (Nat.le_refl _) _) nq⟩
theorem write_calls (g:Nat) (S:Nat→Prop) (d:Dv) (A:Option Addr) (c:Nat) (l:List UInt8) (w:World) (hd:DV w S g d) (a2:d.Ok) (hr:Reads w A l) (hS:∀ a,A=some a→l≠[]→¬S a.block) (hl:l.length≤1152921504606846976)
 (a9:d.deeds+l.length≤9223372036854775806) :
 Calls Tryz.prog 39 #[.pointer (some ⟨g,0,none⟩),.slice A l.length c] w fun e w'=>e=.returned (.int .i64 (d.write l).2)∧DV w' (More S w) g (d.write l).1∧Touch S w w':=by
 have quietly:∀ {e:Ending} {w':World} {v:Int},(e=.returned (.int .i64 v)∧Below w.heap.size w w')→e=.returned (.int .i64 v)∧DV w' (More S w) g d∧Touch S w w':=fun h=>⟨h.1,hd.same h.2,(Touch.of_below h.2 fun k hk hb=>absurd hk (by omega))⟩
 cases a5:d.down with
 | true=>
   rw [show d.write l=(d,50) by unfold Dv.write;rw [if_pos a5]]
   exact (write_down g S d A c l.length w hd a5).mono fun _ _ h=>quietly h
 | false=>
   by_cases h0:0<l.length
   · by_cases hq:d.quota<d.b.length+l.length
     · rw [show d.write l=(d,52) by unfold Dv.write;rw [if_neg (by rw [a5];decide),if_pos ⟨h0,hq⟩]]
       exact (write_full g S d A c l.length w hd a2 a5 h0 hl hq).mono fun _ _ h=>quietly h
     · rw [show d.write l=d.put l by unfold Dv.write;rw [if_neg (by rw [a5];decide),if_neg (fun h=>hq h.2)]]
       exact write_loop g S d A c l w hd a2 a5 h0 (by omega) hr hS a9
   · have aW:l=[]:=List.eq_nil_of_length_eq_zero (by omega)
     subst aW
     rw [show d.write []=(d,0) by unfold Dv.write;rw [if_neg (by rw [a5];decide),if_neg (fun h=>h0 h.1)];rfl]
     exact (write_none g S d A c w hd a5).mono fun _ _ h=>quietly h
theorem DvAt.poke {w:World} {g:Nat} {v bp does does':Value} {d d':Dv} (h:DvAt w g v bp does d) (i:Nat) (u:Value) (hc:(dvCells v d.quota d.synced d.down bp d.counted d.deeds does).setIfInBounds i u=dvCells v d'.quota d'.synced d'.down bp d'.counted d'.deeds does') (hb:d'.b=d.b) (ai:d'.bound=d.bound) :
 DvAt (w.setCell ⟨g,i,none⟩ u) g v bp does' d':=by
 obtain ⟨hg,ho,ab⟩:=h
 refine ⟨by rw [← hc];exact obj_set hg i u, ?_, ?_⟩
 · rw [hb];exact ho.far (p:=⟨g,i,none⟩) (ho.ne hg (by decide)) _
 · rw [ai]
   refine ab.keep ((Touch.refl (At g) w).set i u) fun k hk e=>?_
   cases hx:d.bound with
   | none=>rw [hx] at ab;rw [show bp=_ from ab] at hk;simp [bpBlock] at hk
   | some x=>
     rw [hx] at ab
     obtain ⟨f,rfl,hf⟩:=ab
     simp only [bpBlock,Option.some.injEq] at hk
     cases e
     subst hk
     rw [hg] at hf
     injection hf with h1
     injection h1 with h2 h3 h4
     revert h3
     decide
section
variable (g:Nat) (S:Nat→Prop) (d:Dv) (w:World) (hd:DV w S g d)
include hd
theorem devLen_calls:Calls Tryz.prog 58 #[.pointer (some ⟨g,0,none⟩)] w fun e w'=>e=.returned (.int .i64 (d.b.length:Int))∧w=w':=by
 obtain ⟨v,bp,does,a0,a3,a4,a7,rfl⟩:=hd
 obtain ⟨A,c,rfl,_⟩:=a0.2.1.form
 obtain ⟨c0,c1,c2,c3,c4,c5,c6,c7,fz⟩:=dv_cells a0.1
 clear a0 a3 a4 a7
 go_enter Tryz.func58,Tryz.ntmps58
 go_wp2
 go_ret
 exact ⟨rfl,rfl⟩
theorem devUp_calls:Calls Tryz.prog 59 #[.pointer (some ⟨g,0,none⟩)] w fun e w'=>e=.returned (.bool (!d.down))∧w=w':=by
 obtain ⟨v,bp,does,a0,a3,a4,a7,rfl⟩:=hd
 obtain ⟨c0,c1,c2,c3,c4,c5,c6,c7,fz⟩:=dv_cells a0.1
 clear a0 a3 a4 a7
 go_enter Tryz.func59,Tryz.ntmps59
 go_wp2
 go_ret
 exact ⟨rfl,rfl⟩
end
theorem devRead_out (g:Nat) (S:Nat→Prop) (d:Dv) (a n:Int) (w:World) (hd:DV w S g d) (a2:d.Ok) (h:a<0∨(d.b.length:Int)<a∨n<0) :
 Calls Tryz.prog 60 #[.pointer (some ⟨g,0,none⟩),.int .i64 a,.int .i64 n] w fun e w'=>e=.returned (.tuple #[.slice none 0 0,.int .i64 7])∧Quiet w w':=by
 obtain ⟨v,bp,does,a0,a3,a4,a7,rfl⟩:=hd
 have aX:=a2.size
 obtain ⟨A0,cap,rfl,aN,aT,_⟩:=a0.2.1.form
 obtain ⟨c0,c1,c2,c3,c4,c5,c6,c7,fz⟩:=dv_cells a0.1
 clear a0 a3 a4 a7 a2 aT
 by_cases h1:a<0
 · clear h
   go_enter Tryz.func60,Tryz.ntmps60
   go_wp2
   go_ret2
   exact ⟨rfl,Quiet.refl w⟩
 · by_cases h2:(d.b.length:Int)<a
   · clear h
     go_enter Tryz.func60,Tryz.ntmps60
     go_wp2
     go_ret2
     exact ⟨rfl,Quiet.refl w⟩
   · have h3:n<0:=by omega
     clear h
     go_enter Tryz.func60,Tryz.ntmps60
     go_wp2
     go_ret2
     exact ⟨rfl,Quiet.refl w⟩
theorem devRead_in (g:Nat) (S:Nat→Prop) (d:Dv) (a n:Nat) (w:World) (hd:DV w S g d) (a2:d.Ok) (bn:d.counted≤9223372036852678655) (h:a≤d.b.length) (hn:n≤9223372036854775807) :
 Calls Tryz.prog 60 #[.pointer (some ⟨g,0,none⟩),.int .i64 (a:Int),.int .i64 (n:Int)] w fun e w'=>∃ v,e=.returned (.tuple #[v,.int .i64 0])∧OwnL 5 w' w.heap.size v ((d.b.drop a).take n)∧DV w' S g { d with counted:=d.counted+((d.b.drop a).take n).length }∧Touch S w w':=by
 have HD:=Hi hd
 obtain ⟨v,bp,does,a0,a3,a4,a7,rfl⟩:=hd
 have aX:=a2.size
 have bj:=Hi a2
 obtain ⟨A0,cap,rfl,aN,aT,aU,ce⟩:=a0.2.1.form
 obtain ⟨c0,c1,c2,c3,c4,c5,c6,c7,fz⟩:=dv_cells a0.1
 have am:=obj_lt a0.1
 have h1:¬(a:Int)<0:=by omega
 have h2:¬(d.b.length:Int)<(a:Int):=by omega
 have h3:¬(n:Int)<0:=by omega
 have HR:=Hi aT
 have bm:=Hi a0
 have HS:=Hi (show S g∧(∀ k,blk (.slice A0 d.b.length cap)=some k→S k)∧(∀ k,bpBlock bp=some k→S k) from ⟨a3,a4,a7⟩)
 clear a0 a3 a4 a7 a2 aT
 obtain ⟨m,hm⟩:∃ m:Nat,m=min n (d.b.length-a):=⟨_,rfl⟩
 have bU:min (n:Int) ((d.b.length:Int)-(a:Int))=(m:Int):=by omega
 have aD:((d.b.drop a).take n).length=m:=by rw [List.length_take,List.length_drop];omega
 have cm:a+m≤cap:=by omega
 have ax:=Hi aD
 clear aD
 have c8:m≤2097152:=by omega
 clear hm
 have cj:IntKind.i64.wrap ((d.b.length:Int)-(a:Int))=(d.b.length:Int)-(a:Int):=by rw [IntKind.wrap_i64];omega
 obtain ⟨t,ht⟩:∃ t:Nat,t=a+m:=⟨_,rfl⟩
 have bW:IntKind.i64.wrap ((a:Int)+(m:Int))=(t:Int):=by rw [IntKind.wrap_i64,ht];omega
 have aP:a≤t:=by omega
 have bR:t≤cap:=by omega
 have HT:=Hi ht
 clear ht
 obtain ⟨Z,bE⟩:∃ Z,(if cap=a then A0 else Option.map (fun x=>x.add a) A0)=Z:=⟨_,rfl⟩
 obtain ⟨part,a6⟩:∃ part,part=(d.b.drop a).take n:=⟨_,rfl⟩
 have bo:Reads w Z part:=by
  rw [a6]
  refine (HR.out.drop_any a Z fun ao ad e=>?_).take n
  rw [← bE,if_neg (by omega),e]
  rfl
 have br:t-a=part.length:=by rw [a6,ax.out,HT.out];omega
 have cp:part.length≤2097152:=by rw [a6,ax.out];exact c8
 have cc:=Hi bo
 have ch:=Hi br
 rw [← a6]
 clear bo br a6 ax HT
 go_enter Tryz.func60,Tryz.ntmps60
 go_wp2_with fail
 go_still_tail 17,(by kernel_rfl)
 change wpList _ _ _ _ _ w.drew
 go_wp2_with fail
 rw [ch.out]
 refine (clone_bytes Z (cap-a) part w.drew (by omega) cc.out).mono ?_
 rintro e w1 ⟨v1,rfl,b4,bC⟩
 obtain ⟨A1,cap1,rfl,_⟩:=b4.form
 have bb:Keeps w w1:=(Keeps.drew w).trans bC
 have af:w1.heap[g]? = some (.cells (dvCells (.slice A0 d.b.length cap) d.quota d.synced d.down bp d.counted d.deeds .nilFunc) 108 (0,0)):=by
  rw [bb.below.block g am];exact bm.out.1
 obtain ⟨e0,e1,e2,e3,e4,e5,e6,e7,ez⟩:=dv_cells af
 have bA:=Hi af
 have bL:=Hi b4
 have HK:=Hi bb
 clear af b4 bC bb c0 c1 c2 c3 c4 c5 c6 c7 fz bE
 go_wp2
 go_ret2
 have hT:Touch (fun _=>False) w w1:=Touch.of_below HK.out.below fun k hk hb=>absurd hk (by omega)
 have aP:=(bm.out.keep hT (fun h=>h) (fun _ _ h=>h) (fun _ _ h=>h)).poke (d':={ d with counted:=d.counted+part.length }) 5 (.int .i64 ((d.counted:Int)+(part.length:Int))) (by rfl) rfl rfl
 obtain ⟨s1,s2,s3⟩:=HS.out
 refine ⟨_,rfl, ?_,⟨_,bp,.nilFunc,aP,s1,s2,s3,rfl⟩,(hT.mono fun _ _ h=>h.elim).setCell _ _ fun _=>s1⟩
 exact bL.out.far (p:=⟨g,5,none⟩) (fun hk=>by have:=(bL.out.lt g hk).1;simp at this;omega) _
theorem devRead_calls (g:Nat) (S:Nat→Prop) (d:Dv) (a n:Int) (w:World) (hd:DV w S g d) (a2:d.Ok) (bn:d.counted≤9223372036852678655) (hn:n≤9223372036854775807) :
 Calls Tryz.prog 60 #[.pointer (some ⟨g,0,none⟩),.int .i64 a,.int .i64 n] w fun e w'=>∃ v,e=.returned (.tuple #[v,.int .i64 (d.read a n).2.2])∧OwnL 5 w' w.heap.size v (d.read a n).2.1∧DV w' S g (d.read a n).1∧Touch S w w':=by
 by_cases h:a<0∨(d.b.length:Int)<a∨n<0
 · rw [show d.read a n=(d,[],7) by unfold Dv.read;rw [if_pos h]]
   exact (devRead_out g S d a n w hd a2 h).mono fun _ _ ⟨he,hq⟩=>⟨_,he,OwnL.empty _ _ _ none,hd.below (hq.below _),(Touch.refl S w).quiet hq⟩
 · obtain ⟨a',rfl⟩:=Int.eq_ofNat_of_zero_le (show 0≤a by omega)
   obtain ⟨n',rfl⟩:=Int.eq_ofNat_of_zero_le (show 0≤n by omega)
   rw [show d.read (a':Int) (n':Int)=({ d with counted:=d.counted+((d.b.drop a').take n').length },(d.b.drop a').take n',0) by unfold Dv.read;rw [if_neg h];rfl]
   exact devRead_in g S d a' n' w hd a2 bn (by omega) (by omega)
end
section
open Go.RowKit
def freshDev (q:Int):Obj:=.cells #[.slice none 0 0,.int .i64 q,.int .i64 0,.bool false,.pointer none,.int .i64 0,.int .i64 0,.nilFunc] 108
theorem new_yes (q:Int) (w:World) (h0:0≤q) (h1:q≤1048576) :
 Calls Tryz.prog 38 #[.int .i64 q] w fun e w'=>e=.returned (.tuple #[.pointer (some ⟨w.heap.size,0,none⟩),.int .i64 0])∧w.alloc (freshDev q)=w':=by
 unfold freshDev
 go_enter Tryz.func38,Tryz.ntmps38
 go_wp2
 go_ret2
 exact ⟨rfl,rfl⟩
end
theorem fresh_ok (q:Nat) (h:q≤1048576):(Dv.fresh q).Ok:=⟨Nat.le_refl _,Nat.zero_le _,h,fun _ _ h=>by cases h⟩
theorem write_ok {d:Dv} (h:d.Ok) (l:List UInt8):(d.write l).1.Ok:=by
 have h1:=h.quota
 unfold Dv.write
 split
 · exact h
 · split
   · exact h
   · rename_i hn
     refine (Dv.put_ok l h ?_).1
     by_cases hl:l=[]
     · exact .inl hl
     · have:=List.length_pos_iff.2 hl
       exact .inr (by omega)
theorem put_none (l:List UInt8):∀ (d:Dv),d.bound=none→d.put l=({ d with b:=d.b++l,deeds:=d.deeds+l.length },0):=by
 induction l with
 | nil=>intro d h;simp [Dv.put]
 | cons c l ih=>
   intro d h
   have hd:d.deed=({ d with deeds:=d.deeds+1 },true):=by unfold Dv.deed;rw [h]
   rw [Dv.put_yes (by rw [hd])]
   rw [ih _ (by rw [hd];exact h)]
   rw [hd]
   simp only [List.append_assoc,List.singleton_append,List.length_cons,Prod.mk.injEq,and_true,Dv.mk.injEq,true_and]
   omega
end Go.Proofs.YtihodcnnappkbaaGreatDoor
