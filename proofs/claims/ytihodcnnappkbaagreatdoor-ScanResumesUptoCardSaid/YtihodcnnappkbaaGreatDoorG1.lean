/-
  Small words for the walks of this seat: rows of cells that are read, rows of bytes, worlds that part only by draws, append onto a row of the call's own. No condition. The check of 32 bits as plain arithmetic on natural numbers: both ways of reckoning (bit by bit; by half bytes and a table) agree, the check of parts, its linearity, and that a burst of at most 32 bits changes it. No condition. The walks of crc.Update and Sum: what they answer for any bytes. Condition: the bytes' slice reads as a list; the table of halves holds its sixteen numbers. Which blocks a call may have written: 'Touch F w w'': of the blocks that were there only those in F may have turned. No condition. Rows of the call's own, or slices without length and capacity, whatever their address (what slices.Clone makes of an empty slice). No condition. The walk of slices.Clone at a slice of bytes. Condition: the slice reads as a list of bytes. Numbers in base 128 as bytes: plain. No condition. The walk of leb.Len. Condition: the number is of 64 bits. The walk of leb.Put. Condition: the number is of 64 bits. Floats with one NaN: the walks of real.Fix, Bits, Same and of the reference's. No condition. The reference's floats: the walks of Bits and Same. No condition. Types as trees in memory, and when two are the same: plain. No condition.
-/
import Derived.Test.YtihodcnnappkbaaGreatDoorRows
import Derived.WalkKit
import Derived.WalkSpells
import Derived.WalkSmall
import Derived.Laws.BitsAll
import Derived.Lib.Hide
import Derived.Deep.QuietTactic
import Derived.BigQuiet
import Derived.Lib.SlBytesConst
import Derived.Maps.AppendAt
import Derived.Laws.EntriesVeiled
import Derived.Laws.NewBlocks
import Derived.RegionTactic
import Derived.Test.YtihodcnnappkbaaGreatDoorLen64
import Derived.Laws.Cover2
set_option linter.unusedVariables false
set_option linter.unusedSimpArgs false
set_option maxHeartbeats 1000000
set_option maxRecDepth 100000
namespace Go.Proofs.YtihodcnnappkbaaGreatDoor
theorem sT {α:Type} (l:List α) (i:Nat) (a:α):l.toArray.setIfInBounds i a=(l.set i a).toArray:=List.setIfInBounds_toArray l i a
theorem sZ {α:Type} {x:α} {xs:List α} {a:α}:(x::xs).set 0 a=a::xs:=rfl
theorem sS {α:Type} {x:α} {xs:List α} {n:Nat} {a:α}:(x::xs).set (n+1) a=x::xs.set n a:=rfl
open Go.RowKit
theorem Hi {p:Prop} (h:p):Hid p:=Lib.hid h
theorem ret_int {k:IntKind} {a b:Int} (h:a=b):Ending.returned (.int k a)=.returned (.int k b):=by rw [h]
theorem ret_bool {a b:Bool} (h:a=b):Ending.returned (.bool a)=.returned (.bool b):=by rw [h]
def Quiet (w w':World):Prop:=∃ n,w'=w.drewN n
theorem Quiet.refl (w:World):Quiet w w:=⟨0,rfl⟩
theorem Quiet.below {w w':World} (h:Quiet w w') (B:Nat):Below B w w':=by
 obtain ⟨n,rfl⟩:=h
 exact below_drewN (Below.refl _ _) n
theorem quiet_eq {P:Program} {f:FuncId} {args:Array Value} {w:World} {n:Nat} {v:Value}
 (h:Calls P f args (w.drewN n) fun e w'=>e=.returned v∧w.drewN n=w'):Calls P f args (w.drewN n) fun e w''=>e=.returned v∧∃ m,w''=w.drewN m:=
 h.mono fun _ _ ⟨he,hm⟩=>⟨he,n,hm.symm⟩
theorem at_value {P:Program} {f:FuncId} {args:Array Value} {w:World} {k:IntKind} {a b:Int} {R:World→Prop} (e:a=b)
 (h:Calls P f args w fun e w'=>e=.returned (.int k a)∧R w'):Calls P f args w fun e w'=>e=.returned (.int k b)∧R w':=by rw [← e];exact h
/-! ### what was there is as it was -/
def Keeps (w w':World):Prop:=Below w.heap.size w w'
theorem Keeps.refl (w:World):Keeps w w:=Below.refl _ _
theorem Keeps.drew (w:World):Keeps w w.drew:=(Below.refl _ _).drew
theorem Keeps.below {w w':World} (h:Keeps w w'):Below w.heap.size w w':=h
theorem Keeps.trans {a b c:World} (h:Keeps a b) (k:Keeps b c):Keeps a c:=Below.trans h (Below.mono k h.size)
theorem Keeps.quiet {a b c:World} (h:Keeps a b) (k:Quiet b c):Keeps a c:=Below.trans h (k.below _)
theorem Keeps.alloc {a b:World} (h:Keeps a b) (o:Obj):Keeps a (b.alloc o):=Below.alloc h h.size o
theorem Keeps.size {a b:World} (h:Keeps a b):a.heap.size≤b.heap.size:=Below.size h
/-! ### addresses -/
theorem addr_add_zero (a:Addr):a.add 0=a:=by simp [Addr.add]
theorem addr_add_add (a:Addr) (i j:Nat):(a.add i).add j=a.add (i+j):=by
 unfold Addr.add
 by_cases h1:i=0 <;> by_cases h2:j=0 <;> simp [h1,h2,Nat.add_assoc]
theorem addr_add_mk (g o j:Nat):(⟨g,o,none⟩:Addr).add j=⟨g,o+j,none⟩:=by
 unfold Addr.add;split <;> simp_all
theorem addr_add_block (a:Addr) (i:Nat):(a.add i).block=a.block:=by
 unfold Addr.add;split <;> simp_all
theorem addr_add_pos (a:Addr) (n:Nat) (h:0<n):a.add n=⟨a.block,a.off+n,none⟩:=by
 unfold Addr.add;split <;> simp_all
theorem addr_from (a:Addr) (n:Nat) (h:0<n) (i:Nat):(⟨a.block,a.off+n,none⟩:Addr).add i=a.add (n+i):=by
 rw [addr_add_mk,addr_add_pos a (n+i) (by omega),Nat.add_assoc]
/-! ### rows of cells that are read -/
def RowAt (w:World) (A:Option Addr) (cs:List Value):Prop:=∀ i v,cs[i]? = some v→∃ ad,A=some ad∧w.cell? (ad.add i)=some v
theorem RowAt.nil (w:World) (A:Option Addr):RowAt w A []:=fun i v h=>by simp at h
theorem RowAt.quiet {w w':World} {A:Option Addr} {cs:List Value} (h:RowAt w A cs) (hq:Quiet w w'):RowAt w' A cs:=by
 obtain ⟨n,rfl⟩:=hq
 exact h
theorem RowAt.below {w w':World} {A:Option Addr} {cs:List Value} (h:RowAt w A cs) (hb:Below w.heap.size w w'):RowAt w' A cs:=by
 intro i v hv
 obtain ⟨ad,e,hc⟩:=h i v hv
 exact ⟨ad,e,by rw [hb.cell (World.block_lt_of_cell? w _ hc)];exact hc⟩
theorem RowAt.take {w:World} {A:Option Addr} {cs:List Value} (h:RowAt w A cs) (n:Nat):RowAt w A (cs.take n):=by
 intro i v hv
 rw [List.getElem?_take] at hv
 split at hv
 · exact h i v hv
 · cases hv
theorem RowAt.drop {w:World} {ad ad':Addr} {cs:List Value} (h:RowAt w (some ad) cs) (n:Nat) (ha:∀ i,ad'.add i=ad.add (n+i)):RowAt w (some ad') (cs.drop n):=by
 intro i v hv
 rw [List.getElem?_drop] at hv
 obtain ⟨a2,e,hc⟩:=h _ v hv
 cases e
 exact ⟨ad',rfl,by rw [ha];exact hc⟩
theorem RowAt.drop_any {w:World} {A:Option Addr} {cs:List Value} (h:RowAt w A cs) (n:Nat) (B:Option Addr) (hB:n<cs.length→∀ ad,A=some ad→B=some (ad.add n)):RowAt w B (cs.drop n):=by
 intro i v hv
 rw [List.getElem?_drop] at hv
 obtain ⟨a2,e,hc⟩:=h _ v hv
 have ag:n+i<cs.length:=by
  rcases Nat.lt_or_ge (n+i) cs.length with h | h
  · exact h
  · simp [List.getElem?_eq_none h] at hv
 exact ⟨_,hB (by omega) _ e,by rw [addr_add_add];exact hc⟩
theorem RowAt.new (w:World) (t:TypeId) (fr:Nat×Nat) (C:Array Value) (cs:List Value) (hC:C.toList=cs):RowAt (w.alloc (.cells C t fr)) (some ⟨w.heap.size,0,none⟩) cs:=by
 intro i v hv
 refine ⟨_,rfl, ?_⟩
 have:(w.alloc (.cells C t fr)).heap[w.heap.size]? = some (.cells C t fr):=by
  show (w.heap.push (.cells C t fr))[w.heap.size]? = _
  simp
 rw [addr_add_mk,cell_of_row _ _ (0+i) C t fr this]
 subst hC
 simpa using hv
theorem RowAt.new_at (w:World) (t:TypeId) (fr:Nat×Nat) (C:Array Value) (cs:List Value) (hC:C.toList=cs) (n:Nat) (hn:n=w.heap.size):RowAt (w.alloc (.cells C t fr)) (some ⟨n,0,none⟩) cs:=by
 subst hn;exact RowAt.new w t fr C cs hC
theorem RowAt.of_row {w:World} {g:Nat} {C:Array Value} {t:TypeId} {fr:Nat×Nat} (h:w.heap[g]? = some (.cells C t fr)) (cs:List Value) (n:Nat) (hC:C.toList.take n=cs):RowAt w (some ⟨g,0,none⟩) cs:=by
 intro i v hv
 refine ⟨_,rfl, ?_⟩
 rw [addr_add_mk,cell_of_row _ _ (0+i) C t fr h]
 subst hC
 rw [List.getElem?_take] at hv
 split at hv
 · simpa using hv
 · cases hv
theorem RowAt.own {w:World} {base n size:Nat} {e:TypeId} {A:Option Addr} {m c:Nat} {xs:List Value} (h:w.ownsRow base e size (.slice A m c) n xs):RowAt w A xs:=by
 rcases h.2 with ⟨h0,hn⟩ | ⟨g,cap,cur,h0,_,hg,_,_,_,ac⟩
 · have hl:=h.1
   subst hn
   have:xs=[]:=List.eq_nil_of_length_eq_zero (by simpa using hl)
   subst this
   exact RowAt.nil _ _
 · injection h0 with h1 h2 h3
   subst h1
   exact RowAt.of_row hg xs _ ac
/-! ### bytes -/
def u8s (l:List UInt8):List Value:=l.map fun b=>.int .u8 ((b.toNat:Nat):Int)
theorem u8s_length (l:List UInt8):(u8s l).length=l.length:=by simp [u8s]
theorem u8s_append (l m:List UInt8):u8s (l++m)=u8s l++u8s m:=by simp [u8s]
theorem u8s_take (l:List UInt8) (n:Nat):u8s (l.take n)=(u8s l).take n:=by simp [u8s,List.map_take]
theorem u8s_drop (l:List UInt8) (n:Nat):u8s (l.drop n)=(u8s l).drop n:=by simp [u8s,List.map_drop]
theorem u8s_one (l:List UInt8):∀ u∈u8s l,u.oneCell'=true:=by
 intro u hu
 simp only [u8s,List.mem_map] at hu
 obtain ⟨q,_,rfl⟩:=hu
 rfl
theorem u8s_get (l:List UInt8) (k:Nat) (h:k<l.length):(u8s l)[k]? = some (.int .u8 (((l[k]'h).toNat:Nat):Int)):=by simp [u8s,h]
def Reads (w:World) (A:Option Addr) (l:List UInt8):Prop:=RowAt w A (u8s l)
theorem Reads.out {w:World} {A:Option Addr} {l:List UInt8} (h:Reads w A l) (k:Nat) (hk:k<l.length):∃ ad,A=some ad∧w.cell? (ad.add k)=some (.int .u8 (((l[k]'hk).toNat:Nat):Int)):=h k _ (u8s_get l k hk)
theorem Reads.drewN {w:World} {A:Option Addr} {l:List UInt8} (h:Reads w A l) (n:Nat):Reads (w.drewN n) A l:=h
theorem Reads.quiet {w w':World} {A:Option Addr} {l:List UInt8} (h:Reads w A l) (hq:Quiet w w'):Reads w' A l:=RowAt.quiet h hq
theorem Reads.below {w w':World} {A:Option Addr} {l:List UInt8} (h:Reads w A l) (hb:Below w.heap.size w w'):Reads w' A l:=RowAt.below h hb
theorem Reads.take {w:World} {A:Option Addr} {l:List UInt8} (h:Reads w A l) (n:Nat):Reads w A (l.take n):=by unfold Reads;rw [u8s_take];exact RowAt.take h n
theorem Reads.drop {w:World} {ad ad':Addr} {l:List UInt8} (h:Reads w (some ad) l) (n:Nat) (ha:∀ i,ad'.add i=ad.add (n+i)):Reads w (some ad') (l.drop n):=by unfold Reads;rw [u8s_drop];exact RowAt.drop h n ha
theorem Reads.drop_any {w:World} {A:Option Addr} {l:List UInt8} (h:Reads w A l) (n:Nat) (B:Option Addr) (hB:n<l.length→∀ ad,A=some ad→B=some (ad.add n)):Reads w B (l.drop n):=by
 unfold Reads;rw [u8s_drop];exact RowAt.drop_any h n B (by rw [u8s_length];exact hB)
theorem Reads.nil (w:World) (A:Option Addr):Reads w A []:=RowAt.nil w A
theorem Reads.new (w:World) (l:List UInt8) (t:TypeId) (fr:Nat×Nat) (C:Array Value) (hC:C.toList=u8s l):Reads (w.alloc (.cells C t fr)) (some ⟨w.heap.size,0,none⟩) l:=RowAt.new w t fr C _ hC
theorem Reads.new_at (w:World) (l:List UInt8) (t:TypeId) (fr:Nat×Nat) (C:Array Value) (hC:C.toList=u8s l) (n:Nat) (hn:n=w.heap.size):Reads (w.alloc (.cells C t fr)) (some ⟨n,0,.none⟩) l:=by
 subst hn;exact Reads.new w l t fr C hC
theorem Reads.none {w:World} {l:List UInt8} (h:Reads w .none l):l=[]:=by
 cases l with
 | nil=>rfl
 | cons b l=>obtain ⟨ad,h',_⟩:=h.out 0 (by simp);cases h'
def OwnB (e:TypeId) (w:World) (base:Nat) (v:Value) (l:List UInt8):Prop:=w.ownsRow base e 1 v l.length (u8s l)
theorem OwnB.form {e:TypeId} {w:World} {base:Nat} {v:Value} {l:List UInt8} (h:OwnB e w base v l):∃ A c,v=.slice A l.length c∧l.length≤c∧Reads w A l∧c≤9223372036854775807∧(A=none→c=0):=by
 have h':=h
 rcases h.2 with ⟨h0,hn⟩ | ⟨g,cap,cur,h0,_,hg,ah,ai,_,ac⟩
 · refine ⟨none,0, ?_,by omega, ?_,by omega,fun _=>rfl⟩
   · rw [h0,hn]
   · have:l=[]:=List.eq_nil_of_length_eq_zero hn
     subst this
     exact Reads.nil _ _
 · refine ⟨_,cap,h0,ah,RowAt.of_row hg _ _ ac,by simpa [maxLen] using ai,fun h=>by cases h⟩
theorem OwnB.nil (e:TypeId) (w:World) (base:Nat):OwnB e w base (.slice none 0 0) []:=World.ownsRow_nil w base e 1
theorem OwnB.below {e:TypeId} {w w':World} {base:Nat} {v:Value} {l:List UInt8} (h:OwnB e w base v l) (hb:Below w.heap.size w w'):OwnB e w' base v l:=
 World.ownsRow.kept (row:=none) h ⟨hb.os,hb.tape,hb.output,hb.size,fun i hi _=>hb.block i hi⟩ (by cases hv:v.ownBlock <;> simp)
theorem OwnB.weaken {e:TypeId} {w:World} {base base':Nat} {v:Value} {l:List UInt8} (h:OwnB e w base v l) (hb:base'≤base):OwnB e w base' v l:=by
 refine ⟨h.1, ?_⟩
 rcases h.2 with h' | ⟨g,cap,cur,a,b,r⟩
 · exact .inl h'
 · exact .inr ⟨g,cap,cur,a,by omega,r⟩
theorem OwnB.lit (e:TypeId) (w:World) (base:Nat) (l:List UInt8) (C:Array Value) (hC:C.toList=u8s l) (hb:base≤w.heap.size) (hm:l.length≤9223372036854775807) :
 OwnB e (w.alloc (.cells C e)) base (.slice (some ⟨w.heap.size,0,none⟩) l.length l.length) l:=by
 have h:=World.ownsRow_lit (base:=base) (e:=e) (size:=1) w C l.length hb (by simpa [maxLen] using hm) (by have:=congrArg List.length hC;simp [u8s] at this;omega)
 rwa [hC] at h
theorem own_base {w:World} {base:Nat} {e:TypeId} {size n:Nat} {v:Value} {xs:List Value} (h:w.ownsRow base e size v n xs) (k:Nat) (hk:v.ownBlock=some k):base≤k:=(h.lt k hk).1
/-! ### string(b) -/
def str (l:List UInt8):ByteArray:=⟨l.toArray⟩
theorem Reads.conv {P:Program} {w:World} {A:Option Addr} {l:List UInt8} (h:Reads w A l) (src dst e:TypeId) (hs:P.underlying src=some (.slice e)) (he:P.underlying e=some (.int .u8)) (hd:P.underlying dst=some .string) (c:Nat) :
 (convert src dst (.slice A l.length c)).run P w=.ok (.string (str l)) w:=by
 cases A with
 | none=>
   have:=h.none
   subst this
   rw [List.length_nil,run_convert_bytes_string w src dst e .none 0 c hs he hd]
   simp [Conv.bytesToString]
   rfl
 | some a=>
   exact run_convert_bytes_back w src dst e a c l hs he hd fun j hj=>by
    obtain ⟨ad,e1,hc⟩:=h.out j hj
    cases e1
    exact hc
/-! ### append(v,ys...): ys a row that is read,nil let in -/
theorem run_append_row {P:Program} (w:World) (base:Nat) (t ty e:TypeId) (z:Value) (size bytes:Nat) (ht:P.underlying t=some (.slice e))
 (a0:(P.info? e).map (fun i=>(i.zero,i.size,i.bytes))=some (some z,size,bytes)) (ae:z.cells.size=size) (aa:0<size)
 (v:Value) (n:Nat) (xs:List Value) (a3:w.ownsRow base e size v n xs)
 (A:Option Addr) (m c:Nat) (news:List Value) (hl:news.length=m*size) (hr:RowAt w A news) (h1:∀ u∈news,u.oneCell'=true)
 (a5:n+m≤maxLen) (a4:(n+m)*bytes≤140737488355328) (a1:base≤w.heap.size) :
 ∃ v' w',(Builtin.append_ #[t,t] ty #[v,.slice A m c]).run P w=.ok v' w'∧w'.ownsRow base e size v' (n+m) (xs++news)∧w.grownBy w' v.ownBlock∧(v'.ownBlock=v.ownBlock∨v'.ownBlock=some w.heap.size):=by
 obtain ⟨i0,hi,ab⟩:=Option.map_eq_some_iff.1 a0
 simp only [Prod.mk.injEq] at ab
 obtain ⟨ap,ao,am⟩:=ab
 rcases A with _ | ad
 · have hn:news=[]:=by
    cases news with
    | nil=>rfl
    | cons u us=>obtain ⟨_,h,_⟩:=hr 0 u rfl;cases h
   subst hn
   have h0:m=0:=by
    rcases Nat.eq_zero_or_pos m with h | h
    · exact h
    · have:=Nat.mul_pos h aa
      simp at hl
      omega
   subst h0
   refine ⟨v,w, ?_,by simpa using a3,⟨rfl,rfl,rfl,Nat.le_refl _,fun _ _ _=>rfl⟩,.inl rfl⟩
   rcases a3.2 with ⟨rfl,hn⟩ | ⟨g,cap,cur,rfl,_,_,ah,_⟩
   · simp [Builtin.append_,run_underlying ht,sizeOf,typeInfo,hi,Builtin.lenOf,Builtin.firstCells]
   · simp [Builtin.append_,run_underlying ht,sizeOf,typeInfo,hi,Builtin.lenOf,Builtin.firstCells,ah,storeCells]
 · have a9:∀ j u,news[j]? = some u→w.cell? (ad.add j)=some u:=by
    intro j u hu
    obtain ⟨ad',h',hc⟩:=hr j u hu
    cases h'
    exact hc
   obtain ⟨v1,w1,h2,h3,h4,_,h5⟩:=run_append_own_at (P:=P) w base t ty e i0 z size bytes ht hi ap ao am ae aa v n xs a3 ad m c news hl a9 h1 a5 a4 a1
   exact ⟨v1,w1,h2,h3,h4,h5⟩
section
variable {P:Program} {ops:Array Oper} {rest:List Oper} {o:Oper} {a:Act} {Q:Exit→Act→World→Prop}
end
section
variable {P:Program} {ops:Array Oper} {rest:List Oper} {o:Oper} {a:Act} {Q:Exit→Act→World→Prop}
theorem wpList_append_row {w0 w:World} (base:Nat) (af:o.guard=none) (s x:Operand) (t e:TypeId) (z:Value) (size bytes:Nat)
 (ho:o.op=.call { callee:=.builtin .append,args:=#[s,x],argTypes:=#[t,t] })
 (ht:P.underlying t=some (.slice e)) (a0:(P.info? e).map (fun i=>(i.zero,i.size,i.bytes))=some (some z,size,bytes)) (ae:z.cells.size=size) (aa:0<size)
 (v:Value) (n:Nat) (xs:List Value) (hs:a.eval s=v) (a3:w.ownsRow base e size v n xs)
 (A:Option Addr) (m c:Nat) (news:List Value) (hx:a.eval x=.slice A m c) (hl:news.length=m*size) (hr:RowAt w A news) (h1:∀ u∈news,u.oneCell'=true)
 (a5:n+m≤maxLen) (a4:(n+m)*bytes≤140737488355328) (a1:base≤w.heap.size) (hb:Below base w0 w)
 (h:∀ v' w',w'.ownsRow base e size v' (n+m) (xs++news)→Below base w0 w'→w.grownBy w' v.ownBlock→(v'.ownBlock=v.ownBlock∨v'.ownBlock=some w.heap.size)→wpList P ops Q rest (a.put o.dst v') w') :
 wpList P ops Q (o :: rest) a w:=by
 refine wpList_plain af fun K hK=>?_
 obtain ⟨v',w',a6,h2,h3,h4⟩:=run_append_row (P:=P) w base t o.type e z size bytes ht a0 ae aa v n xs a3 A m c news hl hr h1 a5 a4 a1
 unfold Oper.wp execOp
 simp only [ho,resolve,invoke,builtin,Sem.run_bind,Sem.run_pure,Result.andThen_ok,List.map_toArray,List.map_cons,List.map_nil,hs,hx,a6]
 exact hK _ _ (h v' w' h2 (hb.grown h3 a1 (own_base a3)) h3 h4)
theorem wpList_append_bytes {w0 w:World} (base:Nat) (af:o.guard=none) (s x:Operand) (t e:TypeId)
 (ho:o.op=.call { callee:=.builtin .append,args:=#[s,x],argTypes:=#[t,t] })
 (ht:P.underlying t=some (.slice e)) (a0:(P.info? e).map (fun i=>(i.zero,i.size,i.bytes))=some (some (.int .u8 0),1,1))
 (v:Value) (l m:List UInt8) (hs:a.eval s=v) (a3:OwnB e w base v l)
 (A:Option Addr) (c:Nat) (hx:a.eval x=.slice A m.length c) (hr:Reads w A m)
 (a5:l.length+m.length≤140737488355328) (a1:base≤w.heap.size) (hb:Below base w0 w)
 (h:∀ v' w',OwnB e w' base v' (l++m)→Below base w0 w'→w.grownBy w' v.ownBlock→(v'.ownBlock=v.ownBlock∨v'.ownBlock=some w.heap.size)→wpList P ops Q rest (a.put o.dst v') w') :
 wpList P ops Q (o :: rest) a w:=by
 refine wpList_append_row base af s x t e (.int .u8 0) 1 1 ho ht a0 rfl (by omega) v l.length (u8s l) hs a3 A m.length c (u8s m) hx (by rw [u8s_length];omega) hr (u8s_one m) (by simp only [maxLen];omega) (by omega) a1 hb ?_
 intro v' w' h2 h3 h4 h5
 exact h v' w' (by unfold OwnB;rw [u8s_append,List.length_append];exact h2) h3 h4 h5
end
/-! ### the reading of an argument that is a slice of bytes -/
theorem bytes_of_ints (zs:List Int) (h:∀ n∈zs,(Lit.int .u8 n).wf=true):∃ l:List UInt8,l.length=zs.length∧∀ i (hi:i<l.length),(((l[i]'hi).toNat:Nat):Int)=zs.getD i 0:=by
 refine ⟨zs.map fun z=>UInt8.ofNat z.toNat,by simp, ?_⟩
 intro i hi
 have aq:i<zs.length:=by simpa using hi
 have hz:=h (zs[i]'aq) (List.getElem_mem aq)
 have hb:0≤zs[i]'aq∧zs[i]'aq≤255:=by simpa [Lit.wf,IntKind.min,IntKind.max,IntKind.signed,IntKind.bits] using hz
 simp only [List.getElem_map,UInt8.toNat_ofNat',List.getD_eq_getElem?_getD,List.getElem?_eq_getElem aq,Option.getD_some]
 omega
end Go.Proofs.YtihodcnnappkbaaGreatDoor
namespace Go.Proofs.YtihodcnnappkbaaGreatDoor.Crc
def full:Nat:=4294967295
def bit (r:Nat):Nat:=if r % 2=1 then r / 2 ^^^ 3988292384 else r / 2
def bits (n:Nat) (r:Nat):Nat:=match n with | 0=>r | n+1=>bits n (bit r)
def slowB (r c:Nat):Nat:=bits 8 (r ^^^ c)
def slow (r:Nat) (l:List Nat):Nat:=l.foldl slowB r
def tab:List Nat:=[0,498536548,997073096,651767980,1994146192,1802195444,1303535960,1342533948,3988292384,4027552580,3604390888,3412177804,2607071920,2262029012,2685067896,3183342108]
def half (r:Nat):Nat:=r / 16 ^^^ tab.getD (r % 16) 0
def fastB (r c:Nat):Nat:=half (half (r ^^^ c))
def fast (r:Nat) (l:List Nat):Nat:=l.foldl fastB r
theorem xor_div2 (a b:Nat):(a ^^^ b) / 2=a / 2 ^^^ b / 2:=by
 apply Nat.eq_of_testBit_eq;intro i
 simp [← Nat.testBit_succ,Nat.testBit_xor]
theorem xor_mod2 (a b:Nat):(a ^^^ b) % 2=(a % 2+b % 2) % 2:=by
 have h:=Nat.testBit_xor a b 0
 simp only [Nat.testBit_zero] at h
 rcases Nat.mod_two_eq_zero_or_one a with ha | ha <;> rcases Nat.mod_two_eq_zero_or_one b with hb | hb <;> rcases Nat.mod_two_eq_zero_or_one (a ^^^ b) with hc | hc <;> simp_all
theorem xor_cancel (a b c:Nat):a ^^^ c ^^^ (b ^^^ c)=a ^^^ b:=by
 apply Nat.eq_of_testBit_eq;intro i
 simp only [Nat.testBit_xor]
 cases a.testBit i <;> cases b.testBit i <;> cases c.testBit i <;> rfl
theorem bit_xor (a b:Nat):bit (a ^^^ b)=bit a ^^^ bit b:=by
 unfold bit
 rw [xor_div2,xor_mod2]
 rcases Nat.mod_two_eq_zero_or_one a with ha | ha <;> rcases Nat.mod_two_eq_zero_or_one b with hb | hb <;> simp only [ha,hb]
 · simp
 · simp [Nat.xor_assoc]
 · simp only [if_true,Nat.zero_ne_one,if_false]
   rw [Nat.xor_assoc,Nat.xor_comm (b / 2),← Nat.xor_assoc]
 · simp only [Nat.reduceAdd,Nat.mod_self,Nat.zero_ne_one,if_false,if_true]
   rw [xor_cancel]
theorem bits_xor (n a b:Nat):bits n (a ^^^ b)=bits n a ^^^ bits n b:=by
 induction n generalizing a b with
 | zero=>rfl
 | succ n ih=>simp only [bits];rw [bit_xor,ih]
theorem bits_add (m n r:Nat):bits (m+n) r=bits n (bits m r):=by
 induction m generalizing r with
 | zero=>simp [bits]
 | succ m ih=>rw [Nat.succ_add];simp only [bits];exact ih (bit r)
theorem bit_double (x:Nat):bit (2*x)=x:=by
 unfold bit
 rw [if_neg (by omega)];omega
theorem bits_shift (n x:Nat):bits n (2 ^ n*x)=x:=by
 induction n generalizing x with
 | zero=>simp [bits]
 | succ n ih=>
   simp only [bits]
   rw [show 2 ^ (n+1)*x=2*(2 ^ n*x) by rw [Nat.pow_succ];ac_rfl,bit_double,ih]
theorem xor_or_shift (n x c:Nat) (hc:c<2 ^ n):2 ^ n*x ^^^ c=2 ^ n*x+c:=by
 apply Nat.eq_of_testBit_eq;intro i
 rw [Nat.testBit_xor,Nat.testBit_two_pow_mul_add _ hc]
 by_cases hi:i<n
 · rw [Nat.testBit_two_pow_mul];simp [hi,show ¬n≤i by omega]
 · have:c.testBit i=false:=by
    apply Nat.testBit_lt_two_pow
    exact Nat.lt_of_lt_of_le hc (Nat.pow_le_pow_right (by omega) (by omega))
   rw [this,Nat.testBit_two_pow_mul];simp [hi,show n≤i by omega]
theorem split16 (r:Nat):r=2 ^ 4*(r / 16) ^^^ r % 16:=by
 rw [xor_or_shift 4 _ _ (by omega)];omega
theorem tab_bits:∀ k,k<16→bits 4 k=tab.getD k 0:=by decide
theorem half_bits (r:Nat):half r=bits 4 r:=by
 have h:bits 4 r=bits 4 (2 ^ 4*(r / 16) ^^^ r % 16):=by rw [← split16]
 rw [h,bits_xor,bits_shift,tab_bits _ (Nat.mod_lt _ (by omega))]
 rfl
theorem fastB_slowB (r c:Nat):fastB r c=slowB r c:=by
 unfold fastB slowB
 rw [half_bits,half_bits,← bits_add]
theorem fast_slow (r:Nat) (l:List Nat):fast r l=slow r l:=by
 unfold fast slow
 rw [show fastB=slowB from funext fun r=>funext fun c=>fastB_slowB r c]
/- bounds -/
theorem bit_lt {r:Nat} (h:r<4294967296):bit r<4294967296:=by
 unfold bit
 have h2:r / 2<2 ^ 32:=by omega
 split
 · exact Nat.xor_lt_two_pow (n:=32) h2 (by omega)
 · omega
theorem bits_lt (n:Nat) {r:Nat} (h:r<4294967296):bits n r<4294967296:=by
 induction n generalizing r with
 | zero=>exact h
 | succ n ih=>exact ih (bit_lt h)
theorem xor_lt {a b:Nat} (ha:a<4294967296) (hb:b<4294967296):a ^^^ b<4294967296:=Nat.xor_lt_two_pow (n:=32) ha hb
theorem half_lt {r:Nat} (h:r<4294967296):half r<4294967296:=by rw [half_bits];exact bits_lt 4 h
theorem tab_lt:∀ k,k<16→tab.getD k 0<4294967296:=by decide
theorem slowB_lt {r c:Nat} (h:r<4294967296) (hc:c<4294967296):slowB r c<4294967296:=bits_lt 8 (xor_lt h hc)
theorem slow_lt {r:Nat} (l:List Nat) (h:r<4294967296) (hl:∀ c∈l,c<256):slow r l<4294967296:=by
 induction l generalizing r with
 | nil=>exact h
 | cons c l ih=>exact ih (slowB_lt h (by have:=hl c (by simp);omega)) (fun d hd=>hl d (by simp [hd]))
theorem fast_lt {r:Nat} (l:List Nat) (h:r<4294967296) (hl:∀ c∈l,c<256):fast r l<4294967296:=by rw [fast_slow];exact slow_lt l h hl
def upd (s:Nat) (l:List Nat):Nat:=4294967295 ^^^ fast (4294967295 ^^^ s) l
def sum (l:List Nat):Nat:=upd 0 l
theorem upd_lt {s:Nat} (l:List Nat) (h:s<4294967296) (hl:∀ c∈l,c<256):upd s l<4294967296:=
 xor_lt (by omega) (fast_lt l (xor_lt (by omega) h) hl)
def num:List Nat→Nat
 | []=>0
 | c :: l=>c+256*num l
end Go.Proofs.YtihodcnnappkbaaGreatDoor.Crc
namespace Go.Proofs.YtihodcnnappkbaaGreatDoor
section
open Go.RowKit
def nats (l:List UInt8):List Nat:=l.map (·.toNat)
def Table (w:World):Prop:=∀ i,i<16→w.cell? ⟨1,i,none⟩=some (.int .u32 ((Crc.tab.getD i 0:Nat):Int))
theorem xor_u32 (a b:Nat) (ha:a<4294967296) (hb:b<4294967296):bits BinOp.xor IntKind.u32 (a:Int) (b:Int)=((a ^^^ b:Nat):Int):=u32_xor_nat a b ha hb
theorem and15_u32 (a:Nat) (ha:a<4294967296):bits BinOp.and IntKind.u32 (a:Int) 15=((a % 16:Nat):Int):=by
 have:=u32_and_nat a 15 ha (by omega)
 rw [show a % 16=a &&& 15 from (Nat.and_two_pow_sub_one_eq_mod a 4).symm]
 exact this
theorem not_u32 (a:Nat) (ha:a<4294967296):bits BinOp.xor IntKind.u32 IntKind.u32.max (a:Int)=((4294967295 ^^^ a:Nat):Int):=u32_xor_nat 4294967295 a (by omega) ha
theorem mod_u32 (a:Nat) (ha:a<4294967296):((a:Int) % 4294967296)=(a:Int):=by omega
theorem div16 (a:Nat):((a:Int) / 16)=((a / 16:Nat):Int):=by omega
theorem half_parts (X:Nat) (hX:X<4294967296):∃ m d T Y:Nat,m<16∧bits BinOp.and IntKind.u32 (X:Int) 15=(m:Int)∧(X:Int) / 16=(d:Int)∧Crc.tab.getD m 0=T ∧
 bits BinOp.xor IntKind.u32 (d:Int) (T:Int)=(Y:Int)∧Y<4294967296∧Y=Crc.half X:=by
 refine ⟨X % 16,X / 16,_,_,Nat.mod_lt _ (by omega),and15_u32 X hX,div16 X,rfl,xor_u32 _ _ (by omega) (Crc.tab_lt _ (Nat.mod_lt _ (by omega))), ?_,rfl⟩
 exact Crc.half_lt hX
theorem nats_length (l:List UInt8):(nats l).length=l.length:=by simp [nats]
theorem nats_lt (l:List UInt8):∀ c∈nats l,c<256:=by
 intro c hc
 obtain ⟨b,_,rfl⟩:=List.mem_map.1 hc
 exact b.toNat_lt
theorem nats_take_lt (l:List UInt8) (k:Nat):∀ c∈(nats l).take k,c<256:=fun c hc=>nats_lt l c (List.mem_of_mem_take hc)
theorem nats_snoc (l:List UInt8) (k:Nat) (h:k<l.length):(nats l).take (k+1)=(nats l).take k++[(l[k]'h).toNat]:=by
 rw [List.take_succ_eq_append_getElem (by simpa [nats] using h)]
 simp [nats]
theorem update_calls (s:Nat) (hs:s<4294967296) (A:Option Addr) (c:Nat) (l:List UInt8) (w:World) (hl:l.length≤9223372036854775807) (hr:Reads w A l) (ht:Table w) :
 Calls Tryz.prog 107 #[.int .u32 (s:Int),.slice A l.length c] w fun e w'=>e=.returned (.int .u32 ((Crc.upd s (nats l):Nat):Int))∧w=w':=by
 have aj:=not_u32 s hs
 have ay:4294967295 ^^^ s<4294967296:=Crc.xor_lt (by omega) hs
 have hu:Crc.upd s (nats l)=4294967295 ^^^ Crc.fast (4294967295 ^^^ s) (nats l):=rfl
 generalize 4294967295 ^^^ s=s1 at aj ay hu
 have HU:=Hi hu
 have HR:=Hi hr
 have HT:=Hi ht
 clear hr ht hu
 go_enter Tryz.func107,Tryz.ntmps107
 go_wp2
 go_loop [5,12] (fun r i=>∃ k:Nat,k≤l.length∧i=.int .i64 k∧r=.int .u32 ((Crc.fast s1 ((nats l).take k):Nat):Int)) (fun _ i=>l.length-(intOf i).toNat)
 case atStart=>exact ⟨0,Nat.zero_le _,rfl,rfl⟩
 case round=>
  obtain ⟨k,hk,rfl,rfl⟩:=hrel
  clear aj
  by_cases ag:k<l.length
  · obtain ⟨ad,rfl,hc⟩:=HR.out.out k ag
    have hn:Crc.fast s1 ((nats l).take (k+1))=Crc.fastB (Crc.fast s1 ((nats l).take k)) (l[k]'ag).toNat:=by
     rw [nats_snoc l k ag];simp [Crc.fast,List.foldl_append]
    have hb:Crc.fast s1 ((nats l).take k)<4294967296:=Crc.fast_lt _ ay (nats_take_lt l k)
    have av:(l[k]'ag).toNat<4294967296:=by have:=(l[k]'ag).toNat_lt;omega
    generalize Crc.fast s1 ((nats l).take k)=R at hn hb ⊢
    generalize (l[k]'ag).toNat=cb at hn hc av
    have e0:=mod_u32 cb av
    have e1:=xor_u32 R cb hb av
    have hX:R ^^^ cb<4294967296:=Crc.xor_lt hb av
    have ar:Crc.fast s1 ((nats l).take (k+1))=Crc.half (Crc.half (R ^^^ cb)):=hn
    clear hn
    generalize R ^^^ cb=X at e1 hX ar
    obtain ⟨m1,d1,T1,Y,aI,e2,e3,aH,e4,hY,aB⟩:=half_parts X hX
    obtain ⟨m2,d2,T2,Z,aU,f2,f3,aG,f4,hZ,aC⟩:=half_parts Y hY
    have c1:=HT.out m1 aI
    have c2:=HT.out m2 aU
    rw [aH] at c1
    rw [aG] at c2
    rw [← aB,← aC] at ar
    have HN:=Hi ar
    clear aH aG aB aC ar
    go_wp2
    go_round
    case rel=>exact ⟨k+1,by omega,by go_num,by rw [HN.out]⟩
    case measure=>simp [intOf];omega
  · go_wp2
    go_ret
    refine ⟨?_,rfl⟩
    have:k=l.length:=by omega
    subst this
    rw [List.take_of_length_le (by rw [nats_length];omega),not_u32 _ (Crc.fast_lt _ ay (nats_lt l)),HU.out]
    exact ret_int rfl
theorem Table.below {w w':World} (h:Table w) (h0:1<w.heap.size) (hb:Below w.heap.size w w'):Table w':=fun i hi=>by rw [hb.cell (p:=⟨1,i,none⟩) h0];exact h i hi
theorem Table.lt {w:World} (h:Table w):1<w.heap.size:=World.block_lt_of_cell? w ⟨1,0,none⟩ (h 0 (by omega))
theorem Table.drewN {w:World} (h:Table w) (n:Nat):Table (w.drewN n):=h
theorem Table.step {w w':World} (h:Table w) (hb:Below w.heap.size w w'):Table w':=h.below h.lt hb
theorem sum_calls (A:Option Addr) (c:Nat) (l:List UInt8) (w:World) (hl:l.length≤9223372036854775807) (hr:Reads w A l) (ht:Table w) :
 Calls Tryz.prog 72 #[.slice A l.length c] w fun e w'=>e=.returned (.int .u32 ((Crc.sum (nats l):Nat):Int))∧w=w':=by
 have HR:=Hi hr
 have HT:=Hi ht
 clear hr ht
 go_enter Tryz.func72,Tryz.ntmps72
 go_wp2_with (go_at_call 107;refine (update_calls 0 (by omega) A c l _ hl HR.out HT.out).mono ?_;rintro e w' ⟨rfl,rfl⟩)
 go_ret
 exact ⟨rfl,rfl⟩
structure Touch (F:Nat→Prop) (w w':World):Prop where
 os:w'.os=w.os
 tape:w'.tape=w.tape
 output:w'.output=w.output
 size:w.heap.size≤w'.heap.size
 block:∀ k,k<w.heap.size→¬F k→w'.heap[k]? = w.heap[k]?
theorem Touch.refl (F:Nat→Prop) (w:World):Touch F w w:=⟨rfl,rfl,rfl,Nat.le_refl _,fun _ _ _=>rfl⟩
theorem Touch.trans {F G:Nat→Prop} {a b c:World} (h:Touch F a b) (k:Touch G b c) (hG:∀ i,i<a.heap.size→G i→F i):Touch F a c:=
 ⟨k.os.trans h.os,k.tape.trans h.tape,k.output.trans h.output,Nat.le_trans h.size k.size,fun i hi hF=>(k.block i (Nat.lt_of_lt_of_le hi h.size) (fun hg=>hF (hG i hi hg))).trans (h.block i hi hF)⟩
theorem Touch.mono {F G:Nat→Prop} {a b:World} (h:Touch F a b) (hF:∀ i,i<a.heap.size→F i→G i):Touch G a b:=
 ⟨h.os,h.tape,h.output,h.size,fun i hi hG=>h.block i hi (fun hf=>hG (hF i hi hf))⟩
theorem Touch.then {F:Nat→Prop} {a b c:World} (h:Touch F a b) (k:Touch F b c):Touch F a c:=h.trans k fun _ _ h=>h
theorem Touch.alloc {F:Nat→Prop} {a b:World} (h:Touch F a b) (o:Obj):Touch F a (b.alloc o):=
 h.then ⟨rfl,rfl,rfl,by simp,fun k hk _=>Below.heap_alloc _ _ _ hk⟩
theorem Touch.setCell {F:Nat→Prop} {a b:World} (h:Touch F a b) (p:Addr) (u:Value) (hp:p.block<a.heap.size→F p.block):Touch F a (b.setCell p u):=
 ⟨h.os,h.tape,h.output,by simpa [World.setCell] using h.size,fun k hk hF=>by
  rw [Below.heap_setCell _ _ _ _ (fun e:k=p.block=>hF (by rw [e];exact hp (by rw [← e];exact hk)))];exact h.block k hk hF⟩
theorem Touch.drewN {F:Nat→Prop} {a b:World} (h:Touch F a b) (n:Nat):Touch F a (b.drewN n):=h.then ⟨rfl,rfl,rfl,Nat.le_refl _,fun _ _ _=>rfl⟩
theorem Touch.drew {F:Nat→Prop} {a b:World} (h:Touch F a b):Touch F a b.drew:=h.drewN 1
theorem Touch.quiet {F:Nat→Prop} {a b c:World} (h:Touch F a b) (k:Quiet b c):Touch F a c:=by
 obtain ⟨n,rfl⟩:=k
 exact h.drewN n
theorem Touch.of_below {F:Nat→Prop} {B:Nat} {w w':World} (h:Below B w w') (hF:∀ k,k<w.heap.size→B≤k→F k):Touch F w w':=
 ⟨h.os,h.tape,h.output,h.size,fun k hk hf=>h.block k (Nat.lt_of_not_le fun hb=>hf (hF k hk hb))⟩
theorem Touch.below {F:Nat→Prop} {a b c:World} (h:Touch F a b) (k:Below b.heap.size b c):Touch F a c:=h.then (Touch.of_below k fun i hi hb=>absurd hi (by omega))
theorem Touch.of_grown {F:Nat→Prop} {row:Option Nat} {w w':World} (h:w.grownBy w' row) (hF:∀ k,row=some k→F k):Touch F w w':=
 ⟨h.os,h.tape,h.output,h.size,fun k hk hf=>h.block k hk (fun e=>hf (hF k e.symm))⟩
theorem Touch.grown {F:Nat→Prop} {a b c:World} {row:Option Nat} (h:Touch F a b) (k:b.grownBy c row) (hF:∀ i,row=some i→i<a.heap.size→F i):Touch F a c:=
 h.trans (G:=fun i=>row=some i) (Touch.of_grown k fun _ e=>e) fun i hi e=>hF i e hi
theorem Touch.to_below {F:Nat→Prop} {w w':World} (h:Touch F w w') (B:Nat) (hB:∀ k,F k→k<w.heap.size→B≤k) (aV:B≤w.heap.size):Below B w w':=
 ⟨h.os,h.tape,h.output,h.size,fun k hk=>h.block k (by omega) (fun hf=>by have:=hB k hf (by omega);omega)⟩
theorem Touch.nothing {F:Nat→Prop} {w w':World} (h:Touch F w w') (hF:∀ k,k<w.heap.size→¬F k):Below w.heap.size w w':=h.to_below _ (fun k hf hk=>absurd hf (hF k hk)) (Nat.le_refl _)
def At (g:Nat):Nat→Prop:=fun k=>k=g
theorem At.self (g:Nat):At g g:=rfl
theorem Touch.set {g:Nat} {a b:World} (h:Touch (At g) a b) (i:Nat) (u:Value):Touch (At g) a (b.setCell ⟨g,i,none⟩ u):=h.setCell _ _ fun _=>At.self g
theorem Touch.cell {F:Nat→Prop} {w w':World} (h:Touch F w w') {p:Addr} {v:Value} (hc:w.cell? p=some v) (hp:¬F p.block):w'.cell? p=some v:=by
 rw [World.cell?_of_block (w:=w) (h.block p.block (World.block_lt_of_cell? w p hc) hp)];exact hc
theorem Touch.obj {F:Nat→Prop} {w w':World} (h:Touch F w w') {g:Nat} {o:Obj} (hg:w.heap[g]? = some o) (hF:¬F g):w'.heap[g]? = some o:=by
 rw [h.block g (Array.getElem?_eq_some_iff.1 hg).1 hF];exact hg
theorem Touch.own {F:Nat→Prop} {e:TypeId} {w w':World} {base size n:Nat} {v:Value} {xs:List Value} (h:Touch F w w') (ho:w.ownsRow base e size v n xs) (hF:∀ k,v.ownBlock=some k→¬F k):w'.ownsRow base e size v n xs:=by
 refine ⟨ho.1, ?_⟩
 rcases ho.2 with hn | ⟨g,cap,cur,rfl,hb,aN,rest⟩
 · exact .inl hn
 · exact .inr ⟨g,cap,cur,rfl,hb,h.obj aN (hF g rfl),rest⟩
theorem Touch.ownB {F:Nat→Prop} {e:TypeId} {w w':World} {base:Nat} {v:Value} {l:List UInt8} (h:Touch F w w') (ho:OwnB e w base v l) (hF:∀ k,v.ownBlock=some k→¬F k):OwnB e w' base v l:=Touch.own h ho hF
theorem Touch.row {F:Nat→Prop} {w w':World} {A:Option Addr} {cs:List Value} (h:Touch F w w') (hr:RowAt w A cs) (hF:∀ a,A=some a→cs≠[]→¬F a.block):RowAt w' A cs:=by
 intro i v hv
 obtain ⟨ad,e,hc⟩:=hr i v hv
 exact ⟨ad,e,h.cell hc (by rw [addr_add_block];exact hF ad e (fun h0=>by subst h0;simp at hv))⟩
theorem Touch.reads {F:Nat→Prop} {w w':World} {A:Option Addr} {l:List UInt8} (h:Touch F w w') (hr:Reads w A l) (hF:∀ a,A=some a→l≠[]→¬F a.block):Reads w' A l:=
 Touch.row h hr fun a e hn=>hF a e (fun h0=>hn (by rw [h0];rfl))
theorem own_lt {e:TypeId} {w:World} {base size n:Nat} {v:Value} {xs:List Value} (h:w.ownsRow base e size v n xs) (k:Nat) (hk:v.ownBlock=some k):k<w.heap.size:=(h.lt k hk).2
theorem own_far {e:TypeId} {w:World} {base size n:Nat} {v:Value} {xs:List Value} (h:w.ownsRow base e size v n xs) {p:Addr} (hp:v.ownBlock≠some p.block) (u:Value):(w.setCell p u).ownsRow base e size v n xs:=
 ((Touch.refl (At p.block) w).setCell p u fun _=>At.self _).own h fun k hk hF=>hp (by rw [hk];exact congrArg some hF)
theorem own_raise {e:TypeId} {w:World} {b size n:Nat} {v:Value} {xs:List Value} (h:w.ownsRow b e size v n xs) (B:Nat) (hB:∀ k,v.ownBlock=some k→B≤k):w.ownsRow B e size v n xs:=by
 refine ⟨h.1, ?_⟩
 rcases h.2 with hn | ⟨g,cap,cur,rfl,hb,r⟩
 · exact .inl hn
 · exact .inr ⟨g,cap,cur,rfl,hB g rfl,r⟩
theorem own_obj_ne {w:World} {b g:Nat} {e t:TypeId} {s n:Nat} {v:Value} {xs:List Value} {C:Array Value} {fr:Nat×Nat} (h:w.ownsRow b e s v n xs) (hg:w.heap[g]? = some (.cells C t fr)) (ak:e≠t):v.ownBlock≠some g:=by
 intro hk
 rcases h.2 with ⟨rfl,_⟩ | ⟨g',c,cur,rfl,_,aA,_⟩
 · simp [Value.ownBlock] at hk
 · simp only [Value.ownBlock,Option.some.injEq] at hk
   subst hk
   rw [hg] at aA
   injection aA with h1
   injection h1 with h2 h3 h4
   exact ak h3.symm
theorem run_callFunc_body {P:Program} {f:FuncId} {fn:Func} (hf:P.funcs[f]? = some fn) (hn:(fn.name == "runtime.NumGoroutine")=false) (hb:fn.body.isNone=false) (args:Array Value) (w:World):(callFunc f args).run P w=.ok (.enter f args) w:=by
 have aR:¬fn.name = "runtime.NumGoroutine":=by simpa using hn
 have aQ:¬fn.body=Option.none:=by intro e;rw [e] at hb;cases hb
 simp [callFunc,hf,aR,aQ]
/-! ### a block that is known whole -/
theorem obj_set {w:World} {g:Nat} {C:Array Value} {t:TypeId} (h:w.heap[g]? = some (.cells C t (0,0))) (i:Nat) (u:Value):(w.setCell ⟨g,i,none⟩ u).heap[g]? = some (.cells (C.setIfInBounds i u) t (0,0)):=heap_setCell_same w g i C t u h
theorem obj_new (w:World) (o:Obj):(w.alloc o).heap[w.heap.size]? = some o:=heap_alloc_new w o
theorem obj_new_at (w:World) (o:Obj) (n:Nat) (hn:n=w.heap.size):(w.alloc o).heap[n]? = some o:=by subst hn;exact obj_new w o
theorem obj_old {w:World} {g:Nat} {o:Obj} (h:w.heap[g]? = some o) (o':Obj):(w.alloc o').heap[g]? = some o:=(Below.heap_alloc w o' g (Array.getElem?_eq_some_iff.1 h).1).trans h
theorem obj_lt {w:World} {g:Nat} {o:Obj} (h:w.heap[g]? = some o):g<w.heap.size:=(Array.getElem?_eq_some_iff.1 h).1
theorem obj_cell {w:World} {g:Nat} {C:Array Value} {t:TypeId} {fr:Nat×Nat} (h:w.heap[g]? = some (.cells C t fr)) (i:Nat):w.cell? ⟨g,i,none⟩=C[i]?:=cell_of_row w g i C t fr h
theorem obj_frozen {w:World} {g:Nat} {C:Array Value} {t:TypeId} (h:w.heap[g]? = some (.cells C t (0,0))) (i:Nat):w.frozen? ⟨g,i,none⟩=false:=frozen_of_row w g i C t h
theorem cells2 {w:World} {g:Nat} {a b:Value} {t:TypeId} (h:w.heap[g]? = some (.cells #[a,b] t (0,0))):w.cell? ⟨g,0,none⟩=some a∧w.cell? ⟨g,1,none⟩=some b∧w.frozen? ⟨g,0,none⟩=false∧w.frozen? ⟨g,1,none⟩=false:=
 ⟨by rw [obj_cell h];rfl,by rw [obj_cell h];rfl,obj_frozen h 0,obj_frozen h 1⟩
theorem obj_far {w:World} {g:Nat} {o:Obj} (h:w.heap[g]? = some o) {p:Addr} (hp:g≠p.block) (u:Value):(w.setCell p u).heap[g]? = some o:=(Below.heap_setCell w p u g hp).trans h
def blk:Value→Option Nat
 | .slice (some a) _ c=>if c=0 then none else some a.block
 | _=>none
theorem blk_empty (A:Option Addr) (n:Nat):blk (.slice A n 0)=none:=by
 cases A <;> simp [blk]
theorem blk_at (g o n c:Nat) (h:0<c):blk (.slice (some ⟨g,o,none⟩) n c)=some g:=by
 simp [blk];omega
theorem blk_some {v:Value} {k:Nat} (h:blk v=some k):v.ownBlock=some k:=by
 unfold blk at h
 split at h
 · rename_i a n c
   by_cases hc:c=0
   · simp [hc] at h
   · simpa [hc,Value.ownBlock] using h
 · cases h
def Loose (w:World) (base:Nat) (e:TypeId) (size:Nat) (v:Value) (n:Nat) (xs:List Value):Prop:=
 (∃ A,v=.slice A 0 0∧n=0∧xs=[])∨∃ g cap,v=.slice (some ⟨g,0,none⟩) n cap∧0<cap∧w.ownsRow base e size v n xs
theorem Loose.of {w:World} {base size n:Nat} {e:TypeId} {v:Value} {xs:List Value} (h:w.ownsRow base e size v n xs):Loose w base e size v n xs:=by
 have h0:=h
 rcases h.2 with ⟨rfl,hn⟩ | ⟨g,cap,cur,rfl,_,_,ah,_⟩
 · subst hn
   exact .inl ⟨none,rfl,rfl,List.eq_nil_of_length_eq_zero (by simpa using h.1)⟩
 · by_cases hc:cap=0
   · subst hc
     have:n=0:=by omega
     subst this
     exact .inl ⟨_,rfl,rfl,List.eq_nil_of_length_eq_zero (by simpa using h.1)⟩
   · exact .inr ⟨g,cap,rfl,by omega,h0⟩
theorem Loose.empty (w:World) (base size:Nat) (e:TypeId) (A:Option Addr):Loose w base e size (.slice A 0 0) 0 []:=.inl ⟨A,rfl,rfl,rfl⟩
theorem Loose.length {w:World} {base size n:Nat} {e:TypeId} {v:Value} {xs:List Value} (h:Loose w base e size v n xs):xs.length=n*size:=by
 rcases h with ⟨A,_,rfl,rfl⟩ | ⟨_,_,_,_,h⟩
 · simp
 · exact h.1
theorem Loose.lt {w:World} {base size n:Nat} {e:TypeId} {v:Value} {xs:List Value} (h:Loose w base e size v n xs) (k:Nat) (hk:blk v=some k):base≤k∧k<w.heap.size:=by
 rcases h with ⟨A,rfl,_,_⟩ | ⟨_,_,_,_,h⟩
 · rw [blk_empty] at hk;cases hk
 · exact h.lt k (blk_some hk)
theorem Loose.keep {F:Nat→Prop} {e:TypeId} {w w':World} {base size n:Nat} {v:Value} {xs:List Value} (h:Loose w base e size v n xs) (ht:Touch F w w') (hF:∀ k,blk v=some k→¬F k):Loose w' base e size v n xs:=by
 rcases h with h | ⟨g,cap,rfl,hc,h⟩
 · exact .inl h
 · refine .inr ⟨g,cap,rfl,hc,ht.own h fun k hk=>hF k ?_⟩
   simp only [Value.ownBlock,Option.some.injEq] at hk
   rw [← hk]
   exact blk_at g 0 n cap hc
theorem Loose.below {e:TypeId} {w w':World} {base size n:Nat} {v:Value} {xs:List Value} (h:Loose w base e size v n xs) (hb:Below w.heap.size w w'):Loose w' base e size v n xs:=by
 rcases h with h | ⟨g,cap,hv,hc,h⟩
 · exact .inl h
 · exact .inr ⟨g,cap,hv,hc,World.ownsRow.kept (row:=none) h ⟨hb.os,hb.tape,hb.output,hb.size,fun i hi _=>hb.block i hi⟩ (by cases hv:v.ownBlock <;> simp)⟩
theorem Loose.far {w:World} {base size n:Nat} {e:TypeId} {v:Value} {xs:List Value} (h:Loose w base e size v n xs) {p:Addr} (hp:blk v≠some p.block) (u:Value):Loose (w.setCell p u) base e size v n xs:=
 h.keep ((Touch.refl (At p.block) w).setCell p u fun _=>At.self _) fun k hk hF=>hp (by rw [hk];exact congrArg some hF)
theorem Loose.raise {w:World} {b size n:Nat} {e:TypeId} {v:Value} {xs:List Value} (h:Loose w b e size v n xs) (B:Nat) (hB:∀ k,blk v=some k→B≤k):Loose w B e size v n xs:=by
 rcases h with h | ⟨g,cap,rfl,hc,h⟩
 · exact .inl h
 · exact .inr ⟨g,cap,rfl,hc,own_raise h B fun k hk=>hB k (by
    simp only [Value.ownBlock,Option.some.injEq] at hk
    rw [← hk]
    exact blk_at g 0 n cap hc)⟩
theorem Loose.lower {w:World} {b size n:Nat} {e:TypeId} {v:Value} {xs:List Value} (h:Loose w b e size v n xs) (B:Nat) (hB:B≤b):Loose w B e size v n xs:=
 h.raise B fun k hk=>Nat.le_trans hB (h.lt k hk).1
theorem Loose.ne {w:World} {b g size n:Nat} {e t:TypeId} {v:Value} {xs:List Value} {C:Array Value} {fr:Nat×Nat} (h:Loose w b e size v n xs) (hg:w.heap[g]? = some (.cells C t fr)) (ak:e≠t):blk v≠some g:=by
 rcases h with ⟨A,rfl,_,_⟩ | ⟨_,_,_,_,h⟩
 · rw [blk_empty];intro h;cases h
 · exact fun hk=>own_obj_ne h hg ak (blk_some hk)
theorem Loose.form {w:World} {base size n:Nat} {e:TypeId} {v:Value} {xs:List Value} (h:Loose w base e size v n xs) :
 ∃ A c,v=.slice A n c∧n≤c∧RowAt w A xs∧c≤9223372036854775807∧(A=none→c=0):=by
 rcases h with ⟨A,rfl,rfl,rfl⟩ | ⟨g,cap,rfl,hc,h⟩
 · exact ⟨A,0,rfl,Nat.le_refl _,RowAt.nil _ _,by omega,fun _=>rfl⟩
 · have h0:=h
   rcases h.2 with ⟨h1,_⟩ | ⟨g',cap',cur,h1,_,_,ah,ai,_⟩
   · cases h1
   · injection h1 with h2 h3 h4
     subst h4
     exact ⟨_,_,rfl,ah,RowAt.own h0,by simpa [maxLen] using ai,fun h=>by cases h⟩
/-! ### append -/
theorem run_append_loose {P:Program} (w:World) (base:Nat) (t ty e:TypeId) (z:Value) (size bytes:Nat) (ht:P.underlying t=some (.slice e))
 (a0:(P.info? e).map (fun i=>(i.zero,i.size,i.bytes))=some (some z,size,bytes)) (ae:z.cells.size=size) (aa:0<size)
 (v:Value) (n:Nat) (xs:List Value) (a3:Loose w base e size v n xs)
 (A:Option Addr) (m c:Nat) (news:List Value) (hl:news.length=m*size) (hr:RowAt w A news) (h1:∀ u∈news,u.oneCell'=true)
 (a5:n+m≤maxLen) (a4:(n+m)*bytes≤140737488355328) (a1:base≤w.heap.size) :
 ∃ v' w',(Builtin.append_ #[t,t] ty #[v,.slice A m c]).run P w=.ok v' w'∧Loose w' base e size v' (n+m) (xs++news)∧w.grownBy w' (blk v)∧(blk v'=blk v∨blk v'=some w.heap.size)∧(v'=v∨(0<m∧∃ g c',v'=.slice (some ⟨g,0,none⟩) (n+m) c')):=by
 rcases a3 with ⟨B,rfl,rfl,rfl⟩ | ⟨g,cap,rfl,hc,a3⟩
 · by_cases hm:m=0
   · subst hm
     have hn:news=[]:=List.eq_nil_of_length_eq_zero (by simpa using hl)
     subst hn
     obtain ⟨i0,hi,ab⟩:=Option.map_eq_some_iff.1 a0
     refine ⟨.slice B 0 0,w, ?_,Loose.empty w base size e B,⟨rfl,rfl,rfl,Nat.le_refl _,fun _ _ _=>rfl⟩,.inl rfl,.inl rfl⟩
     cases B <;> cases A <;> simp [Builtin.append_,run_underlying ht,sizeOf,typeInfo,hi,Builtin.lenOf,Builtin.firstCells,loadCells,loadCellsFrom,storeCells]
   · have ak:0<news.length:=by rw [hl];exact Nat.mul_pos (by omega) aa
     cases A with
     | none=>
       cases news with
       | nil=>simp at ak
       | cons u us=>obtain ⟨_,h,_⟩:=hr 0 u rfl;cases h
     | some ad=>
       cases B with
       | none=>
         obtain ⟨v',w',a6,h2,h3,h4⟩:=run_append_row (P:=P) w base t ty e z size bytes ht a0 ae aa (.slice none 0 0) 0 [] (World.ownsRow_nil w base e size) (some ad) m c news hl hr h1 a5 a4 a1
         have ax:∃ g c',v'=.slice (some ⟨g,0,none⟩) (0+m) c'∧0<c':=by
          rcases h2.2 with ⟨_,h⟩ | ⟨g,cap,cur,h,_,_,hc,_⟩
          · omega
          · exact ⟨g,cap,h,by omega⟩
         obtain ⟨g,c',rfl,aw⟩:=ax
         refine ⟨_,w',a6,.inr ⟨g,c',rfl,aw,h2⟩,⟨h3.os,h3.tape,h3.output,h3.size,fun k hk _=>h3.block k hk (by simp [Value.ownBlock])⟩,.inr ?_,.inr ⟨by omega,g,c',rfl⟩⟩
         rw [blk_at _ _ _ _ aw]
         simpa [Value.ownBlock] using h4
       | some b=>
         obtain ⟨i0,hi,ab⟩:=Option.map_eq_some_iff.1 a0
         simp only [Prod.mk.injEq] at ab
         obtain ⟨ap,ao,am⟩:=ab
         have a9:∀ j u,news[j]? = some u→w.cell? (ad.add j)=some u:=by
          intro j u hu
          obtain ⟨ad',h',hc⟩:=hr j u hu
          cases h'
          exact hc
         have a6:=run_append_grow (P:=P) w t ty e i0 z ht hi ap b 0 0 [] (by simp) (fun j v h=>by simp at h) ad m c news (by rw [ao];exact hl) a9 (by omega) (by simp only [maxLen] at a5;omega) (growslice_fits (by omega) (by rw [am];exact a4))
         have aF:=grownCap_ge w (0+m) 0 e
         have ai:grownCap w (0+m) 0 e≤maxLen:=grownCap_le_maxLen w (0+m) 0 e a5
         simp only [Nat.zero_add,List.nil_append] at a6 aF ai ⊢
         refine ⟨_,_,a6,.inr ⟨w.heap.size,_,rfl,by omega,⟨by simpa using hl,.inr ⟨w.heap.size,_,_,rfl,a1,heap_alloc_new w.drew _,aF,ai, ?_, ?_⟩⟩⟩,⟨rfl,rfl,rfl,by simp,fun k hk _=>Below.heap_alloc w.drew _ k hk⟩,.inr (blk_at _ _ _ _ (by omega)),.inr ⟨by omega,_,_,rfl⟩⟩
         · simp only [Array.size_append,List.size_toArray,size_zeroCells,ae,List.length_nil,hl,Nat.zero_add,← Nat.add_mul]
           congr 1
           omega
         · simp only [Array.toList_append,List.nil_append]
           rw [← hl]
           exact List.take_left
 · obtain ⟨v',w',a6,h2,h3,h4⟩:=run_append_row (P:=P) w base t ty e z size bytes ht a0 ae aa _ n xs a3 A m c news hl hr h1 a5 a4 a1
   have ax:∃ g' c',v'=.slice (some ⟨g',0,none⟩) (n+m) c'∧n+m≤c':=by
    rcases h2.2 with ⟨h,_⟩ | ⟨g',cap',cur,h,_,_,hc,_⟩
    · subst h
      rcases h4 with h | h <;> simp [Value.ownBlock] at h
    · exact ⟨g',cap',h,by omega⟩
   obtain ⟨g',c',rfl,aw⟩:=ax
   have e1:blk (.slice (some ⟨g,0,none⟩) n cap)=some g:=blk_at _ _ _ _ hc
   by_cases aM:c'=0
   · -- no room,no bytes: then nothing was laid
     exfalso
     subst aM
     have hm:m=0:=by omega
     have hn:n=0:=by omega
     subst hm
     subst hn
     obtain ⟨i0,hi,ab⟩:=Option.map_eq_some_iff.1 a0
     have hn:news=[]:=List.eq_nil_of_length_eq_zero (by simpa using hl)
     subst hn
     have az:(Builtin.append_ #[t,t] ty #[.slice (some ⟨g,0,none⟩) 0 cap,.slice A 0 c]).run P w=.ok (.slice (some ⟨g,0,none⟩) 0 cap) w:=by
      cases A <;> simp [Builtin.append_,run_underlying ht,sizeOf,typeInfo,hi,Builtin.lenOf,Builtin.firstCells,loadCells,loadCellsFrom,storeCells]
     rw [az] at a6
     injection a6 with h5 h6
     injection h5 with h7 h8 h9
     omega
   · have e2:blk (.slice (some ⟨g',0,none⟩) (n+m) c')=some g':=blk_at _ _ _ _ (by omega)
     refine ⟨_,w',a6,.inr ⟨g',c',rfl,by omega,h2⟩,by rw [e1];exact h3, ?_, ?_⟩
     · rw [e1,e2]
       simpa [Value.ownBlock] using h4
     · by_cases hm:m=0
       · subst hm
         obtain ⟨i0,hi,ab⟩:=Option.map_eq_some_iff.1 a0
         have hn:news=[]:=List.eq_nil_of_length_eq_zero (by simpa using hl)
         subst hn
         have ah:n≤cap:=by
          rcases a3.2 with ⟨h,_⟩ | ⟨g2,cap2,cur,h,_,_,ah,_⟩
          · cases h
          · injection h with h7 h8 h9;omega
         have az:(Builtin.append_ #[t,t] ty #[.slice (some ⟨g,0,none⟩) n cap,.slice A 0 c]).run P w=.ok (.slice (some ⟨g,0,none⟩) n cap) w:=by
          cases A <;> simp [Builtin.append_,run_underlying ht,sizeOf,typeInfo,hi,Builtin.lenOf,Builtin.firstCells,loadCells,loadCellsFrom,storeCells,ah]
         rw [az] at a6
         injection a6 with h5 h6
         exact .inl h5.symm
       · exact .inr ⟨by omega,g',c',rfl⟩
/-! ### bytes -/
def OwnL (e:TypeId) (w:World) (base:Nat) (v:Value) (l:List UInt8):Prop:=Loose w base e 1 v l.length (u8s l)
theorem OwnL.empty (e:TypeId) (w:World) (base:Nat) (A:Option Addr):OwnL e w base (.slice A 0 0) []:=Loose.empty w base 1 e A
theorem OwnL.form {e:TypeId} {w:World} {base:Nat} {v:Value} {l:List UInt8} (h:OwnL e w base v l):∃ A c,v=.slice A l.length c∧l.length≤c∧Reads w A l∧c≤9223372036854775807∧(A=none→c=0):=Loose.form h
theorem OwnL.keep {F:Nat→Prop} {e:TypeId} {w w':World} {base:Nat} {v:Value} {l:List UInt8} (h:OwnL e w base v l) (ht:Touch F w w') (hF:∀ k,blk v=some k→¬F k):OwnL e w' base v l:=Loose.keep h ht hF
theorem OwnL.below {e:TypeId} {w w':World} {base:Nat} {v:Value} {l:List UInt8} (h:OwnL e w base v l) (hb:Below w.heap.size w w'):OwnL e w' base v l:=Loose.below h hb
theorem OwnL.far {e:TypeId} {w:World} {base:Nat} {v:Value} {l:List UInt8} (h:OwnL e w base v l) {p:Addr} (hp:blk v≠some p.block) (u:Value):OwnL e (w.setCell p u) base v l:=Loose.far h hp u
theorem OwnL.ne {w:World} {b g:Nat} {e t:TypeId} {v:Value} {l:List UInt8} {C:Array Value} {fr:Nat×Nat} (h:OwnL e w b v l) (hg:w.heap[g]? = some (.cells C t fr)) (ak:e≠t):blk v≠some g:=Loose.ne h hg ak
theorem OwnL.lt {e:TypeId} {w:World} {base:Nat} {v:Value} {l:List UInt8} (h:OwnL e w base v l) (k:Nat) (hk:blk v=some k):base≤k∧k<w.heap.size:=Loose.lt h k hk
theorem OwnL.lower {e:TypeId} {w:World} {b:Nat} {v:Value} {l:List UInt8} (h:OwnL e w b v l) (B:Nat) (hB:B≤b):OwnL e w B v l:=Loose.lower h B hB
theorem OwnL.prefix {e:TypeId} {w:World} {base:Nat} {A:Option Addr} {n c m:Nat} {l:List UInt8} (h:OwnL e w base (.slice A n c) l) (hm:m≤l.length):OwnL e w base (.slice A m c) (l.take m):=by
 have hl:(l.take m).length=m:=by rw [List.length_take];omega
 rcases h with ⟨A',h1,h2,h3⟩ | ⟨g,cap,h1,hc,h⟩
 · injection h1 with h4 h5 h6
   subst h6
   have:m=0:=by omega
   subst this
   exact .inl ⟨A,rfl,by simp,by simp [u8s]⟩
 · injection h1 with h4 h5 h6
   subst h4
   subst h6
   refine .inr ⟨g,c,by rw [hl],hc, ?_⟩
   have h1:=h.1
   rw [hl]
   refine ⟨by rw [u8s_length,hl];omega, ?_⟩
   rcases h.2 with ⟨h0,hn⟩ | ⟨g,cap,cur,h0,hb,hg,ah,ai,hs,aT⟩
   · cases h0
   · injection h0 with h2 h3 h4
     injection h2 with h2
     injection h2 with h2
     subst h2
     subst h4
     refine .inr ⟨_,c,cur,rfl,hb,hg,by omega,ai,hs, ?_⟩
     rw [u8s_take,← aT,List.take_take]
     congr 1
     omega
section
variable {P:Program} {ops:Array Oper} {rest:List Oper} {o:Oper} {a:Act} {w:World} {K:Act→World→Prop} {Q:Exit→Act→World→Prop} {E:Prop}
theorem step_append_loose (base:Nat) (af:o.guard=none) (s x:Operand) (t e:TypeId)
 (ho:o.op=.call { callee:=.builtin .append,args:=#[s,x],argTypes:=#[t,t] })
 (ht:P.underlying t=some (.slice e)) (a0:(P.info? e).map (fun i=>(i.zero,i.size,i.bytes))=some (some (.int .u8 0),1,1))
 (v:Value) (l m:List UInt8) (hs:a.eval s=v) (a3:OwnL e w base v l)
 (A:Option Addr) (c:Nat) (hx:a.eval x=.slice A m.length c) (hr:Reads w A m)
 (a5:l.length+m.length≤140737488355328) (a1:base≤w.heap.size)
 (h:∀ v' w',OwnL e w' base v' (l++m)→w.grownBy w' (blk v)→(blk v'=blk v∨blk v'=some w.heap.size)→K (a.put o.dst v') w') :
 if Region.wanted o (yielded ops a.tmps)=true then Oper.wp P o a w K Q else E:=by
 have hw:Region.wanted o (yielded ops a.tmps)=true:=by simp [Region.wanted,af]
 rw [if_pos hw]
 obtain ⟨v',w',a6,h2,h3,h4,_⟩:=run_append_loose (P:=P) w base t o.type e (.int .u8 0) 1 1 ht a0 rfl (by omega) v l.length (u8s l) a3 A m.length c (u8s m) (by rw [u8s_length];omega) hr (u8s_one m) (by simp only [maxLen];omega) (by omega) a1
 unfold Oper.wp execOp
 simp only [ho,resolve,invoke,builtin,Sem.run_bind,Sem.run_pure,Result.andThen_ok,List.map_toArray,List.map_cons,List.map_nil,hs,hx,a6]
 exact h _ _ (by unfold OwnL;rw [u8s_append,List.length_append];exact h2) h3 h4
theorem step_append_rows (base:Nat) (af:o.guard=none) (s x:Operand) (t e:TypeId) (z:Value) (size bytes:Nat)
 (ho:o.op=.call { callee:=.builtin .append,args:=#[s,x],argTypes:=#[t,t] })
 (ht:P.underlying t=some (.slice e)) (a0:(P.info? e).map (fun i=>(i.zero,i.size,i.bytes))=some (some z,size,bytes)) (ae:z.cells.size=size) (aa:0<size)
 (v:Value) (n:Nat) (xs:List Value) (hs:a.eval s=v) (a3:Loose w base e size v n xs)
 (A:Option Addr) (m c:Nat) (news:List Value) (hx:a.eval x=.slice A m c) (hl:news.length=m*size) (hr:RowAt w A news) (h1:∀ u∈news,u.oneCell'=true)
 (a5:n+m≤maxLen) (a4:(n+m)*bytes≤140737488355328) (a1:base≤w.heap.size)
 (h:∀ v' w',Loose w' base e size v' (n+m) (xs++news)→w.grownBy w' (blk v)→(blk v'=blk v∨blk v'=some w.heap.size)→K (a.put o.dst v') w') :
 if Region.wanted o (yielded ops a.tmps)=true then Oper.wp P o a w K Q else E:=by
 have hw:Region.wanted o (yielded ops a.tmps)=true:=by simp [Region.wanted,af]
 rw [if_pos hw]
 obtain ⟨v',w',a6,h2,h3,h4,_⟩:=run_append_loose (P:=P) w base t o.type e z size bytes ht a0 ae aa v n xs a3 A m c news hl hr h1 a5 a4 a1
 unfold Oper.wp execOp
 simp only [ho,resolve,invoke,builtin,Sem.run_bind,Sem.run_pure,Result.andThen_ok,List.map_toArray,List.map_cons,List.map_nil,hs,hx,a6]
 exact h _ _ h2 h3 h4
theorem wpList_append_rows (base:Nat) (af:o.guard=none) (s x:Operand) (t e:TypeId) (z:Value) (size bytes:Nat)
 (ho:o.op=.call { callee:=.builtin .append,args:=#[s,x],argTypes:=#[t,t] })
 (ht:P.underlying t=some (.slice e)) (a0:(P.info? e).map (fun i=>(i.zero,i.size,i.bytes))=some (some z,size,bytes)) (ae:z.cells.size=size) (aa:0<size)
 (v:Value) (n:Nat) (xs:List Value) (hs:a.eval s=v) (a3:Loose w base e size v n xs)
 (A:Option Addr) (m c:Nat) (news:List Value) (hx:a.eval x=.slice A m c) (hl:news.length=m*size) (hr:RowAt w A news) (h1:∀ u∈news,u.oneCell'=true)
 (a5:n+m≤maxLen) (a4:(n+m)*bytes≤140737488355328) (a1:base≤w.heap.size)
 (h:∀ v' w',Loose w' base e size v' (n+m) (xs++news)→w.grownBy w' (blk v)→(blk v'=blk v∨blk v'=some w.heap.size)→wpList P ops Q rest (a.put o.dst v') w') :
 wpList P ops Q (o :: rest) a w:=by
 refine wpList_plain af fun K hK=>?_
 obtain ⟨v',w',a6,h2,h3,h4,_⟩:=run_append_loose (P:=P) w base t o.type e z size bytes ht a0 ae aa v n xs a3 A m c news hl hr h1 a5 a4 a1
 unfold Oper.wp execOp
 simp only [ho,resolve,invoke,builtin,Sem.run_bind,Sem.run_pure,Result.andThen_ok,List.map_toArray,List.map_cons,List.map_nil,hs,hx,a6]
 exact hK _ _ (h v' w' h2 h3 h4)
theorem wpList_append_loose (base:Nat) (af:o.guard=none) (s x:Operand) (t e:TypeId)
 (ho:o.op=.call { callee:=.builtin .append,args:=#[s,x],argTypes:=#[t,t] })
 (ht:P.underlying t=some (.slice e)) (a0:(P.info? e).map (fun i=>(i.zero,i.size,i.bytes))=some (some (.int .u8 0),1,1))
 (v:Value) (l m:List UInt8) (hs:a.eval s=v) (a3:OwnL e w base v l)
 (A:Option Addr) (c:Nat) (hx:a.eval x=.slice A m.length c) (hr:Reads w A m)
 (a5:l.length+m.length≤140737488355328) (a1:base≤w.heap.size)
 (h:∀ v' w',OwnL e w' base v' (l++m)→w.grownBy w' (blk v)→(blk v'=blk v∨blk v'=some w.heap.size)→wpList P ops Q rest (a.put o.dst v') w') :
 wpList P ops Q (o :: rest) a w:=
 wpList_append_rows base af s x t e (.int .u8 0) 1 1 ho ht a0 rfl (by omega) v l.length (u8s l) hs a3 A m.length c (u8s m) hx (by rw [u8s_length];omega) hr (u8s_one m) (by simp only [maxLen];omega) (by omega) a1
  fun v' w' h2 h3 h4=>h v' w' (by unfold OwnL;rw [u8s_append,List.length_append];exact h2) h3 h4
end
theorem Keeps.trans' {a b c:World} {row:Option Nat} (h:Keeps a b) (k:b.grownBy c row) (hr:∀ j,row=some j→a.heap.size≤j):Keeps a c:=
 Touch.nothing (F:=fun _=>False) ((Touch.of_below h.below fun k hk h=>absurd hk (by omega)).grown k fun i e hi=>absurd (hr i e) (by omega)) fun _ _ h=>h
end
section
open Go.RowKit
theorem info_byte:(Tryz.prog.info? 5).map (fun i=>(i.zero,i.size,i.bytes))=some (some (.int .u8 0),1,1):=by kernel_rfl
theorem clone_bytes (A:Option Addr) (c:Nat) (l:List UInt8) (w:World) (hl:l.length≤140737488355328) (hr:Reads w A l) :
 Calls Tryz.prog 90 #[.slice A l.length c] w fun e w'=>∃ v,e=.returned v∧OwnL 5 w' w.heap.size v l∧Keeps w w':=by
 cases A with
 | none=>
   have:=hr.none
   subst this
   clear hr
   have heq:=fun (w:World)=>Lib.run_eql_slice_nil (P:=Tryz.prog) w 31 5 none 0 c 0 0 Tryz.underlying31
   go_enter Tryz.func90,Tryz.ntmps90
   go_wp2
   go_ret
   exact ⟨_,rfl,OwnL.empty _ _ _ none,Keeps.refl w⟩
 | some a=>
   have HR:=Hi hr
   clear hr
   have heq:=fun (w:World)=>Lib.run_eql_slice_nil (P:=Tryz.prog) w 31 5 (some a) l.length c 0 0 Tryz.underlying31
   go_enter Tryz.func90,Tryz.ntmps90
   go_wp2_with (at_builtin;refine wpList_append_loose w.heap.size rfl _ _ 31 5 rfl Tryz.underlying31 info_byte (.slice (some ⟨w.heap.size,0,none⟩) 0 0) [] l rfl ?c0 (some a) c rfl ?c1 ?c2 ?c3 ?_)
   case c0=>exact OwnL.empty _ _ _ _
   case c1=>exact HR.out.below ((Below.refl _ w).alloc (Nat.le_refl _) _)
   case c2=>simpa using hl
   case c3=>simp
   intro v1 w1 a3 aL aW
   go_wp2
   go_ret
   refine ⟨_,rfl,by simpa using a3, ?_⟩
   exact (Keeps.refl w).trans (Touch.nothing (F:=fun _=>False) (((Touch.refl _ w).alloc _).grown aL fun i h _=>by rw [blk_empty] at h;cases h) fun _ _ h=>h)
end
def leb (n:Nat):List UInt8:=if n<128 then [UInt8.ofNat n] else UInt8.ofNat (n % 128+128) :: leb (n / 128)
termination_by n
decreasing_by omega
theorem leb_small {n:Nat} (h:n<128):leb n=[UInt8.ofNat n]:=by rw [leb,if_pos h]
theorem leb_step {n:Nat} (h:¬n<128):leb n=UInt8.ofNat (n % 128+128) :: leb (n / 128):=by rw [leb,if_neg h]
theorem leb_pos (n:Nat):0<(leb n).length:=by
 rw [leb];split <;> simp
theorem leb_len:∀ (k n:Nat),n<128 ^ (k+1)→(leb n).length≤k+1
 | 0,n,h=>by rw [leb_small (by omega)];simp
 | k+1,n,h=>by
   by_cases hs:n<128
   · rw [leb_small hs];simp
   · rw [leb_step hs,List.length_cons]
     have:=leb_len k (n / 128) (by rw [Nat.div_lt_iff_lt_mul (by omega)];rw [Nat.pow_succ] at h;exact h)
     omega
theorem leb_le (n:Nat) (h:n<18446744073709551616):(leb n).length≤10:=leb_len 9 n (by omega)
theorem byte_more (m:Nat):(UInt8.ofNat (m % 128+128)).toNat=m % 128+128:=by simp;omega
theorem byte_last (m:Nat) (h:m<128):(UInt8.ofNat m).toNat=m:=by simp;omega
section
open Go.RowKit
theorem lebLen_calls (n:Nat) (hn:n<18446744073709551616) (w:World):Calls Tryz.prog 166 #[.int .u64 (n:Int)] w fun e w'=>∃ v:Nat,v≤10∧e=.returned (.int .i64 (v:Int))∧w=w':=by
 have hb:Lib.bitLen n≤64:=Lib.bitLen_le n 64 (by omega) (by omega)
 have hc:=fun w=>len64_calls (n:Int) w (by omega) (by omega)
 simp only [Int.toNat_natCast] at hc
 generalize Lib.bitLen n=L at hb hc
 go_enter Tryz.func166,Tryz.ntmps166
 go_wp2_with (go_at_call 179;refine (hc _).mono ?_;rintro e w' ⟨rfl,rfl⟩)
 all_goals go_ret
 all_goals exact ⟨max 1 ((L+6) / 7),by omega,ret_int (by omega),rfl⟩
theorem or_u8:∀ b:Fin 256,bits BinOp.or IntKind.u8 ((b.val:Nat):Int) 128=((b.val % 128+128:Nat):Int):=by decide +kernel
theorem own_made (w:World) (v:Nat) (hv:v≤10):OwnB 5 (w.alloc (.cells (madeCells #[.int .u8 0] v) 5)) w.heap.size (.slice (some ⟨w.heap.size,0,none⟩) 0 v) []:=
 ⟨rfl,.inr ⟨w.heap.size,v,_,rfl,Nat.le_refl _,heap_alloc_new w _,Nat.zero_le _,by simp only [maxLen];omega,by rw [← Array.length_toList,toList_madeCells_one];simp,by simp [u8s]⟩⟩
theorem lebPut_calls (n:Nat) (hn:n<18446744073709551616) (w:World) :
 Calls Tryz.prog 134 #[.int .u64 (n:Int)] w fun e w'=>∃ v,e=.returned v∧OwnB 5 w' w.heap.size v (leb n)∧Keeps w w':=by
 have a5:=leb_le n hn
 have HL:=Hi a5
 clear a5
 go_enter Tryz.func134,Tryz.ntmps134
 go_wp2_with fail
 refine (lebLen_calls n hn w).mono ?_
 rintro e w1 ⟨v,hv,rfl,rfl⟩
 obtain ⟨i0,hi,ab⟩:=Option.map_eq_some_iff.1 info_byte
 simp only [Prod.mk.injEq] at ab
 obtain ⟨ap,ao,am⟩:=ab
 have aK:(Instr.makeSlice 31 (.int .i64 0) (.int .i64 (v:Int))).run Tryz.prog w=.ok (.slice (some ⟨w.heap.size,0,none⟩) 0 v) (w.alloc (.cells (madeCells #[.int .u8 0] v) 5)):=by
  have:=run_make (P:=Tryz.prog) w 31 5 i0 (.int .u8 0) Tryz.underlying31 hi ap .i64 .i64 0 (v:Int) (by omega) (by omega) (by rw [am];omega) (by omega)
  rw [this,ao,show ((v:Int)).toNat=v by omega,Nat.mul_one]
  rfl
 clear hi ap ao am
 have H0:=Hi (own_made w v hv)
 have HN:=Hi hn
 clear hn
 go_wp2_with fail
 go_loopw [0,3] (fun i b wr=>∃ (m:Nat) (pre:List UInt8) (A:Option Addr) (c:Nat),i=.int .u64 (m:Int)∧b=.slice A pre.length c∧m<18446744073709551616∧pre++leb m=leb n∧OwnB 5 wr w.heap.size (.slice A pre.length c) pre∧Keeps w wr) (fun i _ _=>(intOf i).toNat)
 case atStart=>exact ⟨n,[],_,_,rfl,rfl,HN.out,rfl,H0.out,(Keeps.refl w).alloc _⟩
 case round=>
  obtain ⟨m,pre,A,c,rfl,rfl,hm,al,a3,hk⟩:=hrel
  have aJ:pre.length≤9:=by
   have h1:=congrArg List.length al
   have h2:=leb_pos m
   have h3:=HL.out
   rw [List.length_append] at h1
   omega
  have HP:=Hi al
  have HO:=Hi a3
  have HK:=Hi hk
  clear al a3 hk aK H0
  generalize aD:pre.length=pl at aJ HO
  have aE:=Hi aD
  clear aD
  by_cases ag:m<128
  · have a8:∀ wr:World,Reads (wr.alloc (.cells #[.int .u8 (m:Int)] 5)) (some ⟨wr.heap.size,0,none⟩) [UInt8.ofNat m]:=fun wr=>Reads.new wr _ _ _ _ (by show [Value.int .u8 (m:Int)]=[Value.int .u8 (((UInt8.ofNat m).toNat:Nat):Int)];rw [byte_last m ag])
    have HR:=Hi (a8 wr)
    clear a8
    go_wp2_with (at_builtin;refine wpList_append_bytes (w0:=wr) w.heap.size rfl _ _ 31 5 rfl Tryz.underlying31 info_byte (.slice A pl c) pre [UInt8.ofNat m] rfl ?c0 (some ⟨wr.heap.size,0,none⟩) 1 rfl HR.out ?c2 ?c3 ?c4 ?_)
    case c0=>exact OwnB.below HO.out ((Below.refl _ wr).alloc (Nat.le_refl _) _)
    case c2=>have:=aE.out;simp;omega
    case c3=>have:=HK.out.size;simp;omega
    case c4=>exact (Below.refl _ wr).alloc (by have:=HK.out.size;omega) _
    intro v1 w1 a7 au _ _
    go_wp2
    go_ret
    refine ⟨_,rfl, ?_, ?_⟩
    · have:=HP.out
      rw [leb_small ag] at this
      rw [← this]
      exact a7
    · exact Below.trans HK.out.below au
  · have e1:bits BinOp.or IntKind.u8 ((m:Int) % 256) 128=((m % 128+128:Nat):Int):=by
     have:=or_u8 ⟨m % 256,Nat.mod_lt _ (by omega)⟩
     rw [show (m:Int) % 256=((m % 256:Nat):Int) by omega,this]
     simp only
     omega
    have a8:∀ wr:World,Reads (wr.alloc (.cells #[.int .u8 ((m % 128+128:Nat):Int)] 5)) (some ⟨wr.heap.size,0,none⟩) [UInt8.ofNat (m % 128+128)]:=fun wr=>Reads.new wr _ _ _ _ (by show [Value.int .u8 ((m % 128+128:Nat):Int)]=[Value.int .u8 (((UInt8.ofNat (m % 128+128)).toNat:Nat):Int)];rw [byte_more m])
    have HR:=Hi (a8 wr)
    clear a8
    generalize hM:m % 128+128=M at e1 HR
    have HM:=Hi hM
    clear hM
    go_wp2_with (at_builtin;refine wpList_append_bytes (w0:=wr) w.heap.size rfl _ _ 31 5 rfl Tryz.underlying31 info_byte (.slice A pl c) pre [UInt8.ofNat M] rfl ?d0 (some ⟨wr.heap.size,0,none⟩) 1 rfl HR.out ?d2 ?d3 ?d4 ?_)
    case d0=>exact OwnB.below HO.out ((Below.refl _ wr).alloc (Nat.le_refl _) _)
    case d2=>have:=aE.out;simp;omega
    case d3=>have:=HK.out.size;simp;omega
    case d4=>exact (Below.refl _ wr).alloc (by have:=HK.out.size;omega) _
    intro v1 w1 a7 au _ _
    obtain ⟨A1,c1,rfl,_,_,_,_⟩:=a7.form
    have aS:=Hi a7
    have aO:=Hi au
    clear a7 au
    go_wp2
    refine ⟨⟨m / 128,pre++[UInt8.ofNat M],A1,c1, ?_,rfl,by omega, ?_,aS.out,Below.trans HK.out.below aO.out⟩, ?_⟩
    · rw [show (m:Int) / 128=((m / 128:Nat):Int) by omega]
    · have:=HP.out
      rw [leb_step ag,HM.out] at this
      rw [← this]
      simp
    · show ((m:Int) / 128).toNat<((m:Int)).toNat
      omega
def fbits (x:Nat):Nat:=if FloatKind.f64.format.order x x==some .eq then x else 9221120237041090560
theorem run_bits (P:Program) (x:Nat) (w:World):(Extern.MathFloatBits.float64bits #[.float .f64 x]).run P w=.ok (.int .u64 (x:Int)) w:=rfl
theorem run_from_nan (P:Program) (w:World):(Extern.MathFloatBits.float64frombits #[.int .u64 9221120237041090560]).run P w=.ok (.float .f64 9221120237041090560) w:=rfl
theorem realFix_calls (x:Nat) (w:World):Calls Tryz.prog 177 #[.float .f64 x] w fun e w'=>e=.returned (.float .f64 (fbits x))∧w=w':=by
 cases hx:(FloatKind.f64.format.order x x==some .eq) with
 | true=>
   have hn:(FloatKind.f64.format.order x x != some .eq)=false:=by rw [bne,hx];rfl
   have he:fbits x=x:=by unfold fbits;rw [hx];rfl
   have HE:=Hi he
   clear hx he
   go_enter Tryz.func177,Tryz.ntmps177
   go_wp2
   go_ret
   exact ⟨by rw [HE.out];rfl,rfl⟩
 | false=>
   have hn:(FloatKind.f64.format.order x x != some .eq)=true:=by rw [bne,hx];rfl
   have he:fbits x=9221120237041090560:=by unfold fbits;rw [hx];rfl
   have HE:=Hi he
   clear hx he
   go_enter Tryz.func177,Tryz.ntmps177
   go_wp2
   rw [run_callFunc_extern Tryz.func185 (by kernel_rfl) (by kernel_rfl) (by kernel_rfl) (e:=Extern.MathFloatBits.float64frombits) (by kernel_rfl),run_from_nan]
   simp only [Result.andThen]
   rw [Oper.upon_value]
   go_wp2
   go_ret
   exact ⟨by rw [HE.out];rfl,rfl⟩
theorem realBits_calls (x:Nat) (w:World):Calls Tryz.prog 163 #[.float .f64 x] w fun e w'=>e=.returned (.int .u64 ((fbits x:Nat):Int))∧w=w':=by
 have hc:=realFix_calls x
 generalize fbits x=b at hc ⊢
 have HC:=Hi hc
 clear hc
 go_enter Tryz.func163,Tryz.ntmps163
 go_wp2_with fail
 refine (HC.out w).mono ?_
 rintro e w1 ⟨rfl,rfl⟩
 clear HC
 go_wp2
 rw [run_callFunc_extern Tryz.func172 (by kernel_rfl) (by kernel_rfl) (by kernel_rfl) (e:=Extern.MathFloatBits.float64bits) (by kernel_rfl),run_bits]
 simp only [Result.andThen]
 rw [Oper.upon_value]
 go_wp2
 go_ret
 exact ⟨rfl,rfl⟩
theorem realSame_calls (x y:Nat) (w:World):Calls Tryz.prog 131 #[.float .f64 x,.float .f64 y] w fun e w'=>e=.returned (.bool (decide (fbits x=fbits y)))∧w=w':=by
 have hx:=realBits_calls x
 have hy:=realBits_calls y
 generalize fbits x=a at hx ⊢
 generalize fbits y=b at hy ⊢
 have HX:=Hi hx
 have HY:=Hi hy
 clear hx hy
 have hd:(((a:Nat):Int)==((b:Nat):Int))=decide (a=b):=by
  rw [Bool.eq_iff_iff];simp only [beq_iff_eq,decide_eq_true_eq];omega
 have HD:=Hi hd
 clear hd
 go_enter Tryz.func131,Tryz.ntmps131
 go_wp2_with fail
 refine (HX.out w).mono ?_
 rintro e w1 ⟨rfl,rfl⟩
 go_wp2_with fail
 refine (HY.out w).mono ?_
 rintro e w1 ⟨rfl,rfl⟩
 go_wp2
 go_ret
 refine ⟨ret_bool ?_,rfl⟩
 exact HD.out
theorem refBits_calls (x:Nat) (w:World):Calls Tryz.prog 147 #[.float .f64 x] w fun e w'=>e=.returned (.int .u64 ((fbits x:Nat):Int))∧w=w':=by
 cases hx:(FloatKind.f64.format.order x x==some .eq) with
 | true=>
   have hn:(FloatKind.f64.format.order x x != some .eq)=false:=by rw [bne,hx];rfl
   have he:fbits x=x:=by unfold fbits;rw [hx];rfl
   have HE:=Hi he
   clear hx he
   go_enter Tryz.func147,Tryz.ntmps147
   go_wp2
   rw [run_callFunc_extern Tryz.func172 (by kernel_rfl) (by kernel_rfl) (by kernel_rfl) (e:=Extern.MathFloatBits.float64bits) (by kernel_rfl),run_bits]
   simp only [Result.andThen]
   rw [Oper.upon_value]
   go_wp2
   go_ret
   exact ⟨by rw [HE.out];rfl,rfl⟩
 | false=>
   have hn:(FloatKind.f64.format.order x x != some .eq)=true:=by rw [bne,hx];rfl
   have he:fbits x=9221120237041090560:=by unfold fbits;rw [hx];rfl
   have HE:=Hi he
   clear hx he
   go_enter Tryz.func147,Tryz.ntmps147
   go_wp2
   go_ret
   exact ⟨by rw [HE.out];rfl,rfl⟩
theorem refRealSame_calls (x y:Nat) (w:World):Calls Tryz.prog 113 #[.float .f64 x,.float .f64 y] w fun e w'=>e=.returned (.bool (decide (fbits x=fbits y)))∧w=w':=by
 have hx:=refBits_calls x
 have hy:=refBits_calls y
 generalize fbits x=a at hx ⊢
 generalize fbits y=b at hy ⊢
 have HX:=Hi hx
 have HY:=Hi hy
 clear hx hy
 have hd:(((a:Nat):Int)==((b:Nat):Int))=decide (a=b):=by
  rw [Bool.eq_iff_iff];simp only [beq_iff_eq,decide_eq_true_eq];omega
 have HD:=Hi hd
 clear hd
 go_enter Tryz.func113,Tryz.ntmps113
 go_wp2_with fail
 refine (HX.out w).mono ?_
 rintro e w1 ⟨rfl,rfl⟩
 go_wp2_with fail
 refine (HY.out w).mono ?_
 rintro e w1 ⟨rfl,rfl⟩
 go_wp2
 go_ret
 refine ⟨ret_bool ?_,rfl⟩
 exact HD.out
end
section
open Go.RowKit
inductive Ty where
 | mk (kind:Int) (l:List Ty):Ty
def Ty.kind:Ty→Int | .mk k _=>k
def Ty.of:Ty→List Ty | .mk _ l=>l
mutual
def Ty.same:Ty→Ty→Bool
 | .mk k l,.mk k' l'=>decide (k=k')&&Ty.sames l l'
def Ty.sames:List Ty→List Ty→Bool
 | [],[]=>true
 | a :: l,b :: l'=>Ty.same a b&&Ty.sames l l'
 | _,_=>false
end
theorem Ty.sames_length:∀ (l l':List Ty),Ty.sames l l'=true→l.length=l'.length
 | [],[],_=>rfl
 | a :: l,b :: l',h=>by
   simp only [Ty.sames,Bool.and_eq_true] at h
   simp [Ty.sames_length l l' h.2]
 | [],_ :: _,h=>by simp [Ty.sames] at h
 | _ :: _,[],h=>by simp [Ty.sames] at h
theorem Ty.sames_drop:∀ (l l':List Ty) (k:Nat) (h:k<l.length) (h':k<l'.length),Ty.sames (l.drop k) (l'.drop k)=(Ty.same (l[k]'h) (l'[k]'h')&&Ty.sames (l.drop (k+1)) (l'.drop (k+1))):=by
 intro l l' k h h'
 rw [List.drop_eq_getElem_cons h,List.drop_eq_getElem_cons h']
 simp only [Ty.sames]
inductive TyAt (w:World):Value→Ty→Prop
 | mk (k:Int) (A:Option Addr) (c:Nat) (l:List Ty) (vs:Nat→Value) (hn:l.length≤1152921504606846976)
    (h0:∀ i,(h:i<l.length)→∃ ad k' s',A=some ad∧w.cell? (ad.add (2*i))=some (.int .i64 k')∧w.cell? (ad.add (2*i+1))=some s'∧vs i=.agg #[.int .i64 k',s'])
    (h1:∀ i,(h:i<l.length)→TyAt w (vs i) (l[i]'h)):TyAt w (.agg #[.int .i64 k,.slice A l.length c]) (.mk k l)
theorem TyAt.later {w w':World} {v:Value} {t:Ty} (h:TyAt w v t) (hb:Below w.heap.size w w'):TyAt w' v t:=by
 induction h with
 | mk k A c l vs hn h0 h1 ih=>
   refine .mk k A c l vs hn (fun i hi=>?_) ih
   obtain ⟨ad,k',s',e,c1,c2,hv⟩:=h0 i hi
   exact ⟨ad,k',s',e,by rw [hb.cell (World.block_lt_of_cell? w _ c1)];exact c1,by rw [hb.cell (World.block_lt_of_cell? w _ c2)];exact c2,hv⟩
theorem TyAt.form {w:World} {v:Value} {t:Ty} (h:TyAt w v t):∃ A c,v=.agg #[.int .i64 t.kind,.slice A t.of.length c]:=by
 cases h with
 | mk k A c l vs hn h0 h1=>exact ⟨A,c,rfl⟩
theorem TyAt.bound {w:World} {v:Value} {t:Ty} (h:TyAt w v t):t.of.length≤1152921504606846976:=by
 cases h with
 | mk k A c l vs hn h0 h1=>exact hn
theorem TyAt.elem {w:World} {k:Int} {A:Option Addr} {n c:Nat} {t:Ty} (h:TyAt w (.agg #[.int .i64 k,.slice A n c]) t) (i:Nat) (hi:i<t.of.length) :
 ∃ ad k' s',A=some ad∧w.cell? (ad.add (2*i))=some (.int .i64 k')∧w.cell? (ad.add (2*i+1))=some s'∧TyAt w (.agg #[.int .i64 k',s']) (t.of[i]'hi):=by
 generalize hv:Value.agg #[.int .i64 k,.slice A n c]=v at h
 cases h with
 | mk k2 A2 c2 l vs hn h0 h1=>
   injection hv with hv
   injection hv with hv
   injection hv with e1 e2
   injection e2 with e2 _
   injection e2 with e2 _ _
   subst e2
   obtain ⟨ad,k',s',e,c1,c2,aP⟩:=h0 i hi
   refine ⟨ad,k',s',e,c1,c2, ?_⟩
   rw [← aP]
   exact h1 i hi
theorem Ty.eta (t:Ty):t=.mk t.kind t.of:=by cases t;rfl
theorem Ty.elem_lt (t:Ty) (i:Nat) (hi:i<t.of.length):SizeOf.sizeOf (t.of[i]'hi)<SizeOf.sizeOf t:=by
 cases t with
 | mk k l=>
   have:=List.sizeOf_lt_of_mem (List.getElem_mem hi)
   simp only [Ty.of,Ty.mk.sizeOf_spec] at this ⊢
   omega
end
end Go.Proofs.YtihodcnnappkbaaGreatDoor
