/-
  What the second form's bound gives: the bulk of a list of data is at least its length. No condition. How what lies in a struct's field reads: a slice of bytes. No condition. How an argument that is a frame reads: as a frame, where it holds no more than so many values and letters. No condition. How an argument that is a frame reads, part two: values, columns, frames. No condition. How an argument that is a frame reads, part three: the frame. No condition. How an argument that is a list of frames with their places reads. No condition. How an argument that is an index, a numbered schema reads. No condition.
-/
import Derived.Test.YtihodcnnappkbaaGreatDoorRows
import Derived.Test.YtihodcnnappkbaaGreatDoorG10
import Derived.Lib.SmallJoins
import Derived.Test.YtihodcnnappkbaaGreatDoorG7
import Derived.Deep.Slices
import Derived.Test.YtihodcnnappkbaaGreatDoorG27
set_option linter.unusedVariables false
set_option linter.unusedSimpArgs false
set_option maxRecDepth 20000
namespace Go.Proofs.YtihodcnnappkbaaGreatDoor
theorem bulk_one {H:Type} (d:DataW H):1≤Rows.uptoBulk d:=by
 cases d with
 | lit l=>cases l <;> simp [Rows.uptoBulk]
 | nil=>simp [Rows.uptoBulk]
 | ptr d=>simp [Rows.uptoBulk]
 | slice elems spare=>simp [Rows.uptoBulk]
 | agg parts=>simp [Rows.uptoBulk]
 | iface t d=>simp [Rows.uptoBulk]
 | map entries=>simp [Rows.uptoBulk]
 | held h=>simp [Rows.uptoBulk]
theorem bulk_length {H:Type} (l:List (DataW H)):l.length≤Rows.uptoBulkAll l:=by
 induction l with
 | nil=>simp [Rows.uptoBulkAll]
 | cons x r ih=>have:=bulk_one x;simp only [Rows.uptoBulkAll,List.length_cons];omega
theorem bulk_mem {H:Type} {d:DataW H} {l:List (DataW H)} (h:d∈l):Rows.uptoBulk d≤Rows.uptoBulkAll l:=by
 induction l with
 | nil=>cases h
 | cons x r ih=>
   simp only [Rows.uptoBulkAll]
   cases List.mem_cons.1 h with
   | inl e=>subst e;omega
   | inr e=>have:=ih e;omega
section
open Go.RowKit Go.ChangeShapes Go.WideShapes Go.ChangeAt Go.WideElems
theorem open_bytes_at {H:Type} {enc:TypeId×Value→H} {P:Program} {W:World} {t e:TypeId} {v:Value} {y:DataW H×List MemPlace} {fuel:Nat} (ht:P.underlying t=some (.slice e)) (he:P.underlying e=some (.int .u8)) (hc:P.cellsOf e=1)
 (h:DataW.trod enc P W 0 (fun _=>true) true fuel t [v]=some y) :
 ∃ A c l,v=.slice A l.length c∧Reads W A l∧l.length≤c∧c≤9223372036854775807∧((y.1=.nil∧l=[])∨∃ xs ys,y.1=.slice xs ys∧xs.length=l.length∧l.length+ys.length=c):=by
 rcases open_ints ht he hc h with ⟨a4,hx⟩ | ⟨a,len,cap,zs,a4,_,hl,hm,hz,hx,ao,aQ⟩
 · simp at a4
   subst a4
   exact ⟨none,0,[],rfl,Reads.nil _ _,by simp,by omega,.inl ⟨by rw [hx],rfl⟩⟩
 · simp at a4
   subst a4
   have b1:zs.length=cap:=by simpa using hz
   obtain ⟨l,aJ,aU⟩:=bytes_of_ints (zs.take len) (fun n hn=>aQ n (List.mem_of_mem_take hn))
   have a7:l.length=len:=by rw [aJ,List.length_take];omega
   refine ⟨some a,cap,l,by rw [a7], ?_,by omega,by simpa [maxLen] using hm,.inr ⟨_,_,by rw [hx],by simp [lits,aJ],by simp [lits];omega⟩⟩
   intro i u hu
   have hi:i<l.length:=by
    rcases Nat.lt_or_ge i l.length with h | h
    · exact h
    · rw [List.getElem?_eq_none (by rw [u8s_length];exact h)] at hu;cases hu
   rw [u8s_get l i hi] at hu
   cases hu
   refine ⟨a,rfl, ?_⟩
   have:=ao i (by omega)
   rw [this,aU i hi]
   simp [List.getD_eq_getElem?_getD,show i<len by omega]
end
section
open Go.RowKit Go.ChangeShapes Go.WideShapes Go.ChangeAt Go.WideElems
section
variable {H:Type} {enc:TypeId×Value→H} {W:World}
noncomputable abbrev rd (enc:TypeId×Value→H) (W:World):=DataW.trod enc Tryz.prog W 0 (fun _=>true) true
theorem slice_open {α:Type} {t e:TypeId} {k N:Nat} (ht:Tryz.prog.underlying t=some (.slice e)) (hk:Tryz.prog.cellsOf e=k) {fuel:Nat} {cs:List Value} {x:DataW H×List MemPlace} (h:rd enc W fuel t cs=some x) (hb:Rows.uptoBulk x.1≤N)
 (R:List Value→α→Prop) (each:∀ n,n<fuel→∀ ce y,rd enc W n e ce=some y→Rows.uptoBulk y.1≤N→∃ a:α,R ce a) :
 ∃ (A:Option Addr) (len cap:Nat) (l:List α),cs=[.slice A len cap]∧l.length=len∧len≤N∧len≤cap∧cap≤maxLen ∧
   ∀ i (hi:i<l.length),∃ ad ce,A=some ad∧ce.length=k∧(∀ j,j<k→W.cell? (ad.add (k*i+j))=ce[j]?)∧R ce (l[i]'hi):=by
 rcases DataW.trod_slice ht h with ⟨a4,hx⟩ | ⟨a,len,cap,elems,rest,n,hf,a4,hx,_,hl,hm,a7,a8,_,_⟩
 · exact ⟨none,0,0,[],a4,rfl,by omega,by omega,by unfold maxLen;omega,fun i hi=>absurd hi (by simp)⟩
 · subst hx
   simp only [Rows.uptoBulk] at hb
   have aM:=bulk_length (elems.map (·.1))
   rw [List.length_map,a7] at aM
   have each':∀ i,i<len→∃ p:List Value×α,p.1.length=k∧(∀ j,j<k→W.cell? (a.add (k*i+j))=p.1[j]?)∧R p.1 p.2:=by
    intro i hi
    have h1:=a8 i hi
    have ay:i<elems.length:=by omega
    rw [List.getElem?_eq_getElem ay,hk] at h1
    obtain ⟨ce,a6,aP⟩:=Option.bind_eq_some_iff.1 h1
    obtain ⟨_,aO,aX⟩:=World.cells?_some a6
    have au:(elems[i]'ay).1∈elems.map (·.1):=List.mem_map.2 ⟨_,List.getElem_mem ay,rfl⟩
    have b3:=bulk_mem au
    obtain ⟨p,hp⟩:=each n (by omega) ce _ aP (by omega)
    refine ⟨(ce,p),aO,fun j hj=>?_,hp⟩
    have:=aX j hj
    rw [addr_add_add] at this
    rw [Nat.mul_comm k i]
    exact this
   by_cases h0:len=0
   · exact ⟨some a,len,cap,[],a4,by simp [h0],by omega,hl,hm,fun i hi=>absurd hi (by simp)⟩
   · haveI:Inhabited (List Value×α):=⟨(each' 0 (by omega)).choose⟩
     obtain ⟨g,hg⟩:=Deep.choose_lt each'
     refine ⟨some a,len,cap,(List.range len).map fun i=>(g i).2,a4,by simp,by omega,hl,hm,fun i hi=>?_⟩
     have aS:i<len:=by simpa using hi
     obtain ⟨g1,g2,g3⟩:=hg i aS
     refine ⟨a,(g i).1,rfl,g1,g2, ?_⟩
     simpa using g3
theorem list2 {cs:List Value} (h:cs.length=2):∃ a b,cs=[a,b]:=by
 match cs,h with
 | [a,b],_=>exact ⟨a,b,rfl⟩
theorem xs_get {β:Type} {xs:List β} {n i:Nat} (h:xs.length=n) (hi:i<n):∃ y,xs[i]? = some y∧y∈xs:=⟨xs[i]'(by omega),List.getElem?_eq_getElem _,List.getElem_mem _⟩
theorem part_bulk {xs:List (DataW H×List MemPlace)} {y:DataW H×List MemPlace} {N:Nat} (hy:y∈xs) (hb:Rows.uptoBulk (.agg (xs.map (·.1)):DataW H)≤N):Rows.uptoBulk y.1≤N:=by
 simp only [Rows.uptoBulk] at hb
 have:=bulk_mem (List.mem_map.2 ⟨y,hy,rfl⟩:y.1∈xs.map (·.1))
 omega
theorem cells_int:Tryz.prog.cellsOf 3=1:=by kernel_rfl
theorem cells_i64:Tryz.prog.cellsOf 2=1:=by kernel_rfl
theorem cells_bool:Tryz.prog.cellsOf 4=1:=by kernel_rfl
theorem cells_str:Tryz.prog.cellsOf 9=1:=by kernel_rfl
theorem cells_f64:Tryz.prog.cellsOf 98=1:=by kernel_rfl
theorem cells_u8:Tryz.prog.cellsOf 5=1:=by kernel_rfl
theorem cells_type:Tryz.prog.cellsOf 97=2:=by kernel_rfl
theorem cells_types:Tryz.prog.cellsOf 95=1:=by kernel_rfl
theorem cells_value:Tryz.prog.cellsOf 101=5:=by kernel_rfl
theorem cells_values:Tryz.prog.cellsOf 99=1:=by kernel_rfl
theorem cells_col:Tryz.prog.cellsOf 103=9:=by kernel_rfl
theorem cells_cols:Tryz.prog.cellsOf 28=1:=by kernel_rfl
theorem cells_sch:Tryz.prog.cellsOf 30=1:=by kernel_rfl
theorem cells_ent:Tryz.prog.cellsOf 78=3:=by kernel_rfl
theorem cells_ents:Tryz.prog.cellsOf 32=1:=by kernel_rfl
theorem cells_ix:Tryz.prog.cellsOf 34=4:=by kernel_rfl
theorem cells_bytes:Tryz.prog.cellsOf 31=1:=by kernel_rfl
theorem cells_frame:Tryz.prog.cellsOf 36=11:=by kernel_rfl
theorem i64_bounds {n:Int} (h:(Lit.int .i64 n).wf=true):-9223372036854775808≤n∧n≤9223372036854775807:=by
 simpa [Lit.wf,IntKind.min,IntKind.max,IntKind.signed,IntKind.bits] using h
theorem trod_f64 {fuel:Nat} {t:TypeId} {cs:List Value} {x:DataW H×List MemPlace} (ht:Tryz.prog.underlying t=some (.float .f64)) (h:rd enc W fuel t cs=some x):∃ f,cs=[.float .f64 f]∧f<18446744073709551616:=by
 cases fuel with
 | zero=>simp [rd,DataW.trod] at h
 | succ n=>
   unfold rd DataW.trod at h
   rw [ht] at h
   match cs,h with
   | [.float k' b],h=>
     simp only at h
     split at h
     · rename_i hk
       obtain ⟨rfl,hw⟩:=hk
       exact ⟨b,rfl,by simpa [Lit.wf] using hw⟩
     · cases h
theorem open_type (N:Nat) (hN:N≤1048576):∀ (fuel:Nat) (cs:List Value) (x:DataW H×List MemPlace),rd enc W fuel 97 cs=some x→Rows.uptoBulk x.1≤N →
 ∃ (t:Ty) (A:Option Addr) (c:Nat),cs=[.int .i64 t.kind,.slice A t.of.length c]∧TyAt W (.agg #[.int .i64 t.kind,.slice A t.of.length c]) t:=by
 intro fuel
 induction fuel using Nat.strongRecOn with
 | _ fuel ih=>
   intro cs x h hb
   obtain ⟨xs,n,hf,rfl,a3,a2,a0⟩:=DataW.trod_struct Tryz.underlying97 h
   rw [cells_type] at a3
   obtain ⟨c0,c1,rfl⟩:=list2 a3
   have a2:xs.length=2:=a2
   obtain ⟨y0,e0,m0⟩:=xs_get (i:=0) a2 (by omega)
   obtain ⟨y1,e1,m1⟩:=xs_get (i:=1) a2 (by omega)
   have t0:rd enc W n 3 (([c0,c1].drop 0).take (Tryz.prog.cellsOf 3))=xs[0]?:=a0 0 _ rfl
   have t1:rd enc W n 95 (([c0,c1].drop 1).take (Tryz.prog.cellsOf 95))=xs[1]?:=a0 1 _ rfl
   rw [cells_int,e0] at t0
   rw [cells_types,e1] at t1
   simp only [List.drop_zero,List.drop_succ_cons,List.take_succ_cons,List.take_zero] at t0 t1
   obtain ⟨kd,hk,_,_⟩:=DataW.trod_int Tryz.underlying3 t0
   simp only [List.cons.injEq,and_true] at hk
   subst hk
   obtain ⟨A,len,cap,l,a4,rfl,ah,_,_,a8⟩:=slice_open (N:=N) Tryz.underlying95 cells_type t1 (part_bulk m1 hb) (fun ce (t:Ty)=>∃ (A:Option Addr) (c:Nat),ce=[.int .i64 t.kind,.slice A t.of.length c]∧TyAt W (.agg #[.int .i64 t.kind,.slice A t.of.length c]) t)
    (fun m hm ce y hy ac=>ih m (by omega) ce y hy ac)
   simp only [List.cons.injEq,and_true] at a4
   subst a4
   have each:∀ i,i<l.length→∃ v:Value,(∃ ad k' s',A=some ad∧W.cell? (ad.add (2*i))=some (.int .i64 k')∧W.cell? (ad.add (2*i+1))=some s'∧v=.agg #[.int .i64 k',s'])∧∀ hi:i<l.length,TyAt W v (l[i]'hi):=by
    intro i hi
    obtain ⟨ad,ce,hA,_,hc,A',c',a6,hT⟩:=a8 i hi
    have q0:=hc 0 (by omega)
    have q1:=hc 1 (by omega)
    rw [a6] at q0 q1
    exact ⟨_,⟨ad,_,_,hA,q0,q1,rfl⟩,fun _=>hT⟩
   obtain ⟨vs,ai⟩:=Deep.choose_lt each
   refine ⟨.mk kd l,A,cap,rfl, ?_⟩
   exact TyAt.mk kd A cap l vs (by omega) (fun i hi=>(ai i hi).1) (fun i hi=>(ai i hi).2 hi)
end
section
variable {H:Type} {enc:TypeId×Value→H} {W:World}
theorem list5 {cs:List Value} (h:cs.length=5):∃ a b c d e,cs=[a,b,c,d,e]:=by
 match cs,h with
 | [a,b,c,d,e],_=>exact ⟨a,b,c,d,e,rfl⟩
theorem list3 {cs:List Value} (h:cs.length=3):∃ a b c,cs=[a,b,c]:=by
 match cs,h with
 | [a,b,c],_=>exact ⟨a,b,c,rfl⟩
theorem list4 {cs:List Value} (h:cs.length=4):∃ a b c d,cs=[a,b,c,d]:=by
 match cs,h with
 | [a,b,c,d],_=>exact ⟨a,b,c,d,rfl⟩
theorem list9 {cs:List Value} (h:cs.length=9):∃ a b c d e f g i j,cs=[a,b,c,d,e,f,g,i,j]:=by
 match cs,h with
 | [a,b,c,d,e,f,g,i,j],_=>exact ⟨a,b,c,d,e,f,g,i,j,rfl⟩
theorem list11 {cs:List Value} (h:cs.length=11):∃ a b c d e f g i j k l,cs=[a,b,c,d,e,f,g,i,j,k,l]:=by
 match cs,h with
 | [a,b,c,d,e,f,g,i,j,k,l],_=>exact ⟨a,b,c,d,e,f,g,i,j,k,l,rfl⟩
def VaIs (W:World) (ce:List Value) (v:Va):Prop:=
 ∃ (A:Option Addr) (c:Nat),ce=[.int .i64 v.kind,.int .i64 v.int,.float .f64 v.fl,.string v.text,.slice A v.items.length c]∧VaAt W (.agg #[.int .i64 v.kind,.int .i64 v.int,.float .f64 v.fl,.string v.text,.slice A v.items.length c]) v∧v.wf
theorem wfs_of:∀ (l:List Va),(∀ i (hi:i<l.length),(l[i]'hi).wf)→Va.wfs l
 | [],_=>by simp [Va.wfs]
 | v :: l,h=>by
   rw [Va.wfs]
   exact ⟨h 0 (by simp),wfs_of l fun i hi=>h (i+1) (by simpa using hi)⟩
theorem open_value (N:Nat) (hN:N≤1048576):∀ (fuel:Nat) (cs:List Value) (x:DataW H×List MemPlace),rd enc W fuel 101 cs=some x→Rows.uptoBulk x.1≤N→∃ v:Va,VaIs W cs v:=by
 intro fuel
 induction fuel using Nat.strongRecOn with
 | _ fuel ih=>
   intro cs x h hb
   obtain ⟨xs,n,hf,rfl,a3,a2,a0⟩:=DataW.trod_struct Tryz.underlying101 h
   rw [cells_value] at a3
   obtain ⟨c0,c1,c2,c3,c4,rfl⟩:=list5 a3
   have a2:xs.length=5:=a2
   obtain ⟨y0,e0,m0⟩:=xs_get (i:=0) a2 (by omega)
   obtain ⟨y1,e1,m1⟩:=xs_get (i:=1) a2 (by omega)
   obtain ⟨y2,e2,m2⟩:=xs_get (i:=2) a2 (by omega)
   obtain ⟨y3,e3,m3⟩:=xs_get (i:=3) a2 (by omega)
   obtain ⟨y4,e4,m4⟩:=xs_get (i:=4) a2 (by omega)
   have t0:rd enc W n 3 (([c0,c1,c2,c3,c4].drop 0).take (Tryz.prog.cellsOf 3))=xs[0]?:=a0 0 _ rfl
   have t1:rd enc W n 2 (([c0,c1,c2,c3,c4].drop 1).take (Tryz.prog.cellsOf 2))=xs[1]?:=a0 1 _ rfl
   have t2:rd enc W n 98 (([c0,c1,c2,c3,c4].drop 2).take (Tryz.prog.cellsOf 98))=xs[2]?:=a0 2 _ rfl
   have t3:rd enc W n 9 (([c0,c1,c2,c3,c4].drop 3).take (Tryz.prog.cellsOf 9))=xs[3]?:=a0 3 _ rfl
   have t4:rd enc W n 99 (([c0,c1,c2,c3,c4].drop 4).take (Tryz.prog.cellsOf 99))=xs[4]?:=a0 4 _ rfl
   rw [cells_int,e0] at t0
   rw [cells_i64,e1] at t1
   rw [cells_f64,e2] at t2
   rw [cells_str,e3] at t3
   rw [cells_values,e4] at t4
   simp only [List.drop_zero,List.drop_succ_cons,List.take_succ_cons,List.take_zero] at t0 t1 t2 t3 t4
   obtain ⟨kd,hk,_,_⟩:=DataW.trod_int Tryz.underlying3 t0
   obtain ⟨ii,hi,_,wi⟩:=DataW.trod_int Tryz.underlying2 t1
   obtain ⟨ff,aC,wf⟩:=trod_f64 Tryz.underlying98 t2
   obtain ⟨tx,aA,_,_⟩:=DataW.trod_string Tryz.underlying9 t3
   simp only [List.cons.injEq,and_true] at hk hi aC aA
   subst hk hi aC aA
   obtain ⟨A,len,cap,l,a4,rfl,ah,_,_,a8⟩:=slice_open (N:=N) Tryz.underlying99 cells_value t4 (part_bulk m4 hb) (VaIs W) (fun m hm ce y hy ac=>ih m (by omega) ce y hy ac)
   simp only [List.cons.injEq,and_true] at a4
   subst a4
   have each:∀ j,j<l.length→∃ v:Value,(∃ ad k' i' f' t' s',A=some ad∧W.cell? (ad.add (5*j))=some (.int .i64 k')∧W.cell? (ad.add (5*j+1))=some (.int .i64 i')∧W.cell? (ad.add (5*j+2))=some (.float .f64 f') ∧
    W.cell? (ad.add (5*j+3))=some (.string t')∧W.cell? (ad.add (5*j+4))=some s'∧v=.agg #[.int .i64 k',.int .i64 i',.float .f64 f',.string t',s'])∧∀ hj:j<l.length,VaAt W v (l[j]'hj)∧(l[j]'hj).wf:=by
    intro j hj
    obtain ⟨ad,ce,hA,_,hc,A',c',a6,hT,hw⟩:=a8 j hj
    have q0:=hc 0 (by omega)
    have q1:=hc 1 (by omega)
    have q2:=hc 2 (by omega)
    have q3:=hc 3 (by omega)
    have q4:=hc 4 (by omega)
    rw [a6] at q0 q1 q2 q3 q4
    exact ⟨_,⟨ad,_,_,_,_,_,hA,q0,q1,q2,q3,q4,rfl⟩,fun _=>⟨hT,hw⟩⟩
   obtain ⟨vs,ai⟩:=Deep.choose_lt each
   refine ⟨.mk kd ii ff tx l,A,cap,rfl,VaAt.mk kd ii ff tx A cap l vs (by omega) (fun j hj=>(ai j hj).1) (fun j hj=>((ai j hj).2 hj).1), ?_⟩
   rw [Va.wf]
   have:=i64_bounds wi
   exact ⟨this.1,this.2,wf,wfs_of l fun j hj=>((ai j hj).2 hj).2⟩
def ColIs (W:World) (N:Nat) (ce:List Value) (c:Col):Prop:=
 ∃ x0 x1 x2 x3 x4 x5 x6 x7 x8,ce=[x0,x1,x2,x3,x4,x5,x6,x7,x8]∧ColC W (fun b=>b<W.heap.size) x0 x1 x2 x3 x4 x5 x6 x7 x8 c∧c.dflt.wf∧c.name.size≤N
theorem open_col (N:Nat) (hN:N≤1048576) (fuel:Nat) (cs:List Value) (x:DataW H×List MemPlace) (h:rd enc W fuel 103 cs=some x) (hb:Rows.uptoBulk x.1≤N):∃ c:Col,ColIs W N cs c:=by
 obtain ⟨xs,n,hf,rfl,a3,a2,a0⟩:=DataW.trod_struct Tryz.underlying103 h
 rw [cells_col] at a3
 obtain ⟨c0,c1,c2,c3,c4,c5,c6,c7,c8,rfl⟩:=list9 a3
 have a2:xs.length=4:=a2
 obtain ⟨y0,e0,m0⟩:=xs_get (i:=0) a2 (by omega)
 obtain ⟨y1,e1,m1⟩:=xs_get (i:=1) a2 (by omega)
 obtain ⟨y2,e2,m2⟩:=xs_get (i:=2) a2 (by omega)
 obtain ⟨y3,e3,m3⟩:=xs_get (i:=3) a2 (by omega)
 have t0:rd enc W n 9 (([c0,c1,c2,c3,c4,c5,c6,c7,c8].drop 0).take (Tryz.prog.cellsOf 9))=xs[0]?:=a0 0 _ rfl
 have t1:rd enc W n 97 (([c0,c1,c2,c3,c4,c5,c6,c7,c8].drop 1).take (Tryz.prog.cellsOf 97))=xs[1]?:=a0 1 _ rfl
 have t2:rd enc W n 4 (([c0,c1,c2,c3,c4,c5,c6,c7,c8].drop 3).take (Tryz.prog.cellsOf 4))=xs[2]?:=a0 2 _ rfl
 have t3:rd enc W n 101 (([c0,c1,c2,c3,c4,c5,c6,c7,c8].drop 4).take (Tryz.prog.cellsOf 101))=xs[3]?:=a0 3 _ rfl
 rw [cells_str,e0] at t0
 rw [cells_type,e1] at t1
 rw [cells_bool,e2] at t2
 rw [cells_value,e3] at t3
 simp only [List.drop_zero,List.drop_succ_cons,List.take_succ_cons,List.take_zero] at t0 t1 t2 t3
 obtain ⟨s,hs,b0,_⟩:=DataW.trod_string Tryz.underlying9 t0
 obtain ⟨bo,aK,_⟩:=DataW.trod_bool Tryz.underlying4 t2
 obtain ⟨ty,A,c,ht,aW⟩:=open_type N hN n _ _ t1 (part_bulk m1 hb)
 obtain ⟨v,B,d,hv,aZ,aR⟩:=open_value N hN n _ _ t3 (part_bulk m3 hb)
 simp only [List.cons.injEq,and_true] at hs aK ht hv
 obtain ⟨rfl,rfl⟩:=ht
 obtain ⟨rfl,rfl,rfl,rfl,rfl⟩:=hv
 subst hs aK
 have aF:=part_bulk m0 hb
 rw [b0] at aF
 simp only [Rows.uptoBulk] at aF
 have aE:s.data.toList.length=s.size:=rfl
 exact ⟨⟨s,ty,bo,v⟩,_,_,_,_,_,_,_,_,_,rfl,⟨rfl,rfl,rfl,rfl,rfl,rfl,rfl,TyS.of_at aW,VaS.of_at aZ⟩,aR,by show s.size≤N;omega⟩
end
theorem row_flat {W:World} {A:Option Addr} {k len:Nat} (hk:0<k) (ce:Nat→List Value) (hl:∀ i,i<len→(ce i).length=k) (hc:∀ i,i<len→∃ ad,A=some ad∧∀ r,r<k→W.cell? (ad.add (k*i+r))=(ce i)[r]?) :
 ∃ xs:List Value,xs.length=k*len∧RowAt W A xs∧∀ j,j<len→∀ r,r<k→xs[k*j+r]? = (ce j)[r]?:=by
 have ab:∀ i,i<k*len→((List.range (k*len)).map fun i=>((ce (i / k))[i % k]?).getD .nilIface)[i]? = (ce (i / k))[i % k]?:=by
  intro i hi
  have hj:i / k<len:=by rw [Nat.div_lt_iff_lt_mul hk,Nat.mul_comm];exact hi
  have hr:i % k<(ce (i / k)).length:=by rw [hl _ hj];exact Nat.mod_lt _ hk
  simp [hi,List.getElem?_eq_getElem hr]
 refine ⟨(List.range (k*len)).map fun i=>((ce (i / k))[i % k]?).getD .nilIface,by simp, ?_, ?_⟩
 · intro i v hv
   have hi:i<k*len:=by
    rcases Nat.lt_or_ge i (k*len) with h | h
    · exact h
    · rw [List.getElem?_eq_none (by simpa using h)] at hv;cases hv
   have hj:i / k<len:=by rw [Nat.div_lt_iff_lt_mul hk,Nat.mul_comm];exact hi
   rw [ab i hi] at hv
   obtain ⟨ad,hA,hr⟩:=hc _ hj
   refine ⟨ad,hA, ?_⟩
   have:=hr (i % k) (Nat.mod_lt _ hk)
   rw [Nat.div_add_mod] at this
   rw [this,hv]
 · intro j hj r hr
   have hi:k*j+r<k*len:=by
    have:k*(j+1)≤k*len:=Nat.mul_le_mul_left _ hj
    rw [Nat.mul_add] at this
    omega
   rw [ab _ hi,Nat.mul_add_div hk,Nat.div_eq_of_lt hr,Nat.add_zero,Nat.mul_add_mod,Nat.mod_eq_of_lt hr]
theorem row_low {W:World} {A:Option Addr} {xs:List Value} (h:RowAt W A xs) (hn:xs≠[]):∀ a,A=some a→a.block<W.heap.size:=fun a e=>by
 cases xs with
 | nil=>exact absurd rfl hn
 | cons v xs=>
   obtain ⟨ad,e1,hc⟩:=h 0 v rfl
   rw [e] at e1
   cases e1
   have:=World.block_lt_of_cell? W _ hc
   rwa [addr_add_block] at this
section
variable {H:Type} {enc:TypeId×Value→H} {W:World}
theorem open_cols (N:Nat) (hN:N≤1048576) (fuel:Nat) (cs:List Value) (x:DataW H×List MemPlace) (h:rd enc W fuel 28 cs=some x) (hb:Rows.uptoBulk x.1≤N) :
 ∃ A c l,cs=[.slice A l.length c]∧l.length≤c∧SchS W (fun b=>b<W.heap.size) A l∧(∀ y∈l,y.dflt.wf)∧∀ y∈l,y.name.size≤N:=by
 obtain ⟨A,len,cap,l,rfl,rfl,ah,aj,_,a8⟩:=slice_open (N:=N) Tryz.underlying28 cells_col h hb (ColIs W N) (fun n _ ce y hy ac=>open_col N hN n ce y hy ac)
 have each:∀ i,i<l.length→∃ ce:List Value,(∃ ad,A=some ad∧∀ r,r<9→W.cell? (ad.add (9*i+r))=ce[r]?)∧ce.length=9∧∀ hi:i<l.length,ColIs W N ce (l[i]'hi):=by
  intro i hi
  obtain ⟨ad,ce,hA,aw,hc,hR⟩:=a8 i hi
  exact ⟨ce,⟨ad,hA,hc⟩,aw,fun _=>hR⟩
 obtain ⟨ce,a6⟩:=Deep.choose_lt each
 obtain ⟨xs,a2,al,ab⟩:=row_flat (W:=W) (A:=A) (k:=9) (len:=l.length) (by omega) ce (fun i hi=>(a6 i hi).2.1) (fun i hi=>(a6 i hi).1)
 refine ⟨A,cap,l,rfl,aj,⟨⟨xs,al,a2,fun j hj=>?_⟩,fun a e hn=>?_,by omega⟩,fun y hy=>?_,fun y hy=>?_⟩
 · obtain ⟨x0,x1,x2,x3,x4,x5,x6,x7,x8,aV,az,_⟩:=(a6 j hj).2.2 hj
   have hg:=ab j hj
   rw [aV] at hg
   exact ⟨x0,x1,x2,x3,x4,x5,x6,x7,x8,⟨hg 0 (by omega),hg 1 (by omega),hg 2 (by omega),hg 3 (by omega),hg 4 (by omega),hg 5 (by omega),hg 6 (by omega),hg 7 (by omega),hg 8 (by omega)⟩,az⟩
 · refine row_low al (fun h0=>?_) a e
   have:0<l.length:=List.length_pos_iff.2 hn
   rw [h0] at a2
   simp at a2
   omega
 · obtain ⟨i,hi,rfl⟩:=List.getElem_of_mem hy
   obtain ⟨_,_,_,_,_,_,_,_,_,_,_,hw,_⟩:=(a6 i hi).2.2 hi
   exact hw
 · obtain ⟨i,hi,rfl⟩:=List.getElem_of_mem hy
   obtain ⟨_,_,_,_,_,_,_,_,_,_,_,_,hs⟩:=(a6 i hi).2.2 hi
   exact hs
theorem open_ents (N:Nat) (fuel:Nat) (cs:List Value) (x:DataW H×List MemPlace) (h:rd enc W fuel 32 cs=some x) (hb:Rows.uptoBulk x.1≤N) :
 ∃ A c l,cs=[.slice A l.length c]∧RowAt W A (entCells l)∧l.length≤N∧l.length≤c:=by
 obtain ⟨A,len,cap,l,rfl,rfl,ah,aj,_,a8⟩:=slice_open (N:=N) Tryz.underlying32 cells_ent h hb (fun ce (e:Ent)=>ce=[.int .i64 e.spot,.int .i64 e.row,.int .i64 e.sch]) (fun n _ ce y hy ac=>by
  obtain ⟨xs,n,hf,rfl,a3,a2,a0⟩:=DataW.trod_struct Tryz.underlying78 hy
  rw [cells_ent] at a3
  obtain ⟨c0,c1,c2,rfl⟩:=list3 a3
  have a2:xs.length=3:=a2
  obtain ⟨y0,e0,_⟩:=xs_get (i:=0) a2 (by omega)
  obtain ⟨y1,e1,_⟩:=xs_get (i:=1) a2 (by omega)
  obtain ⟨y2,e2,_⟩:=xs_get (i:=2) a2 (by omega)
  have t0:rd enc W n 2 (([c0,c1,c2].drop 0).take (Tryz.prog.cellsOf 2))=xs[0]?:=a0 0 _ rfl
  have t1:rd enc W n 2 (([c0,c1,c2].drop 1).take (Tryz.prog.cellsOf 2))=xs[1]?:=a0 1 _ rfl
  have t2:rd enc W n 2 (([c0,c1,c2].drop 2).take (Tryz.prog.cellsOf 2))=xs[2]?:=a0 2 _ rfl
  rw [cells_i64,e0] at t0
  rw [cells_i64,e1] at t1
  rw [cells_i64,e2] at t2
  simp only [List.drop_zero,List.drop_succ_cons,List.take_succ_cons,List.take_zero] at t0 t1 t2
  obtain ⟨a,ha,_,_⟩:=DataW.trod_int Tryz.underlying2 t0
  obtain ⟨b,aI,_,_⟩:=DataW.trod_int Tryz.underlying2 t1
  obtain ⟨c,aB,_,_⟩:=DataW.trod_int Tryz.underlying2 t2
  simp only [List.cons.injEq,and_true] at ha aI aB
  subst ha aI aB
  exact ⟨⟨a,b,c⟩,rfl⟩)
 refine ⟨A,cap,l,rfl,fun i v hv=>?_,ah,aj⟩
 have hi:i<3*l.length:=by
  rcases Nat.lt_or_ge i (3*l.length) with h | h
  · exact h
  · rw [List.getElem?_eq_none (by rw [entCells_length];exact h)] at hv;cases hv
 have hj:i / 3<l.length:=by omega
 obtain ⟨ad,ce,hA,_,hc,a6⟩:=a8 _ hj
 obtain ⟨g0,g1,g2⟩:=entCells_get l _ hj
 refine ⟨ad,hA, ?_⟩
 have h3:i=3*(i / 3)∨i=3*(i / 3)+1∨i=3*(i / 3)+2:=by omega
 rw [a6] at hc
 rcases h3 with h3 | h3 | h3
 · rw [h3] at hv ⊢
   rw [g0] at hv
   injection hv with hv
   rw [← hv]
   exact hc 0 (by omega)
 · rw [h3] at hv ⊢
   rw [g1] at hv
   injection hv with hv
   rw [← hv]
   exact hc 1 (by omega)
 · rw [h3] at hv ⊢
   rw [g2] at hv
   injection hv with hv
   rw [← hv]
   exact hc 2 (by omega)
theorem open_frame_cs {N:Nat} (hN:N≤1048576) (fuel:Nat) (ce:List Value) (x:DataW H×List MemPlace) (hf:rd enc W fuel 36 ce=some x) (hb:Rows.uptoBulk x.1≤N) :
 ∃ A c B m E k f,ce=(frCells A c B m E k f).toList∧FrS W (fun b=>b<W.heap.size) A B E f∧f.wf∧f.cols.length≤c∧f.block.length≤m:=by
 obtain ⟨xs,n,_,rfl,a3,a2,a0⟩:=DataW.trod_struct Tryz.underlying36 hf
 rw [cells_frame] at a3
 obtain ⟨c0,c1,c2,c3,c4,c5,c6,c7,c8,c9,c10,rfl⟩:=list11 a3
 have a2:xs.length=8:=a2
 obtain ⟨y0,e0,m0⟩:=xs_get (i:=0) a2 (by omega)
 obtain ⟨y1,e1,m1⟩:=xs_get (i:=1) a2 (by omega)
 obtain ⟨y2,e2,m2⟩:=xs_get (i:=2) a2 (by omega)
 obtain ⟨y3,e3,m3⟩:=xs_get (i:=3) a2 (by omega)
 obtain ⟨y4,e4,m4⟩:=xs_get (i:=4) a2 (by omega)
 obtain ⟨y5,e5,m5⟩:=xs_get (i:=5) a2 (by omega)
 obtain ⟨y6,e6,m6⟩:=xs_get (i:=6) a2 (by omega)
 obtain ⟨y7,e7,m7⟩:=xs_get (i:=7) a2 (by omega)
 have t0:rd enc W n 3 (([c0,c1,c2,c3,c4,c5,c6,c7,c8,c9,c10].drop 0).take (Tryz.prog.cellsOf 3))=xs[0]?:=a0 0 _ rfl
 have t1:rd enc W n 2 (([c0,c1,c2,c3,c4,c5,c6,c7,c8,c9,c10].drop 1).take (Tryz.prog.cellsOf 2))=xs[1]?:=a0 1 _ rfl
 have t2:rd enc W n 30 (([c0,c1,c2,c3,c4,c5,c6,c7,c8,c9,c10].drop 2).take (Tryz.prog.cellsOf 30))=xs[2]?:=a0 2 _ rfl
 have t3:rd enc W n 2 (([c0,c1,c2,c3,c4,c5,c6,c7,c8,c9,c10].drop 3).take (Tryz.prog.cellsOf 2))=xs[3]?:=a0 3 _ rfl
 have t4:rd enc W n 2 (([c0,c1,c2,c3,c4,c5,c6,c7,c8,c9,c10].drop 4).take (Tryz.prog.cellsOf 2))=xs[4]?:=a0 4 _ rfl
 have t5:rd enc W n 3 (([c0,c1,c2,c3,c4,c5,c6,c7,c8,c9,c10].drop 5).take (Tryz.prog.cellsOf 3))=xs[5]?:=a0 5 _ rfl
 have t6:rd enc W n 31 (([c0,c1,c2,c3,c4,c5,c6,c7,c8,c9,c10].drop 6).take (Tryz.prog.cellsOf 31))=xs[6]?:=a0 6 _ rfl
 have t7:rd enc W n 34 (([c0,c1,c2,c3,c4,c5,c6,c7,c8,c9,c10].drop 7).take (Tryz.prog.cellsOf 34))=xs[7]?:=a0 7 _ rfl
 rw [cells_int,e0] at t0
 rw [cells_i64,e1] at t1
 rw [cells_sch,e2] at t2
 rw [cells_i64,e3] at t3
 rw [cells_i64,e4] at t4
 rw [cells_int,e5] at t5
 rw [cells_bytes,e6] at t6
 rw [cells_ix,e7] at t7
 simp only [List.drop_zero,List.drop_succ_cons,List.take_succ_cons,List.take_zero] at t0 t1 t2 t3 t4 t5 t6 t7
 obtain ⟨k0,q0,_,_⟩:=DataW.trod_int Tryz.underlying3 t0
 obtain ⟨k1,q1,_,_⟩:=DataW.trod_int Tryz.underlying2 t1
 obtain ⟨k3,q3,_,_⟩:=DataW.trod_int Tryz.underlying2 t3
 obtain ⟨k4,q4,_,_⟩:=DataW.trod_int Tryz.underlying2 t4
 obtain ⟨k5,q5,_,_⟩:=DataW.trod_int Tryz.underlying3 t5
 obtain ⟨zs,n2,_,rfl,_,af,aa⟩:=DataW.trod_struct Tryz.underlying30 t2
 have af:zs.length=1:=af
 obtain ⟨z0,f0,g0⟩:=xs_get (i:=0) af (by omega)
 have u0:rd enc W n2 28 (([c2].drop 0).take (Tryz.prog.cellsOf 28))=zs[0]?:=aa 0 _ rfl
 rw [cells_cols,f0] at u0
 simp only [List.drop_zero,List.take_succ_cons,List.take_zero] at u0
 obtain ⟨A,cA,cols,hA,a9,ag,ax,ar⟩:=open_cols N hN _ _ _ u0 (part_bulk g0 (part_bulk m2 hb))
 obtain ⟨B,cB,bl,hB,aD,an,_,aY⟩:=open_bytes_at Tryz.underlying31 Tryz.underlying5 cells_u8 t6
 obtain ⟨ws,n7,_,rfl,_,a5,a1⟩:=DataW.trod_struct Tryz.underlying34 t7
 have a5:ws.length=4:=a5
 obtain ⟨v0,r0,p0⟩:=xs_get (i:=0) a5 (by omega)
 obtain ⟨v1,r1,p1⟩:=xs_get (i:=1) a5 (by omega)
 obtain ⟨v2,r2,p2⟩:=xs_get (i:=2) a5 (by omega)
 obtain ⟨v3,r3,p3⟩:=xs_get (i:=3) a5 (by omega)
 have w0:rd enc W n7 2 (([c7,c8,c9,c10].drop 0).take (Tryz.prog.cellsOf 2))=ws[0]?:=a1 0 _ rfl
 have w1:rd enc W n7 2 (([c7,c8,c9,c10].drop 1).take (Tryz.prog.cellsOf 2))=ws[1]?:=a1 1 _ rfl
 have w2:rd enc W n7 2 (([c7,c8,c9,c10].drop 2).take (Tryz.prog.cellsOf 2))=ws[2]?:=a1 2 _ rfl
 have w3:rd enc W n7 32 (([c7,c8,c9,c10].drop 3).take (Tryz.prog.cellsOf 32))=ws[3]?:=a1 3 _ rfl
 rw [cells_i64,r0] at w0
 rw [cells_i64,r1] at w1
 rw [cells_i64,r2] at w2
 rw [cells_ents,r3] at w3
 simp only [List.drop_zero,List.drop_succ_cons,List.take_succ_cons,List.take_zero] at w0 w1 w2 w3
 obtain ⟨j0,s0,_,_⟩:=DataW.trod_int Tryz.underlying2 w0
 obtain ⟨j1,s1,_,_⟩:=DataW.trod_int Tryz.underlying2 w1
 obtain ⟨j2,s2,_,_⟩:=DataW.trod_int Tryz.underlying2 w2
 obtain ⟨E,cE,ents,hE,ap,aL,_⟩:=open_ents N _ _ _ w3 (part_bulk p3 (part_bulk m7 hb))
 simp only [List.cons.injEq,and_true] at q0 q1 q3 q4 q5 hA hB s0 s1 s2 hE
 subst q0 q1 q3 q4 q5 hA hB s0 s1 s2 hE
 have b2:bl.length≤N:=by
  have aH:=part_bulk m6 hb
  rcases aY with ⟨_,rfl⟩ | ⟨xs',ys',e,aT,_⟩
  · simp
  · rw [e] at aH
    simp only [Rows.uptoBulk] at aH
    have:=bulk_length xs'
    omega
 refine ⟨A,cA,B,cB,E,cE,⟨k0,k1,cols,k3,k4,k5,bl,j0,j1,j2,ents⟩,rfl,⟨ag,aD,fun a e hn=>?_,ap,fun a e hn=>?_,by show bl.length≤_;omega,by show ents.length≤_;omega⟩,⟨ax,fun y hy=>by have:=ar y hy;omega⟩,a9,an⟩
 · exact row_low aD (fun h0=>hn (by have:=congrArg List.length h0;rw [u8s_length] at this;exact List.eq_nil_of_length_eq_zero (by simpa using this))) a e
 · exact row_low ap (fun h0=>hn (by have:=congrArg List.length h0;rw [entCells_length] at this;have h3:3*ents.length=0:=this;exact List.eq_nil_of_length_eq_zero (show ents.length=0 by omega))) a e
end
theorem cells_step:Tryz.prog.cellsOf 38=12:=by kernel_rfl
theorem list12 {l:List Value} (h:l.length=12):∃ c0 c1 c2 c3 c4 c5 c6 c7 c8 c9 c10 c11,l=[c0,c1,c2,c3,c4,c5,c6,c7,c8,c9,c10,c11]:=by
 match l,h with
 | [c0,c1,c2,c3,c4,c5,c6,c7,c8,c9,c10,c11],_=>exact ⟨c0,c1,c2,c3,c4,c5,c6,c7,c8,c9,c10,c11,rfl⟩
theorem flat_row {W:World} {A:Option Addr} {n:Nat} (hn:0<n) (rows:List (List Value)) (hl:∀ cs∈rows,cs.length=n) (hc:∀ i cs,rows[i]? = some cs→∃ ad,A=some ad∧∀ r,r<n→W.cell? (ad.add (n*i+r))=cs[r]?):RowAt W A rows.flatten:=by
 intro q v hv
 have a7:∀ l:List (List Value),(∀ cs∈l,cs.length=n)→l.flatten.length=n*l.length:=by
  intro l
  induction l with
  | nil=>intro _;simp
  | cons a l ih=>
    intro h
    rw [List.flatten_cons,List.length_append,ih fun cs hc=>h cs (List.mem_cons_of_mem _ hc),h a (List.mem_cons_self ..),List.length_cons,Nat.mul_add]
    omega
 have hq:q<n*rows.length:=by
  rcases Nat.lt_or_ge q (n*rows.length) with h | h
  · exact h
  · rw [List.getElem?_eq_none (by rw [a7 rows hl];exact h)] at hv;cases hv
 have hi:q / n<rows.length:=by rw [Nat.div_lt_iff_lt_mul hn,Nat.mul_comm];exact hq
 have hr:=Nat.mod_lt q hn
 obtain ⟨ad,e,h⟩:=hc (q / n) _ (List.getElem?_eq_getElem hi)
 refine ⟨ad,e, ?_⟩
 have h2:=rows_get hl (List.getElem?_eq_getElem hi) hr
 have h3:=h (q % n) hr
 rw [Nat.div_add_mod] at h2 h3
 rw [h3,← h2,hv]
section
variable {H:Type} {enc:TypeId×Value→H} {W:World}
theorem open_step (N:Nat) (hN:N≤1048576) (fuel:Nat) (ce:List Value) (y:DataW H×List MemPlace) (h:rd enc W fuel 38 ce=some y) (hb:Rows.uptoBulk y.1≤N):∃ p:Fr×Int,StR W W.heap.size ce p:=by
 obtain ⟨xs,n,_,rfl,a3,a2,a0⟩:=DataW.trod_struct Tryz.underlying38 h
 rw [cells_step] at a3
 obtain ⟨c0,c1,c2,c3,c4,c5,c6,c7,c8,c9,c10,c11,rfl⟩:=list12 a3
 have a2:xs.length=2:=a2
 obtain ⟨y0,e0,m0⟩:=xs_get (i:=0) a2 (by omega)
 obtain ⟨y1,e1,m1⟩:=xs_get (i:=1) a2 (by omega)
 have t0:rd enc W n 36 (([c0,c1,c2,c3,c4,c5,c6,c7,c8,c9,c10,c11].drop 0).take (Tryz.prog.cellsOf 36))=xs[0]?:=a0 0 _ rfl
 have t1:rd enc W n 3 (([c0,c1,c2,c3,c4,c5,c6,c7,c8,c9,c10,c11].drop 11).take (Tryz.prog.cellsOf 3))=xs[1]?:=a0 1 _ rfl
 rw [cells_frame,e0] at t0
 rw [cells_int,e1] at t1
 simp only [List.drop_zero,List.drop_succ_cons,List.take_succ_cons,List.take_zero] at t0 t1
 obtain ⟨k1,q1,_,_⟩:=DataW.trod_int Tryz.underlying3 t1
 obtain ⟨A,c,B,m,E,k,f,q0,hf,hw,av,_⟩:=open_frame_cs hN n _ _ t0 (part_bulk m0 hb)
 simp only [frCells,List.cons.injEq,and_true] at q0 q1
 obtain ⟨rfl,rfl,rfl,rfl,rfl,rfl,rfl,rfl,rfl,rfl,rfl⟩:=q0
 subst q1
 exact ⟨(f,k1),A,c,B,m,E,k,rfl,hf,av,hw⟩
theorem open_steps {N base:Nat} (hN:N≤1048576) {v:Value} {d:DataW H} {ps:List MemPlace} (ak:Value.okWide Tryz.prog W .any base 22 v) (h:DataW.Trod enc Tryz.prog W 0 (fun _=>true) true 22 v d ps) (hb:Rows.uptoBulk d≤N) :
 ∃ A c l,v=.slice A l.length c∧l.length≤c∧Steps W W.heap.size A l∧l.length≤N:=by
 obtain ⟨A0,len0,cap0,rfl⟩:=okWide_slice Tryz.underlying22 ak
 obtain ⟨fuel,hf⟩:=h
 obtain ⟨A,len,cap,l,e,rfl,ah,aj,_,a8⟩:=slice_open (N:=N) Tryz.underlying22 cells_step hf hb (StR W W.heap.size) (fun n _ ce y hy ac=>open_step N hN n ce y hy ac)
 simp only [Value.cells,List.cons.injEq,and_true,Value.slice.injEq] at e
 obtain ⟨rfl,rfl,rfl⟩:=e
 have each:∀ i,i<l.length→∃ ce:List Value,(∃ ad,A0=some ad∧∀ r,r<12→W.cell? (ad.add (12*i+r))=ce[r]?)∧ce.length=12∧∀ hi:i<l.length,StR W W.heap.size ce (l[i]'hi):=by
  intro i hi
  obtain ⟨ad,ce,hA,aw,hc,hR⟩:=a8 i hi
  exact ⟨ce,⟨ad,hA,hc⟩,aw,fun _=>hR⟩
 obtain ⟨ce,a6⟩:=Deep.choose_lt each
 refine ⟨A0,cap0,l,rfl,aj,⟨(List.range l.length).map ce,by simp,fun i cs p hi hp=>?_, ?_⟩,ah⟩
 · obtain ⟨aq,rfl⟩:=List.getElem?_eq_some_iff.1 hp
   rw [List.getElem?_map,List.getElem?_range aq] at hi
   simp only [Option.map_some,Option.some.injEq] at hi
   subst hi
   exact (a6 i aq).2.2 aq
 · refine flat_row (by omega:0<12) _ (fun cs hc=>?_) (fun i cs hi=>?_)
   · obtain ⟨i,hi,rfl⟩:=List.mem_map.1 hc
     exact (a6 i (List.mem_range.1 hi)).2.1
   · have aG:i<l.length:=by
      rcases Nat.lt_or_ge i l.length with h | h
      · exact h
      · rw [List.getElem?_eq_none (by simpa using h)] at hi;cases hi
     rw [List.getElem?_map,List.getElem?_range aG] at hi
     simp only [Option.map_some,Option.some.injEq] at hi
     subst hi
     exact (a6 i aG).1
end
theorem cells_num:Tryz.prog.cellsOf 56=2:=by kernel_rfl
theorem two_list {cs:List Value} (h:cs.length=2):∃ a b,cs=[a,b]:=by
 match cs,h with
 | [a,b],_=>exact ⟨a,b,rfl⟩
section
variable {H:Type} {enc:TypeId×Value→H} {W:World}
theorem open_index {N base:Nat} {v:Value} {d:DataW H} {ps:List MemPlace} (ak:Value.okWide Tryz.prog W .any base 34 v) (h:DataW.Trod enc Tryz.prog W 0 (fun _=>true) true 34 v d ps) (hb:Rows.uptoBulk d≤N) :
 ∃ x0 x1 x2 E m es,v=.agg #[.int .i64 x0,.int .i64 x1,.int .i64 x2,.slice E es.length m]∧RowAt W E (entCells es)∧es.length≤N∧es.length≤m:=by
 obtain ⟨ca,rfl,aE⟩:=okWide_struct Tryz.underlying34 ak
 obtain ⟨fuel,hf⟩:=h
 obtain ⟨ws,n7,_,hx,a3,a5,a1⟩:=DataW.trod_struct Tryz.underlying34 hf
 obtain ⟨rfl,_⟩:=Prod.mk.inj hx
 rw [cells_ix] at a3
 have a4:(Value.agg ca).cells.toList=ca.toList:=rfl
 rw [a4] at a3 a1
 obtain ⟨c7,c8,c9,c10,am⟩:=list4 a3
 rw [am] at a1
 have ae:ca=#[c7,c8,c9,c10]:=by rw [← Array.toArray_toList (xs:=ca),am]
 have a5:ws.length=4:=a5
 obtain ⟨v0,r0,p0⟩:=xs_get (i:=0) a5 (by omega)
 obtain ⟨v1,r1,p1⟩:=xs_get (i:=1) a5 (by omega)
 obtain ⟨v2,r2,p2⟩:=xs_get (i:=2) a5 (by omega)
 obtain ⟨v3,r3,p3⟩:=xs_get (i:=3) a5 (by omega)
 have w0:rd enc W n7 2 (([c7,c8,c9,c10].drop 0).take (Tryz.prog.cellsOf 2))=ws[0]?:=a1 0 _ rfl
 have w1:rd enc W n7 2 (([c7,c8,c9,c10].drop 1).take (Tryz.prog.cellsOf 2))=ws[1]?:=a1 1 _ rfl
 have w2:rd enc W n7 2 (([c7,c8,c9,c10].drop 2).take (Tryz.prog.cellsOf 2))=ws[2]?:=a1 2 _ rfl
 have w3:rd enc W n7 32 (([c7,c8,c9,c10].drop 3).take (Tryz.prog.cellsOf 32))=ws[3]?:=a1 3 _ rfl
 rw [cells_i64,r0] at w0
 rw [cells_i64,r1] at w1
 rw [cells_i64,r2] at w2
 rw [cells_ents,r3] at w3
 simp only [List.drop_zero,List.drop_succ_cons,List.take_succ_cons,List.take_zero] at w0 w1 w2 w3
 obtain ⟨j0,s0,_,_⟩:=DataW.trod_int Tryz.underlying2 w0
 obtain ⟨j1,s1,_,_⟩:=DataW.trod_int Tryz.underlying2 w1
 obtain ⟨j2,s2,_,_⟩:=DataW.trod_int Tryz.underlying2 w2
 obtain ⟨E,cE,ents,hE,ap,aL,aN⟩:=open_ents N _ _ _ w3 (part_bulk p3 hb)
 simp only [List.cons.injEq,and_true] at s0 s1 s2 hE
 subst s0 s1 s2 hE
 exact ⟨j0,j1,j2,E,cE,ents,by rw [ae],ap,aL,aN⟩
theorem open_numbered {N base:Nat} (hN:N≤1048576) {v:Value} {d:DataW H} {ps:List MemPlace} (ak:Value.okWide Tryz.prog W .any base 56 v) (h:DataW.Trod enc Tryz.prog W 0 (fun _=>true) true 56 v d ps) (hb:Rows.uptoBulk d≤N) :
 ∃ nn A c cols,v=.agg #[.int .i64 nn,.slice A cols.length c]∧SchS W (fun b=>b<W.heap.size) A cols∧cols.length≤c∧(∀ y∈cols,y.dflt.wf)∧∀ y∈cols,y.name.size≤N:=by
 obtain ⟨ca,rfl,aE⟩:=okWide_struct Tryz.underlying56 ak
 obtain ⟨fuel,hf⟩:=h
 obtain ⟨ws,n7,_,hx,a3,a5,a1⟩:=DataW.trod_struct Tryz.underlying56 hf
 obtain ⟨rfl,_⟩:=Prod.mk.inj hx
 rw [cells_num] at a3
 have a4:(Value.agg ca).cells.toList=ca.toList:=rfl
 rw [a4] at a3 a1
 obtain ⟨c0,c1,am⟩:=two_list a3
 rw [am] at a1
 have ae:ca=#[c0,c1]:=by rw [← Array.toArray_toList (xs:=ca),am]
 have a5:ws.length=2:=a5
 obtain ⟨v0,r0,p0⟩:=xs_get (i:=0) a5 (by omega)
 obtain ⟨v1,r1,p1⟩:=xs_get (i:=1) a5 (by omega)
 have w0:rd enc W n7 2 (([c0,c1].drop 0).take (Tryz.prog.cellsOf 2))=ws[0]?:=a1 0 _ rfl
 have w1:rd enc W n7 30 (([c0,c1].drop 1).take (Tryz.prog.cellsOf 30))=ws[1]?:=a1 1 _ rfl
 rw [cells_i64,r0] at w0
 rw [cells_sch,r1] at w1
 simp only [List.drop_zero,List.drop_succ_cons,List.take_succ_cons,List.take_zero] at w0 w1
 obtain ⟨j0,s0,_,_⟩:=DataW.trod_int Tryz.underlying2 w0
 obtain ⟨zs,n2,_,rfl,_,af,aa⟩:=DataW.trod_struct Tryz.underlying30 w1
 have af:zs.length=1:=af
 obtain ⟨z0,f0,g0⟩:=xs_get (i:=0) af (by omega)
 have u0:rd enc W n2 28 (([c1].drop 0).take (Tryz.prog.cellsOf 28))=zs[0]?:=aa 0 _ rfl
 rw [cells_cols,f0] at u0
 simp only [List.drop_zero,List.take_succ_cons,List.take_zero] at u0
 obtain ⟨A,cA,cols,hA,a9,ag,ax,ar⟩:=open_cols N hN _ _ _ u0 (part_bulk g0 (part_bulk p1 hb))
 simp only [List.cons.injEq,and_true] at s0 hA
 subst s0 hA
 exact ⟨j0,A,cA,cols,by rw [ae],ag,a9,ax,ar⟩
end
end
end Go.Proofs.YtihodcnnappkbaaGreatDoor
