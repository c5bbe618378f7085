/-
  A step over a map that the round does not write, wherever the iterator lies: an entry that is still to come, whichever the tape says, or none. Condition: the map's stamps lie below its clock. A walk whose map has the same entries in another order: plain. No condition. The walk of a walk's Clone. Condition: it stands for its plain walk. Two pairs of walks, the second a clone of the first: what one is told the other does not see. Condition: as each text says. The walk of the law ScanClones. Condition: the arguments read; the tables are as laid.
-/
import Derived.Test.YtihodcnnappkbaaGreatDoorG14
import Derived.Laws.IdiomRangeMap
import Derived.Test.YtihodcnnappkbaaGreatDoorG15
import Derived.BigRegion
import Derived.Test.YtihodcnnappkbaaGreatDoorG27
import Derived.Test.YtihodcnnappkbaaGreatDoorG24
import Derived.Test.YtihodcnnappkbaaGreatDoorG19
namespace Go.Proofs.YtihodcnnappkbaaGreatDoor
open Go.RowKit
theorem run_next_at {P:Program} (w:World) (r bm since c0:Nat) (seen:Array Nat) (es:Array MapEntry) (clock:Nat) (hr:w.heap[r]? = some (.mapIter (some bm) since seen c0)) (hb:w.heap[bm]? = some (.map es clock)) (bt:∀ x∈es.toList,x.born<since) (dH:since≤c0) :
 ((leftOf es seen).size=0∧∀ ty,(Instr.next (.pointer (some ⟨r,0,none⟩)) false ty).run P w=.ok (.tuple #[.bool false]) w) ∨
 ∃ e∈(leftOf es seen).toList,∃ w':World,(∀ ty,(Instr.next (.pointer (some ⟨r,0,none⟩)) false ty).run P w=.ok (.tuple #[.bool true,e.key,e.val]) w')∧w'.heap[r]? = some (.mapIter (some bm) since (seen.push e.born) clock)∧Touch (At r) w w'∧w'.heap.size=w.heap.size:=by
 have be:∀ ty ty',Instr.next (.pointer (some ⟨r,0,none⟩)) false ty=Instr.next (.pointer (some ⟨r,0,none⟩)) false ty':=fun _ _=>rfl
 suffices h:((leftOf es seen).size=0∧(Instr.next (.pointer (some ⟨r,0,none⟩)) false 0).run P w=.ok (.tuple #[.bool false]) w) ∨
  ∃ e∈(leftOf es seen).toList,∃ w':World,(Instr.next (.pointer (some ⟨r,0,none⟩)) false 0).run P w=.ok (.tuple #[.bool true,e.key,e.val]) w'∧w'.heap[r]? = some (.mapIter (some bm) since (seen.push e.born) clock)∧Touch (At r) w w'∧w'.heap.size=w.heap.size by
  rcases h with ⟨h1,h2⟩ | ⟨e,he,w',h1,h2⟩
  · exact .inl ⟨h1,fun ty=>(be ty 0)▸h2⟩
  · exact .inr ⟨e,he,w',fun ty=>(be ty 0)▸h1,h2⟩
 simp only [Instr.next,getObj,Sem.run_bind,Sem.run,hr,hb,Result.andThen,next_test_false seen es since c0 bt dH,Bool.false_eq_true,if_false]
 unfold leftOf
 have aY:∀ x∈(Array.filter (fun e=>!seen.contains e.born) es).toList,x.born<since:=fun x hx=>bt x (by simp at hx ⊢;exact hx.1)
 generalize Array.filter (fun e=>!seen.contains e.born) es=L at aY ⊢
 have e1:L.filter (fun x=>decide (x.born<since))=L:=Array.filter_eq_self.2 (fun x hx=>by simpa using aY x (by simpa using hx))
 have e2:L.filter (fun x=>decide (x.born≥since))=#[]:=by
  rw [Array.filter_eq_empty_iff]
  intro x hx
  have:=aY x (by simpa using hx)
  simp
  omega
 simp only [e1,e2,Array.append_empty]
 by_cases h0:L.size=0
 · left
   have:L=#[]:=Array.eq_empty_of_size_eq_zero h0
   subst this
   refine ⟨rfl, ?_⟩
   simp [choose,Sem.run,Question.forced]
 · right
   have ee:L.isEmpty=false:=by simp [Array.isEmpty,h0]
   simp only [ee,Bool.false_eq_true,if_false,Array.empty_append,Array.size_map]
   have dI:∃ (j:Nat) (w1:World),j<L.size∧w1.heap=w.heap∧Touch (fun _=>False) w w1∧(choose (Question.mapNext L.size)).run P w=.ok j w1:=by
    by_cases hf:L.size≤1
    · exact ⟨0,w,by omega,rfl,Touch.refl _ w,by simp [choose,Sem.run,Question.forced,hf]⟩
    · exact ⟨_,w.drew,Nat.mod_lt _ (by omega),rfl,(Touch.refl _ w).drew,by
       simp only [choose,Sem.run,Question.forced,decide_eq_true_eq,hf,if_false,Question.cut]
       rfl⟩
   obtain ⟨j,w1,hj,hh,ht,ch⟩:=dI
   have cK:w1.heap[r]? = some (.mapIter (some bm) since seen c0):=by rw [hh];exact hr
   have bu:=fun o=>MapKept.heap_set (o':=o) cK
   refine ⟨L[j],by simp,{ w1 with heap:=w1.heap.setIfInBounds r (.mapIter (some bm) since (seen.push L[j].born) clock) }, ?_,(bu _).1,(ht.mono fun _ _ h=>h.elim).then ⟨rfl,rfl,rfl,by simp,fun k _ hk=>(bu _).2 k (fun e=>hk e)⟩,by simp [hh]⟩
   simp only [ch,Array.getElem?_map,Array.getElem?_eq_getElem hj,Option.map_some,Sem.run_bind,setObj,Sem.run,cK,Result.andThen]
   rfl
theorem run_entry_at {P:Program} (w:World) (r bm since:Nat) (seen:Array Nat) (es:Array MapEntry) (clock:Nat) (e:MapEntry) (hr:w.heap[r]? = some (.mapIter (some bm) since (seen.push e.born) clock)) (hb:w.heap[bm]? = some (.map es clock)) (he:e∈es.toList) (hn:(es.toList.map (·.born)).Nodup) :
 (Instr.entry (.pointer (some ⟨r,0,none⟩))).run P w=.ok (.tuple #[e.key,e.val]) w:=by
 have hf:es.find? (·.born==e.born)=some e:=by rw [← Array.find?_toList];exact find_born e es.toList hn he
 simp only [Instr.entry,getObj,Sem.run_bind,Sem.run,hr,hb,Result.andThen,Array.back?_push,bne_self_eq_false,Bool.false_eq_true,if_false,hf]
 rfl
end Go.Proofs.YtihodcnnappkbaaGreatDoor
namespace Go.Proofs.YtihodcnnappkbaaGreatDoor
open Go.RowKit Go.BigFrame
set_option linter.unusedVariables false
set_option linter.unusedSimpArgs false
structure Wk.Same (k k':Wk):Prop where
 fr:k'.frames=k.frames
 rw:k'.rows=k.rows
 nu:k'.number=k.number
 si:k'.since=k.since
 en:k'.entries=k.entries
 cl:k'.closed=k.closed
 len:k'.ks.length=k'.vs.length
 at_:∀ n,k'.at n=k.at n
 sub:∀ x∈k'.vs,x∈k.vs
theorem keyPos_of {n:Int}:∀ {l:List Int} {i j:Nat},l.Nodup→l[i]? = some n→keyPos n l j=some (i+j)
 | [],i,j,_,h=>by simp at h
 | k :: l,0,j,_,h=>by
   simp only [List.getElem?_cons_zero,Option.some.injEq] at h
   rw [keyPos,if_pos h.symm,Nat.zero_add]
 | k :: l,i+1,j,hn,h=>by
   simp only [List.getElem?_cons_succ] at h
   have hk:¬n=k:=fun e=>(List.nodup_cons.1 hn).1 (e▸List.mem_of_getElem? h)
   rw [keyPos,if_neg hk,keyPos_of (List.nodup_cons.1 hn).2 h]
   congr 1
   omega
theorem nodup_get {x:Nat}:∀ {l:List Nat} {i j:Nat},l.Nodup→l[i]? = some x→l[j]? = some x→i=j
 | [],i,j,_,h,_=>by simp at h
 | a :: l,0,0,_,_,_=>rfl
 | a :: l,0,j+1,hn,h,h'=>by
   simp only [List.getElem?_cons_zero,Option.some.injEq,List.getElem?_cons_succ] at h h'
   exact absurd (List.mem_of_getElem? h') (h▸(List.nodup_cons.1 hn).1)
 | a :: l,i+1,0,hn,h,h'=>by
   simp only [List.getElem?_cons_zero,Option.some.injEq,List.getElem?_cons_succ] at h h'
   exact absurd (List.mem_of_getElem? h) (h'▸(List.nodup_cons.1 hn).1)
 | a :: l,i+1,j+1,hn,h,h'=>by
   simp only [List.getElem?_cons_succ] at h h'
   rw [nodup_get (List.nodup_cons.1 hn).2 h h']
def CopyOf (k:Wk) (es:Array MapEntry) (seen:Array Nat) (k':Wk):Prop:=
 ∀ n,k'.at n=(keyPos n k.ks 0).bind fun j=>(es[j]?).bind fun e=>if seen.contains e.born then k.vs[j]? else none
theorem Wk.put_at2 {k:Wk} (hl:k.ks.length=k.vs.length) (n:Int) (x:List Col×Int) (hn:k.at n=none) (m:Int):(k.put n x).at m=(if m=n then some x else k.at m)∧keyPos n k.ks 0=none:=by
 have hp:keyPos n k.ks 0=none:=by
  cases h:keyPos n k.ks 0 with
  | none=>rfl
  | some j=>
    unfold Wk.at at hn
    rw [h] at hn
    have:=(keyPos_le h).2
    simp only [Option.bind_some] at hn
    rw [List.getElem?_eq_none_iff] at hn
    omega
 refine ⟨?_,hp⟩
 have bw:∀ (l:List Int) (i:Nat),∀ m,m≠n→keyPos m (l++[n]) i=keyPos m l i:=by
  intro l
  induction l with
  | nil=>intro i m hm;simp [keyPos,hm]
  | cons a l ih=>
    intro i m hm
    rw [List.cons_append,keyPos,keyPos,ih (i+1) m hm]
 have ap:∀ (l:List Int) (i:Nat),keyPos n l i=none→keyPos n (l++[n]) i=some (i+l.length):=by
  intro l
  induction l with
  | nil=>intro i _;simp [keyPos]
  | cons a l ih=>
    intro i h
    rw [keyPos] at h
    by_cases e2:n=a
    · rw [if_pos e2] at h;cases h
    · rw [if_neg e2] at h
      rw [List.cons_append,keyPos,if_neg e2,ih (i+1) h,List.length_cons]
      congr 1
      omega
 unfold Wk.put
 rw [hp]
 unfold Wk.at
 simp only
 by_cases h:m=n
 · subst h
   rw [ap _ _ hp,if_pos rfl]
   simp only [Option.bind_some]
   rw [List.getElem?_append_right (by omega),show 0+k.ks.length-k.vs.length=0 by omega]
   rfl
 · rw [if_neg h,bw _ _ m h]
   cases hm:keyPos m k.ks 0 with
   | none=>rfl
   | some i=>
     simp only [Option.bind_some]
     have:=(keyPos_le hm).2
     rw [List.getElem?_append_left (by omega)]
theorem CopyOf.start {k:Wk} {es:Array MapEntry}:CopyOf k es #[] { k with ks:=[],vs:=[] }:=fun n=>by
 unfold Wk.at
 simp only [keyPos]
 cases keyPos n k.ks 0 with
 | none=>rfl
 | some j=>cases es[j]? <;> simp
theorem CopyOf.step {k k':Wk} {es:Array MapEntry} {seen:Array Nat} {clock:Nat} (h:CopyOf k es seen k') (bK:Stamps es clock) (aT:es.toList.map (·.key)=k.ks.map (Value.int .i64)) (hl:k.ks.length=k.vs.length) (da:k'.ks.length=k'.vs.length) (bT:k.ks.Nodup) {e:MapEntry} (he:e∈(leftOf es seen).toList) :
 ∃ (i:Nat) (n:Int) (x:List Col×Int),es.toList[i]? = some e∧e.key=.int .i64 n∧k.ks[i]? = some n∧k.vs[i]? = some x∧keyPos n k'.ks 0=none∧CopyOf k es (seen.push e.born) (k'.put n x):=by
 obtain ⟨h1,h2⟩:=mem_left he
 obtain ⟨i,hi,dJ⟩:=List.getElem_of_mem h1
 have aF:k.ks.length=es.toList.length:=by have:=congrArg List.length aT;simpa using this.symm
 have b8:k.ks[i]? = some (k.ks[i]'(by omega)):=List.getElem?_eq_getElem _
 have aW:k.vs[i]? = some (k.vs[i]'(by omega)):=List.getElem?_eq_getElem _
 have b9:es.toList[i]? = some e:=by rw [List.getElem?_eq_getElem hi,dJ]
 have aw:e.key=.int .i64 (k.ks[i]'(by omega)):=by
  have h3:=congrArg (fun l=>l[i]?) aT
  simp only [List.getElem?_map,b9,b8,Option.map_some] at h3
  injection h3
 generalize k.ks[i]'_=n at b8 aw
 generalize k.vs[i]'_=x at aW
 have aU:=keyPos_of (j:=0) bT b8
 rw [Nat.add_zero] at aU
 have bI:es[i]? = some e:=by rw [← Array.getElem?_toList];exact b9
 have au:k'.at n=none:=by
  rw [h n,aU]
  simp only [Option.bind_some,bI,h2,Bool.false_eq_true,if_false]
 obtain ⟨_,hp⟩:=Wk.put_at2 da n x au n
 refine ⟨i,n,x,b9,aw,b8,aW,hp,fun m=>?_⟩
 rw [(Wk.put_at2 da n x au m).1]
 by_cases hm:m=n
 · subst hm
   rw [if_pos rfl,aU]
   simp only [Option.bind_some,bI]
   rw [if_pos (by simp),aW]
 · rw [if_neg hm,h m]
   cases hq:keyPos m k.ks 0 with
   | none=>rfl
   | some j=>
     simp only [Option.bind_some]
     cases hj:es[j]? with
     | none=>rfl
     | some e2=>
       simp only [Option.bind_some]
       have ds:j≠i:=fun e3=>by
        subst e3
        have h4:=keyPos_at hq
        rw [Nat.sub_zero,b8] at h4
        injection h4 with h4
        exact hm h4.symm
       have hb:¬e2.born=e.born:=fun e3=>by
        have dO:es.toList[j]? = some e2:=by rw [Array.getElem?_toList];exact hj
        have b1:(es.toList.map (·.born))[j]? = some e.born:=by rw [List.getElem?_map,dO,← e3];rfl
        have b2:(es.toList.map (·.born))[i]? = some e.born:=by rw [List.getElem?_map,b9];rfl
        exact ds (nodup_get bK.nd b1 b2)
       rw [contains_push]
       simp [hb]
theorem CopyOf.done {k k':Wk} {es:Array MapEntry} {seen:Array Nat} (h:CopyOf k es seen k') (hl:k.ks.length=k.vs.length) (aT:es.toList.map (·.key)=k.ks.map (Value.int .i64)) (h0:(leftOf es seen).size=0) (n:Int):k'.at n=k.at n:=by
 rw [h n]
 unfold Wk.at
 cases hq:keyPos n k.ks 0 with
 | none=>rfl
 | some j=>
   have aF:k.ks.length=es.size:=by have:=congrArg List.length aT;simpa using this.symm
   have hj:=(keyPos_le hq).2
   have du:es[j]? = some (es[j]'(by omega)):=Array.getElem?_eq_getElem _
   simp only [Option.bind_some,du]
   rw [if_pos (all_seen es seen h0 _ (by simp))]
end Go.Proofs.YtihodcnnappkbaaGreatDoor
namespace Go.Proofs.YtihodcnnappkbaaGreatDoor
open Go.RowKit Go.BigFrame
set_option linter.unusedVariables false
set_option linter.unusedSimpArgs false
attribute [local go_sem] run_storeF
structure CRel (w:World) (S:Nat→Prop) (b since:Nat) (k:Wk) (es:Array MapEntry) (C:Array Value) (wr:World) (seen:Array Nat) (k':Wk) (c0:Nat):Prop where
 it:wr.heap[w.heap.size+1+1]? = some (.mapIter (some b) since seen c0)
 le:since≤c0
 copy:CopyOf k es seen k'
 map:MapS wr (fun j=>(S j∨w.heap.size≤j)∧j≠w.heap.size∧j≠w.heap.size+1+1) (w.heap.size+1) k'.ks k'.vs
 sub:∀ x∈k'.vs,x∈k.vs
 box:wr.heap[w.heap.size]? = some (.cells C 82 (0,0))
 keeps:Keeps w wr
set_option maxRecDepth 20000 in
set_option maxHeartbeats 2000000 in
theorem scanClone_low (g:Nat) (S:Nat→Prop) (k:Wk) (w:World) (hk:WkV w S g k) (cU:∀ j,S j→j<w.heap.size) (hn:k.entries.length≤1048640) :
 Calls Tryz.prog 22 #[.pointer (some ⟨g,0,none⟩)] w fun e w'=>∃ gc k',e=.returned (.pointer (some ⟨gc,0,none⟩))∧w.heap.size≤gc∧WkV w' (fun j=>(S j∧¬Core w g j)∨w.heap.size≤j) gc k'∧k.Same k'∧Keeps w w'∧∀ j,Core w' gc j→w.heap.size≤j:=by
 have an:=fun X (hX:Keeps w X)=>scanEntries_calls g S k X (hk.below hX.below) hn
 have ed:=Hi an
 obtain ⟨b,E,c,hg,eg,dw,hm,hE,dM⟩:=hk
 have dU:=obj_lt hg
 have dg:=hm.lt
 have cL:=fun j=>core_iff hg j
 obtain ⟨⟨es,clock,hb,aT,hv⟩,aF,ap,⟨es0,clock0,bb,bK⟩,bT⟩:=hm
 rw [hb] at bb
 injection bb with bb
 injection bb with bb bc
 subst bb bc
 obtain ⟨c0,c1,c2,c3,c4,c5,c6,fz⟩:=wk_cells hg
 have e9:=@run_makeMap Tryz.prog
 obtain ⟨T,hT⟩:∃ T:Nat→Prop,T=fun j=>S j∧¬Core w g j:=⟨_,rfl⟩
 have ao:∀ (i:Nat) (v:Value) (x:List Col×Int),(es.toList.map (·.val))[i]? = some v→k.vs[i]? = some x→KnS w T v x:=fun i v x h1 h2=>(hv i v x h1 h2).mono fun j _ h=>by
  rw [hT]
  refine ⟨h.1.1,fun hc=>?_⟩
  rcases (cL j).1 hc with h3 | h3 | h3
  · exact h.1.2.1 h3
  · exact h.2 h3
  · exact h.1.2.2 h3
 have dh:∀ j,T j→j<w.heap.size:=fun j h=>by rw [hT] at h;exact cU j h.1
 have bo:Hid (∀ w' gc k',WkV w' (fun j=>T j∨w.heap.size≤j) gc k'→WkV w' (fun j=>(S j∧¬Core w g j)∨w.heap.size≤j) gc k'):=Hi fun _ _ _ h=>by rw [hT] at h;exact h
 obtain ⟨C,hC⟩:∃ C:Array Value,C=#[.int .i64 k.frames,.int .i64 k.rows,.int .i64 k.number,.int .i64 k.since,.map (some (w.heap.size+1)),.slice E k.entries.length c,.bool k.closed]:=⟨_,rfl⟩
 obtain ⟨W2,aV⟩:∃ W2,W2=(w.alloc (.cells #[.int .i64 k.frames,.int .i64 k.rows,.int .i64 k.number,.int .i64 k.since,.map (some (w.heap.size+1)),.slice E k.entries.length c,.bool k.closed] 82)).alloc (.map #[] 0):=⟨_,rfl⟩
 have cu:W2.heap.size=w.heap.size+1+1:=by rw [aV];simp
 have a6:Keeps w W2:=by rw [aV];exact ((Keeps.refl w).alloc _).alloc _
 have bF:W2.heap[w.heap.size]? = some (.cells C 82 (0,0)):=by
  rw [aV,hC]
  exact obj_old (obj_new w _) _
 have b6:W2.heap[w.heap.size+1]? = some (.map #[] 0):=by
  rw [aV]
  exact obj_new_at _ _ _ (by simp)
 have aC:W2.heap[b]? = some (.map es clock):=(a6.below.block b dg).trans hb
 have c7:=run_range_map (P:=Tryz.prog) W2 80 2 90 b es clock Tryz.underlying80 aC
 obtain ⟨W3,bv⟩:∃ W3,W3=W2.alloc (.mapIter (some b) clock #[] clock):=⟨_,rfl⟩
 have aq:Keeps W2 W3:=by rw [bv];exact (Keeps.refl W2).alloc _
 have aI:CRel w T b clock k es C W3 #[] { k with ks:=[],vs:=[] } clock:=
  ⟨by rw [bv,← cu];exact obj_new W2 _,Nat.le_refl _,CopyOf.start,⟨⟨#[],0,(aq.below.block _ (by omega)).trans b6,rfl,fun i v x h _=>by simp at h⟩,rfl,⟨.inr (by omega),by omega,by omega⟩,⟨#[],0,(aq.below.block _ (by omega)).trans b6,⟨fun x hx=>by simp at hx,by simp⟩⟩,List.nodup_nil⟩,(fun x hx=>by cases hx),(aq.below.block _ (by omega)).trans bF,a6.trans aq⟩
 have aA:=Hi aI
 have cb:=Hi (aV▸bv)
 have HB:=Hi hb
 have bX:=Hi bK
 have cS:=Hi aT
 have cj:=Hi ao
 have br:=Hi aF
 have dX:=Hi bT
 have dp:=Hi dh
 have HC:=Hi hC
 rw [← bv,cu] at c7
 clear hg eg dw hE dM cL hb aT hv aF ap bK bT ao dh hT a6 bF b6 aC aq aI hC cU an
 rw [aV] at c7
 go_enter Tryz.func22,Tryz.ntmps22
 go_wp2_with fail
 clear c7 aV bv c0 c1 c2 c3 c4 c5 c6 fz e9
 go_loopw [4,5] (fun _ _ wr=>∃ seen k' c0,CRel w T b clock k es C wr seen k' c0) (fun _ _ wr=>(leftOf es (wr.iterSeen (w.heap.size+1+1))).size)
 case atStart=>
  have h:=aA.out
  rw [cb.out] at h
  exact ⟨_,_,_,h⟩
 case round=>
  obtain ⟨seen,k',cl,hrel⟩:=hrel
  have bR:wr.heap[b]? = some (.map es clock):=(hrel.keeps.below.block b dg).trans HB.out
  have az:wr.iterSeen (w.heap.size+1+1)=seen:=by unfold World.iterSeen;rw [hrel.it]
  rcases run_next_at (P:=Tryz.prog) wr _ b clock cl seen es clock hrel.it bR bX.out.lt hrel.le with ⟨h0,bZ⟩ | ⟨e,he,w1,bZ,aD,bz,cF⟩
  · have aR:=hrel.copy.done br.out cS.out h0
    have HD:=Hi aR
    have a5:=Hi hrel
    have cI:=Hi (ed.out wr hrel.keeps)
    clear hrel bR aR h0 aA az
    go_wp2_with fail
    refine cI.out.mono ?_
    rintro e w2 ⟨v2,rfl,b5,a6⟩
    obtain ⟨E2,m2,rfl,_⟩:=b5.form
    have aC:=(a6.below.block _ (obj_lt a5.out.box)).trans a5.out.box
    rw [HC.out] at aC
    obtain ⟨d0,d1,d2,d3,d4,d5,d6,fz⟩:=wk_cells aC
    have cx:=Hi aC
    have cD:=Hi b5
    have cH:=Hi a6
    clear aC b5 a6 cI
    have dY:=obj_lt cx.out
    go_wp2
    go_ret
    have ht:Touch (At w.heap.size) w2 (w2.setCell ⟨w.heap.size,5,none⟩ (.slice E2 k.entries.length m2)):=(Touch.refl _ w2).set 5 _
    have di:(w2.setCell ⟨w.heap.size,5,none⟩ (.slice E2 k.entries.length m2)).heap[w.heap.size]? = some (.cells #[.int .i64 k.frames,.int .i64 k.rows,.int .i64 k.number,.int .i64 k.since,.map (some (w.heap.size+1)),.slice E2 k.entries.length m2,.bool k.closed] 82 (0,0)):=obj_set cx.out 5 _
    have cY:=a5.out.keeps.size
    have eh:=obj_lt a5.out.box
    have bO:∀ j,blk (.slice E2 k.entries.length m2)=some j→wr.heap.size≤j:=fun j hj=>(cD.out.lt j hj).1
    have dx:=((a5.out.map.mono (T:=fun j=>((T j∨w.heap.size≤j)∧j≠w.heap.size∧j≠w.heap.size+1+1)∧j<wr.heap.size) fun j hj h=>⟨h,hj⟩).touch (F:=fun j=>j=w.heap.size∨wr.heap.size≤j) ((Touch.of_below cH.out.below fun j hj h=>absurd hj (by omega)).then (ht.mono fun j _ e=>.inl e)) fun j hj hF=>hF.elim (fun e=>hj.1.2.1 e) fun e=>by have:=hj.2;omega)
    refine ⟨w.heap.size,{ k' with frames:=k.frames,rows:=k.rows,number:=k.number,since:=k.since,entries:=k.entries,closed:=k.closed },rfl,Nat.le_refl _,bo.out _ _ _ ⟨w.heap.size+1,E2,m2,di,.inr (Nat.le_refl _),by omega,dx.mono fun j _ h=>⟨h.1.1,h.1.2.1,fun e=>by have:=bO j e;have:=h.2;omega⟩,(cD.out.keep ht fun j hj e=>by have:=bO j hj;rw [At] at e;omega).lower 0 (Nat.zero_le _),fun j hj=>.inr (by have:=bO j hj;omega)⟩,⟨rfl,rfl,rfl,rfl,rfl,rfl,a5.out.map.len,fun n=>HD.out n,a5.out.sub⟩,new_keeps (a5.out.keeps.trans cH.out) ht (Nat.le_refl _),fun j hj=>?_⟩
    rcases (core_iff di j).1 hj with h | h | h
    · omega
    · omega
    · have:=bO j h;omega
  · obtain ⟨i,n,x,b9,aw,b8,aW,hp,aJ⟩:=hrel.copy.step bX.out cS.out br.out hrel.map.len dX.out he
    have bE:=left_shrinks es seen e he
    have dN:=cj.out i e.val x (by rw [List.getElem?_map,b9];rfl) aW
    obtain ⟨A,m,ao,bl⟩:=dN
    have bc:w1.heap[b]? = some (.map es clock):=bz.obj bR (by show b≠w.heap.size+1+1;omega)
    have an:=run_entry_at (P:=Tryz.prog) w1 _ b clock seen es clock e aD bc (mem_left he).1 bX.out.nd
    rw [aw,ao] at bZ an
    obtain ⟨LX,bV⟩:∃ LX,LX=x.1.length:=⟨_,rfl⟩
    rw [← bV] at bZ an
    have cY:=hrel.keeps.size
    have cg:=obj_lt hrel.box
    have b3:Keeps w w1:=new_keeps (g:=w.heap.size+1+1) hrel.keeps bz (by omega)
    obtain ⟨w2,c9⟩:∃ w2,w2=w1.alloc (.cells #[.slice A LX m,.int .i64 x.2] 90):=⟨_,rfl⟩
    have aj:Keeps w1 w2:=by rw [c9];exact (Keeps.refl w1).alloc _
    have ar:=bz.obj hrel.box (by show w.heap.size≠w.heap.size+1+1;omega)
    have ah:=(aj.below.block _ (obj_lt ar)).trans ar
    have aN:=hrel.map.touch bz fun j hj e=>hj.2.2 e
    have aP:=(aN.mono (T:=fun j=>((T j∨w.heap.size≤j)∧j≠w.heap.size∧j≠w.heap.size+1+1)∧j<w1.heap.size) fun j hj h=>⟨h,hj⟩).touch (F:=fun j=>w1.heap.size≤j) (Touch.of_below aj.below fun j _ h=>h) fun j hj h=>by have:=hj.2;omega
    have cP:KnS w2 (fun j=>((T j∨w.heap.size≤j)∧j≠w.heap.size∧j≠w.heap.size+1+1)∧j≠w.heap.size+1) (.agg #[.slice A LX m,.int .i64 x.2]) x:=⟨A,m,by rw [bV],(bl.later (b3.trans aj).below).mono fun j _ h=>by have:=dp.out j h;exact ⟨⟨.inl h,by omega,by omega⟩,by omega⟩⟩
    obtain ⟨w3,dz,bM,dW,bU⟩:=(aP.mono fun j _ h=>h.1).put n _ x cP
    rw [hp] at bU
    simp only at bU
    have bG:=(aj.below.block _ (obj_lt aD)).trans aD
    have aS:=bM.obj bG (by show w.heap.size+1+1≠w.heap.size+1;omega)
    have aM:=bM.obj ah (by show w.heap.size≠w.heap.size+1;omega)
    have am:Wk.put k' n x = { k' with ks:=k'.ks++[n],vs:=k'.vs++[x] }:=by unfold Wk.put;rw [hp]
    have a5:Hid (CRel w T b clock k es C w3 (seen.push e.born) (k'.put n x) clock):=Hi ⟨aS,Nat.le_refl _,aJ,by rw [am];exact bU,fun y hy=>by
     rw [am] at hy
     rcases List.mem_append.1 hy with h1 | h1
     · exact hrel.sub y h1
     · rw [List.mem_singleton.1 h1];exact List.mem_of_getElem? aW,aM,new_keeps (g:=w.heap.size+1) (b3.trans aj) bM (by omega)⟩
    have cQ:(leftOf es (w3.iterSeen (w.heap.size+1+1))).size<(leftOf es (wr.iterSeen (w.heap.size+1+1))).size:=by
     have h3:w3.iterSeen (w.heap.size+1+1)=seen.push e.born:=by unfold World.iterSeen;rw [aS]
     rw [h3,az]
     exact bE
    have dD:=Hi cQ
    have df:w2.heap[w1.heap.size]? = some (.cells #[.slice A LX m,.int .i64 x.2] 90 (0,0)):=by rw [c9];exact obj_new w1 _
    rw [HC.out] at ah
    obtain ⟨d0,d1,d2,d3,d4,d5,d6,fz⟩:=wk_cells ah
    obtain ⟨y0,y1,y2,y3⟩:=cells2 df
    generalize x.2=pl at *
    clear hrel bR az b9 aw b8 aW hp aJ bE ao bl bc cY cg b3 aj ar ah aN aP cP bM dW bU bG aS aM am cQ df aA aD bz cF he bV
    subst c9
    go_wp2
    exact ⟨⟨_,_,_,a5.out⟩,dD.out⟩
theorem scanClone_calls (g:Nat) (S:Nat→Prop) (k:Wk) (w:World) (hk:WkV w S g k) (hn:k.entries.length≤1048640) :
 Calls Tryz.prog 22 #[.pointer (some ⟨g,0,none⟩)] w fun e w'=>∃ gc k',e=.returned (.pointer (some ⟨gc,0,none⟩))∧w.heap.size≤gc∧WkV w' (fun j=>(S j∧¬Core w g j)∨w.heap.size≤j) gc k'∧k.Same k'∧Keeps w w'∧∀ j,Core w' gc j→w.heap.size≤j:=
 (scanClone_low g (fun j=>S j∧j<w.heap.size) k w hk.here (fun j h=>h.2) hn).mono fun e w' ⟨gc,k',h1,h2,h3,h4,h5,h6⟩=>⟨gc,k',h1,h2,h3.mono fun j _ h=>h.imp (fun h=>⟨h.1.1,h.2⟩) id,h4,h5,h6⟩
theorem Wk.Same.twin {k k':Wk} {r:Rk} (h:k.Same k') (t:Twin k r):Twin k' r:=by
 have e1:=h.fr
 have e2:=h.rw
 have e3:=h.nu
 have e4:=h.si
 have e5:=h.en
 have e6:=h.cl
 refine ⟨⟨h.len, ?_,by rw [e1];exact t.m.fr,by rw [e2];exact t.m.rw,by rw [e3];exact t.m.num,by rw [e3,e4];exact t.m.sin,fun h0=>by rw [e4];exact t.m.s0 (e3▸h0),by rw [e6];exact t.m.cl,fun n=>by rw [h.at_ n];exact t.m.pl n,fun n=>by rw [h.at_ n];exact t.m.sc n,fun n hn=>by rw [h.at_ n] at hn;rw [e3];exact t.m.le n hn,fun h0=>by rw [h.at_,e3];exact t.m.has (e3▸h0)⟩,⟨by rw [e3];exact t.ok.num,by rw [e1];exact t.ok.fr,by rw [e4,e1];exact t.ok.sn,by rw [e2];exact t.ok.rw,by rw [e5];exact t.ok.en,fun x hx=>t.ok.fine x (h.sub x hx)⟩,fun x hx=>t.sound x (h.sub x hx),t.rok⟩
 rw [h.at_,e1,e2,e3,e5]
 exact t.m.es
set_option maxRecDepth 20000 in
set_option maxHeartbeats 2000000 in
theorem rkClone_calls (g:Nat) (T:Nat→Prop) (r:Rk) (w:World) (hr:RkV w T g r) :
 Calls Tryz.prog 23 #[.pointer (some ⟨g,0,none⟩)] w fun e w'=>∃ gc,e=.returned (.pointer (some ⟨gc,0,none⟩))∧w.heap.size≤gc∧RkV w' (fun j=>(T j∧j≠g)∨w.heap.size≤j) gc r∧Keeps w w':=by
 have a9:=hr.here
 obtain ⟨⟨A,c,E,d,B,m,hg,hc,h1,⟨h2,h3⟩,h4⟩,h5,h6⟩:=a9
 obtain ⟨c0,c1,c2,c3,c4,fz⟩:=rk_cells hg
 have dU:=obj_lt hg
 have HR:=Hi (And.intro hc (And.intro h1 (And.intro h2 (And.intro h3 h4))))
 have HS:=Hi h6
 clear hr hg hc h1 h2 h3 h4 h5 h6
 obtain ⟨n1,ac⟩:∃ n,n=r.L.length:=⟨_,rfl⟩
 obtain ⟨n2,ab⟩:∃ n,n=r.E0.length:=⟨_,rfl⟩
 obtain ⟨n3,aa⟩:∃ n,n=r.S0.length:=⟨_,rfl⟩
 rw [← ac] at c0
 rw [← ab] at c3
 rw [← aa] at c4
 have aO:=Hi ac
 have aK:=Hi ab
 have dF:=Hi aa
 clear ac ab aa
 go_enter Tryz.func23,Tryz.ntmps23
 go_wp2
 go_ret
 obtain ⟨hc,h1,h2,h3,h4⟩:=HR.out
 have hk:∀ o,Keeps w (w.alloc o):=fun o=>(Keeps.refl w).alloc o
 have hS:∀ j,(T j∧j<w.heap.size)∧j≠g→(((T j∧j≠g)∨w.heap.size≤j)∧j≠w.heap.size):=fun j h=>⟨.inl ⟨h.1.1,h.2⟩,by have:=h.1.2;omega⟩
 refine ⟨w.heap.size,rfl,Nat.le_refl _,⟨⟨A,c,E,d,B,m,by rw [← aO.out,← aK.out,← dF.out];exact obj_new w _,hc,(h1.below (hk _).below).mono fun j _ h=>hS j h,⟨h2.below (hk _).below,fun a e hn=>hS _ (h3 a e hn)⟩,(h4.below (hk _).below).mono fun j _ h=>hS j h⟩,.inr (Nat.le_refl _),HS.out⟩,hk _⟩
structure Side (w wr:World) (S T:Nat→Prop) (gw gr:Nat) (k:Wk) (r:Rk):Prop where
 prog:WkV wr S gw k
 ref:RkV wr T gr r
 apart:∀ b,T b→¬S b
 own:∀ b,S b→w.heap.size≤b
 low:w.heap.size≤gr
 keeps:Keeps w wr
theorem Duo.side {w wr:World} {S:Nat→Prop} {gw gr:Nat} {k:Wk} {r:Rk} (h:Duo w wr S gw gr k r):Side w wr S (fun b=>¬S b) gw gr k r:=⟨h.prog,h.ref,fun _ h=>h,h.own,h.low,h.keeps⟩
theorem Side.duo {w wr:World} {S T:Nat→Prop} {gw gr:Nat} {k:Wk} {r:Rk} (h:Side w wr S T gw gr k r):Duo w wr S gw gr k r:=⟨h.prog,h.ref.mono fun b _ hb=>h.apart b hb,h.own,h.low,h.keeps⟩
theorem Side.below {w wr w':World} {S T:Nat→Prop} {gw gr:Nat} {k:Wk} {r:Rk} (h:Side w wr S T gw gr k r) (hk:Keeps wr w'):Side w w' S T gw gr k r:=
 ⟨h.prog.below hk.below,h.ref.below hk.below,h.apart,h.own,h.low,h.keeps.trans hk⟩
theorem Side.here {w wr:World} {S T:Nat→Prop} {gw gr:Nat} {k:Wk} {r:Rk} (h:Side w wr S T gw gr k r):Side w wr (fun b=>S b∧b<wr.heap.size) (fun b=>T b∧b<wr.heap.size) gw gr k r:=
 ⟨h.prog.here,h.ref.mono fun b hb ht=>⟨ht,hb⟩,fun b hb hs=>h.apart b hb.1 hs.1,fun b hb=>h.own b hb.1,h.low,h.keeps⟩
structure Quad (w wr:World) (S1 T1 S2 T2:Nat→Prop) (gw gr gv gy:Nat) (k:Wk) (r:Rk) (k2:Wk) (r2:Rk):Prop where
 one:Side w wr S1 T1 gw gr k r
 two:Side w wr S2 T2 gv gy k2 r2
 d12:∀ b,S2 b→¬Core wr gw b
 d21:∀ b,S1 b→¬Core wr gv b
 t1:∀ b,T1 b→¬S2 b∧b≠gy
 t2:∀ b,T2 b→¬S1 b∧b≠gr
theorem Quad.swap {w wr:World} {S1 T1 S2 T2:Nat→Prop} {gw gr gv gy:Nat} {k k2:Wk} {r r2:Rk} (h:Quad w wr S1 T1 S2 T2 gw gr gv gy k r k2 r2):Quad w wr S2 T2 S1 T1 gv gy gw gr k2 r2 k r:=
 ⟨h.two,h.one,h.d21,h.d12,h.t2,h.t1⟩
theorem Quad.below {w wr w':World} {S1 T1 S2 T2:Nat→Prop} {gw gr gv gy:Nat} {k k2:Wk} {r r2:Rk} (h:Quad w wr S1 T1 S2 T2 gw gr gv gy k r k2 r2) (hk:Keeps wr w'):Quad w w' S1 T1 S2 T2 gw gr gv gy k r k2 r2:=
 ⟨h.one.below hk,h.two.below hk,fun b hb hc=>h.d12 b hb ((Core.same (hk.below.block gw h.one.prog.lt) b).1 hc),fun b hb hc=>h.d21 b hb ((Core.same (hk.below.block gv h.two.prog.lt) b).1 hc),h.t1,h.t2⟩
structure Gone (w wr w':World) (gw gr gv gy:Nat) (k:Wk) (r:Rk) (k2:Wk) (r2:Rk) (X:Nat→Prop):Prop where
 ex:∃ S1 T1 S2 T2,Quad w w' S1 T1 S2 T2 gw gr gv gy k r k2 r2∧(∀ b,X b→¬S1 b∧¬S2 b∧b≠gr∧b≠gy)
 far:∀ b,X b→b<wr.heap.size→w'.heap[b]? = wr.heap[b]?
 size_le:wr.heap.size≤w'.heap.size
theorem Quad.next {w wr:World} {S1 T1 S2 T2:Nat→Prop} {gw gr gv gy:Nat} {k k2:Wk} {r r2:Rk} (h:Quad w wr S1 T1 S2 T2 gw gr gv gy k r k2 r2) (e7:k.ok) {A B E:Option Addr} {c d m:Nat} {f:Fr} (a:Int) (hf:FrS wr (fun b=>b<w.heap.size) A B E f) (a3:f.wf) (b0:Tabs w) (ht:Table w) (X:Nat→Prop) (hX:∀ b,X b→b<wr.heap.size∧¬S1 b∧¬S2 b∧b≠gr∧b≠gy) :
 Calls Tryz.prog 13 #[.pointer (some ⟨gw,0,none⟩),.agg (frCells A c B d E m f),.int .i64 a] wr fun e w'=>e=.returned (.int .i64 (k.next f a).2)∧Gone w wr w' gw gr gv gy (k.next f a).1 r k2 r2 X:=by
 have dv:=h.one.keeps.size
 refine (scanNext_went gw (fun b=>S1 b∧b<wr.heap.size) k A B E c d m f a wr h.one.prog.here e7 (hf.mono fun b hb hw=>⟨hb,fun hs=>by have:=h.one.own b hs.1;omega⟩) a3 fun w' dS=>?_).mono fun e w' ⟨h1,h2,h3⟩=>?_
 · have hk:=h.one.duo.keep_of (dS.mono fun b _ hs=>hs.1)
   exact ⟨b0.below hk.below,ht.later hk.below⟩
 · have hS:Touch S1 wr w':=(h3.in h.one.prog.here).mono fun b _ hs=>hs.1
   have hk:=h.one.duo.keep_of hS
   have aZ:w'.heap[gv]? = wr.heap[gv]?:=h3.touch.block gv h.two.prog.lt (h.d12 gv (h.two.prog.core (.inl rfl)))
   refine ⟨h1,⟨More (fun b=>S1 b∧b<wr.heap.size) wr,fun b=>T1 b∧b<wr.heap.size,fun b=>S2 b∧b<wr.heap.size,fun b=>T2 b∧b<wr.heap.size,⟨⟨h2,h.one.here.ref.touch hS fun b hb hs=>h.one.apart b hb.1 hs,fun b hb hm=>hm.elim (fun hs=>h.one.apart b hb.1 hs.1) fun hs=>by have:=hb.2;omega,fun b hb=>hb.elim (fun hs=>h.one.own b hs.1) fun hs=>by omega,h.one.low,hk⟩,⟨h.two.here.prog.touch h3.touch fun b hb hc=>h.d12 b hb.1 hc,h.two.here.ref.touch hS fun b hb hs=>(h.t2 b hb.1).1 hs,fun b hb hs=>h.two.apart b hb.1 hs.1,fun b hb=>h.two.own b hb.1,h.two.low,hk⟩,fun b hb hc=>(h3.core b hc).elim (fun hc=>h.d12 b hb.1 hc) fun hc=>by have:=hb.2;omega,fun b hb hc=>?_,fun b hb=>⟨fun hs=>(h.t1 b hb.1).1 hs.1,(h.t1 b hb.1).2⟩,fun b hb=>⟨fun hm=>hm.elim (fun hs=>(h.t2 b hb.1).1 hs.1) fun hs=>by have:=hb.2;omega,(h.t2 b hb.1).2⟩⟩,fun b hb=>?_⟩,fun b hb hl=>hS.block b hl (hX b hb).2.1,hS.size⟩
   · have cV:=(Core.same aZ b).1 hc
     rcases hb with hb | hb
     · exact h.d21 b hb.1 cV
     · have:=h.two.prog.core_lt cV;omega
   · obtain ⟨x1,x2,x3,x4,x5⟩:=hX b hb
     exact ⟨fun hm=>hm.elim (fun hs=>x2 hs.1) fun hs=>by omega,fun hs=>x3 hs.1,x4,x5⟩
theorem Quad.rnext {w wr:World} {S1 T1 S2 T2:Nat→Prop} {gw gr gv gy:Nat} {k k2:Wk} {r r2:Rk} (h:Quad w wr S1 T1 S2 T2 gw gr gv gy k r k2 r2) (ck:r.fit) {A B E:Option Addr} {c d m:Nat} {f:Fr} (a:Int) (hf:FrS wr (fun b=>b<w.heap.size) A B E f) (a1:f.cols.length≤c) (a3:f.wf) (b0:Tabs w) (bj:r.L.length<1048576) (X:Nat→Prop) (hX:∀ b,X b→b<wr.heap.size∧¬S1 b∧¬S2 b∧b≠gr∧b≠gy) :
 Calls Tryz.prog 14 #[.pointer (some ⟨gr,0,none⟩),.agg (frCells A c B d E m f),.int .i64 a] wr fun e w'=>e=.returned (.int .i64 (r.next f a).2)∧Gone w wr w' gw gr gv gy k (r.next f a).1 k2 r2 X:=by
 have dv:=h.one.keeps.size
 have aX:=h.one.ref.self
 refine (rkNext_calls gr (fun b=>T1 b∧b<wr.heap.size) (fun b=>b<w.heap.size) r A B E c d m f a wr h.one.here.ref ck hf (fun b hb=>by omega) (fun b hb=>by have:=h.one.low;omega) a1 a3 (b0.below h.one.keeps.below) bj).mono fun e w' ⟨h1,h2,h3⟩=>?_
 have hk:Keeps w w':=Touch.nothing (F:=At gr) ((Touch.of_below h.one.keeps.below fun b hb hs=>absurd hb (by omega)).then h3) fun b hb hs=>by have:=h.one.low;rw [At] at hs;omega
 have dK:gw≠gr:=fun e=>h.one.apart gr aX (e▸h.one.prog.core (.inl rfl))
 have dL:gv≠gr:=fun e=>(h.t1 gr aX).1 (e▸h.two.prog.core (.inl rfl))
 have bW:w'.heap[gw]? = wr.heap[gw]?:=h3.block gw h.one.prog.lt dK
 have aZ:w'.heap[gv]? = wr.heap[gv]?:=h3.block gv h.two.prog.lt dL
 have hT:∀ b,((T1 b∧b<wr.heap.size)∨b<w.heap.size)∨wr.heap.size≤b→¬(S1 b∧b<wr.heap.size)∧¬(S2 b∧b<wr.heap.size)∧b≠gy:=fun b hb=>by
  have bJ:=h.two.ref.lt
  have e0:=h.two.low
  rcases hb with (hb | hb) | hb
  · exact ⟨fun hs=>h.one.apart b hb.1 hs.1,fun hs=>(h.t1 b hb.1).1 hs.1,(h.t1 b hb.1).2⟩
  · exact ⟨fun hs=>by have:=h.one.own b hs.1;omega,fun hs=>by have:=h.two.own b hs.1;omega,by omega⟩
  · exact ⟨fun hs=>by have:=hs.2;omega,fun hs=>by have:=hs.2;omega,by omega⟩
 refine ⟨h1,⟨fun b=>S1 b∧b<wr.heap.size,fun b=>((T1 b∧b<wr.heap.size)∨b<w.heap.size)∨wr.heap.size≤b,fun b=>S2 b∧b<wr.heap.size,fun b=>T2 b∧b<wr.heap.size,⟨⟨h.one.here.prog.touch h3 fun b hb e=>h.one.apart b (e▸aX) hb.1,h2,fun b hb=>(hT b hb).1,fun b hb=>h.one.own b hb.1,h.one.low,hk⟩,⟨h.two.here.prog.touch h3 fun b hb e=>(h.t1 b (e▸aX)).1 hb.1,h.two.here.ref.touch h3 fun b hb e=>(h.t2 b hb.1).2 e,fun b hb hs=>h.two.apart b hb.1 hs.1,fun b hb=>h.two.own b hb.1,h.two.low,hk⟩,fun b hb hc=>h.d12 b hb.1 ((Core.same bW b).1 hc),fun b hb hc=>h.d21 b hb.1 ((Core.same aZ b).1 hc),fun b hb=>(hT b hb).2,fun b hb=>⟨fun hs=>(h.t2 b hb.1).1 hs.1,(h.t2 b hb.1).2⟩⟩,fun b hb=>⟨fun hs=>(hX b hb).2.1 hs.1,fun hs=>(hX b hb).2.2.1 hs.1,(hX b hb).2.2.2⟩⟩,fun b hb hl=>h3.block b hl (hX b hb).2.2.2.1,h3.size⟩
theorem Quad.start {w wr w1 w2:World} {S T Z:Nat→Prop} {gw gr gv gy:Nat} {k k2:Wk} {r:Rk} (h:Side w wr S T gw gr k r) (h1:WkV w1 (fun j=>(S j∧¬Core wr gw j)∨wr.heap.size≤j) gv k2) (aZ:wr.heap.size≤gv) (aE:Keeps wr w1) (ak:∀ j,Core w1 gv j→wr.heap.size≤j) (h2:RkV w2 (fun j=>(Z j∧j≠gr)∨w1.heap.size≤j) gy r) (hZ:∀ j,Z j→T j∧j<wr.heap.size) (bJ:w1.heap.size≤gy) (a6:Keeps w1 w2) :
 ∃ S1 T1 S2 T2,Quad w w2 S1 T1 S2 T2 gw gr gv gy k r k2 r:=by
 have cF:=aE.size
 have cu:=a6.size
 have hw:=h.keeps.size
 have bW:=h.prog.lt
 have dy:=h.ref.lt
 have c1:∀ b,Core w2 gw b↔Core wr gw b:=fun b=>Core.same ((aE.trans a6).below.block gw bW) b
 have c2:∀ b,Core w2 gv b↔Core w1 gv b:=fun b=>Core.same (a6.below.block gv h1.lt) b
 have hh:=h.here.below (aE.trans a6)
 have dG:WkV w2 (fun b=>((S b∧¬Core wr gw b)∧b<wr.heap.size)∨(wr.heap.size≤b∧b<w1.heap.size)) gv k2:=(h1.here.mono fun b _ hb=>by
  by_cases hl:b<wr.heap.size
  · exact .inl ⟨hb.1.elim id fun hq=>absurd hl (by omega),hl⟩
  · exact .inr ⟨by omega,hb.2⟩).below a6.below
 refine ⟨_,_,_,fun b=>(Z b∧b≠gr)∨w1.heap.size≤b,⟨hh,⟨dG,h2,fun b hb hs=>?_,fun b hb=>?_,by omega,h.keeps.trans (aE.trans a6)⟩,fun b hb hc=>?_,fun b hb hc=>?_,fun b hb=>⟨fun hs=>?_, ?_⟩,fun b hb=>⟨fun hs=>?_, ?_⟩⟩⟩
 · rcases hb with hb | hb
   · have hz:=hZ b hb.1
     rcases hs with hs | hs
     · exact h.apart b hz.1 hs.1.1
     · omega
   · rcases hs with hs | hs
     · omega
     · omega
 · rcases hb with hb | hb
   · exact h.own b hb.1.1
   · omega
 · have hc:=(c1 b).1 hc
   rcases hb with hb | hb
   · exact hb.1.2 hc
   · have:=h.prog.core_lt hc;omega
 · have:=ak b ((c2 b).1 hc)
   have:=hb.2
   omega
 · rcases hs with hs | hs
   · exact h.apart b hb.1 hs.1.1
   · have:=hb.2;omega
 · have:=hb.2;omega
 · rcases hb with hb | hb
   · exact h.apart b (hZ b hb.1).1 hs.1
   · have:=hs.2;omega
 · rcases hb with hb | hb
   · exact hb.2
   · omega
theorem Quad.here {w wr:World} {S1 T1 S2 T2:Nat→Prop} {gw gr gv gy:Nat} {k k2:Wk} {r r2:Rk} (h:Quad w wr S1 T1 S2 T2 gw gr gv gy k r k2 r2) :
 Quad w wr (fun b=>S1 b∧b<wr.heap.size) (fun b=>T1 b∧b<wr.heap.size) (fun b=>S2 b∧b<wr.heap.size) (fun b=>T2 b∧b<wr.heap.size) gw gr gv gy k r k2 r2:=
 ⟨h.one.here,h.two.here,fun b hb=>h.d12 b hb.1,fun b hb=>h.d21 b hb.1,fun b hb=>⟨fun hs=>(h.t1 b hb.1).1 hs.1,(h.t1 b hb.1).2⟩,fun b hb=>⟨fun hs=>(h.t2 b hb.1).1 hs.1,(h.t2 b hb.1).2⟩⟩
theorem Gone.size {w wr w':World} {gw gr gv gy:Nat} {k:Wk} {r:Rk} {k2:Wk} {r2:Rk} {X:Nat→Prop} (h:Gone w wr w' gw gr gv gy k r k2 r2 X):wr.heap.size≤w'.heap.size:=h.size_le
set_option maxRecDepth 40000 in
set_option maxHeartbeats 8000000 in
theorem clonesL_calls (A B C:Option Addr) (cA cB cC:Nat) (lA lB lC:List (Fr×Int)) (w:World) (hA:Steps w w.heap.size A lA) (hB:Steps w w.heap.size B lB) (hC:Steps w w.heap.size C lC) (dm:lA.length≤1048576) (eb:lB.length≤1048576) (dB:lC.length≤1048576) (b0:Tabs w) (ht:Table w) :
 Calls Tryz.prog 5 #[.slice A lA.length cA,.slice B lB.length cB,.slice C lC.length cC] w fun e w'=>e=.returned (.bool true)∧Keeps w w':=by
 have db:=scanLive_calls w b0 ht
 have ca:=Hi db
 have dk:=Hi hA
 have dQ:=Hi hB
 have dl:=Hi hC
 have aH:=Hi b0
 have cp:=Hi ht
 clear db hA hB hC b0 ht
 obtain ⟨NA,ct⟩:∃ N,N=lA.length:=⟨_,rfl⟩
 obtain ⟨NB,co⟩:∃ N,N=lB.length:=⟨_,rfl⟩
 obtain ⟨NC,cv⟩:∃ N,N=lC.length:=⟨_,rfl⟩
 rw [← ct] at dm ⊢
 rw [← co] at eb ⊢
 rw [← cv] at dB ⊢
 have dZ:=Hi ct
 have dA:=Hi co
 have dC:=Hi cv
 clear ct co cv
 by_cases bf:100<NA∨50<NB∨50<NC
 · have bc:(100:Int)<(NA:Int)∨¬(100:Int)<(NA:Int):=by omega
   have aC:(50:Int)<(NB:Int)∨¬(50:Int)<(NB:Int):=by omega
   have dT:(50:Int)<(NC:Int)∨¬(50:Int)<(NC:Int):=by omega
   rcases bc with q1 | q1 <;> rcases aC with q2 | q2 <;> rcases dT with q3 | q3
   all_goals
    first
     | (exfalso;omega)
     | (clear bf
        go_enter Tryz.func5,Tryz.ntmps5
        go_wp2_with fail
        refine ca.out.mono ?_
        rintro e w1 ⟨rfl,aE⟩
        go_wp2_with fail
        refine (scanNew_calls w1).mono ?_
        rintro e w2 ⟨gw,rfl,_,_,a6⟩
        go_wp2_with fail
        refine (rkNew_calls w2).mono ?_
        rintro e w3 ⟨gr,rfl,_,_,bS⟩
        go_wp2
        go_ret
        exact ⟨rfl,aE.trans (a6.trans bS)⟩)
 have qA:NA≤100:=by omega
 have qB:NB≤50:=by omega
 have qC:NC≤50:=by omega
 have q1:¬(100:Int)<(NA:Int):=by omega
 have q2:¬(50:Int)<(NB:Int):=by omega
 have q3:¬(50:Int)<(NC:Int):=by omega
 clear bf
 go_enter Tryz.func5,Tryz.ntmps5
 go_wp2_with fail
 refine ca.out.mono ?_
 rintro e w1 ⟨rfl,aE⟩
 clear ca
 go_wp2_with fail
 refine (scanNew_calls w1).mono ?_
 rintro e w2 ⟨gw,rfl,_,cW,a6⟩
 go_wp2_with fail
 refine (rkNew_calls w2).mono ?_
 rintro e w3 ⟨gr,rfl,aX,cO,bS⟩
 have cr:=Hi (Duo.start aE a6 bS cW cO aX)
 clear aE a6 bS cW cO aX
 go_wp2_with fail
 go_loopw [45] (fun i wr=>∃ (j:Nat) (k:Wk) (r:Rk) (S:Nat→Prop),j≤NA∧i=.int .i64 (j:Int)∧Duo w wr S gw gr k r∧Twin k r∧r.L.length≤j) (fun i _=>NA-(intOf i).toNat)
 case atStart=>exact ⟨0,Wk.fresh,Rk.fresh,_,by omega,rfl,cr.out,twin_fresh,by simp [Rk.fresh]⟩
 case round=>
  obtain ⟨j,k,r,S,hj,rfl,ae,a2,bH⟩:=hrel
  by_cases bg:j<NA
  · have am:=ae.keeps
    obtain ⟨ad,rfl,A1,c1,B1,d1,E1,m1,af,a1,a3,au⟩:=dk.out.at j (by rw [← dZ.out];exact bg)
    obtain ⟨p0,p1,p2,p3,p4,p5,p6,p7,p8,p9,p10,p11⟩:=au wr am.below
    clear au
    generalize lA[j]'_=x at *
    obtain ⟨f,a⟩:=x
    simp only at p0 p1 p2 p3 p4 p5 p6 p7 p8 p9 p10 p11 af a1 a3
    have ba:(j:Int)<(NA:Int):=by omega
    have cM:(0:Int)≤(j:Int):=by omega
    obtain ⟨he,a8⟩:=a2.next a3 a
    obtain ⟨n1,ac⟩:∃ n1,n1=f.cols.length:=⟨_,rfl⟩
    obtain ⟨n2,ab⟩:∃ n2,n2=f.block.length:=⟨_,rfl⟩
    obtain ⟨n3,aa⟩:∃ n3,n3=f.ents.length:=⟨_,rfl⟩
    obtain ⟨W4,ai⟩:∃ W4,W4=wr.alloc (.cells #[.int .i64 f.kind,.int .i64 f.number,.slice A1 n1 c1,.int .i64 f.seq,.int .i64 f.first,.int .i64 f.rows,.slice B1 n2 d1,.int .i64 f.spot,.int .i64 f.frames,.int .i64 f.irows,.slice E1 n3 m1,.int .i64 a] 38):=⟨_,rfl⟩
    rw [← ac] at p2
    rw [← ab] at p6
    rw [← aa] at p10
    have av:frCells A1 c1 B1 d1 E1 m1 f=#[.int .i64 f.kind,.int .i64 f.number,.slice A1 n1 c1,.int .i64 f.seq,.int .i64 f.first,.int .i64 f.rows,.slice B1 n2 d1,.int .i64 f.spot,.int .i64 f.frames,.int .i64 f.irows,.slice E1 n3 m1]:=by rw [ac,ab,aa];rfl
    have al:Keeps wr W4:=by rw [ai];exact (Keeps.refl wr).alloc _
    have ag:W4.heap[wr.heap.size]? = some (.cells #[.int .i64 f.kind,.int .i64 f.number,.slice A1 n1 c1,.int .i64 f.seq,.int .i64 f.first,.int .i64 f.rows,.slice B1 n2 d1,.int .i64 f.spot,.int .i64 f.frames,.int .i64 f.irows,.slice E1 n3 m1,.int .i64 a] 38 (0,0)):=by rw [ai];exact obj_new wr _
    obtain ⟨er,aB⟩:∃ er,er=(k.next f a).2:=⟨_,rfl⟩
    obtain ⟨k',ax⟩:∃ k',k'=(k.next f a).1:=⟨_,rfl⟩
    obtain ⟨r',a9⟩:∃ r',r'=(r.next f a).1:=⟨_,rfl⟩
    have a4:Hid (Twin k' r'):=Hi (by rw [ax,a9];exact a8)
    have bi:r'.L.length≤r.L.length+1:=by rw [a9];exact r.next_len f a
    have dV:wr.heap.size≠gr:=by have:=ae.gr_lt;omega
    have bN:Duo w W4 (fun b=>S b∧b<wr.heap.size) gw gr k r:=ae.here.below al
    have bA:wr.heap.size<W4.heap.size:=obj_lt ag
    obtain ⟨S4,cd⟩:∃ S4:Nat→Prop,S4=fun b=>S b∧b<wr.heap.size:=⟨_,rfl⟩
    have bn:¬S4 wr.heap.size:=by rw [cd];intro h;have:=h.2;omega
    rw [← cd] at bN
    have ak:=bN.next a2.ok (c:=c1) (d:=d1) (m:=m1) a (af.later bN.keeps.below) a3 aH.out cp.out
    rw [av,← ax] at ak
    have aO:=Hi ak
    have aK:Hid (∀ X5 S5,Duo w X5 S5 gw gr k' r→Calls Tryz.prog 14 #[.pointer (some ⟨gr,0,none⟩),.agg #[.int .i64 f.kind,.int .i64 f.number,.slice A1 n1 c1,.int .i64 f.seq,.int .i64 f.first,.int .i64 f.rows,.slice B1 n2 d1,.int .i64 f.spot,.int .i64 f.frames,.int .i64 f.irows,.slice E1 n3 m1],.int .i64 a] X5 fun e w'=>e=.returned (.int .i64 (r.next f a).2)∧∃ S',Duo w w' S' gw gr k' r'∧Far X5 w' S5 gr∧∀ b,S' b→S5 b∨X5.heap.size≤b):=Hi fun X5 S5 h5=>by
     have h:=h5.rnext a2.fit (c:=c1) (d:=d1) (m:=m1) a (af.later h5.keeps.below) a1 a3 aH.out (by omega)
     rw [av,← a9] at h
     exact h
    have aG:=Hi ag
    have ay:=cells12 ag
    have bB:=Hi (And.intro bA bn)
    obtain ⟨er2,bh⟩:∃ er2,er2=(r.next f a).2:=⟨_,rfl⟩
    rw [← bh] at aK
    rw [← aB] at aO
    clear ae a2 af a1 a3 he a8 av bN ak ax a9 aB bh al ag cr cd bA bn am
    clear ac ab aa
    obtain ⟨t0,t1,t2,t3,t4,t5,t6,t7,t8,t9,t10,t11⟩:=ay
    go_wp2_with fail
    rw [← ai]
    clear ai
    refine aO.out.mono ?_
    rintro e w5 ⟨rfl,S5,dc,aL,dR⟩
    have dd:=(aL wr.heap.size bB.out.1 bB.out.2 dV).trans aG.out
    obtain ⟨z0,z1,z2,z3,z4,z5,z6,z7,z8,z9,z10,z11⟩:=cells12 dd
    have dn:=Hi dc
    clear dc aL dR dd t0 t1 t2 t3 t4 t5 t6 t7 t8 t9 t10 t11
    go_wp2_with fail
    refine (aK.out w5 S5 dn.out).mono ?_
    rintro e w6 ⟨rfl,S6,cZ,bC,dt⟩
    have dE:=Hi cZ
    clear cZ bC dt
    go_wp2
    exact ⟨⟨j+1,k',r',S6,by omega,by go_num,dE.out,a4.out,by omega⟩,by simp [intOf];omega⟩
  · have ba:¬(j:Int)<(NA:Int):=by omega
    have dr:=a2.ok.en
    have dj:=scanClone_calls gw S k wr ae.prog (by omega)
    have cy:=Hi dj
    have bY:=Hi ae.side
    have cw:=Hi a2
    have ef:r.L.length≤100:=by omega
    clear dj ae a2 dr cr bH
    go_wp2_with fail
    refine cy.out.mono ?_
    rintro e w4 ⟨gv,k2,rfl,aZ,cT,aQ,al,cG⟩
    have d7:=rkClone_calls gr _ r w4 (bY.out.ref.here.below al.below)
    have de:=Hi d7
    have cE:=Hi cT
    have d8:=Hi al
    have cN:=Hi cG
    have a4:=Hi (aQ.twin cw.out)
    clear d7 cT al cG aQ cy
    go_wp2_with fail
    refine de.out.mono ?_
    rintro e w5 ⟨gy,rfl,bJ,cR,cz⟩
    obtain ⟨r0,bL⟩:∃ r0,r0=r:=⟨_,rfl⟩
    have hq:=Quad.start bY.out cE.out aZ d8.out cN.out cR (fun _ h=>h) bJ cz
    have HQ:Hid (∃ S1 T1 S2 T2,Quad w w5 S1 T1 S2 T2 gw gr gv gy k r k2 r0):=Hi (bL▸hq)
    have a4:Hid (Twin k2 r0):=Hi (bL▸a4.out)
    have dq:r0.L.length≤100:=bL▸ef
    clear bL
    clear hq cR cz bJ aZ de cE d8 cN bY
    clear ba hj
    go_wp2_with fail
    go_loopw [70] (fun i wr=>∃ (j:Nat) (k:Wk) (r:Rk) (S1 T1 S2 T2:Nat→Prop),j≤NB∧i=.int .i64 (j:Int)∧Quad w wr S1 T1 S2 T2 gw gr gv gy k r k2 r0∧Twin k r∧r.L.length≤100+j) (fun i _=>NB-(intOf i).toNat)
    case atStart=>
     obtain ⟨S1,T1,S2,T2,hq⟩:=HQ.out
     exact ⟨0,k,r,S1,T1,S2,T2,by omega,rfl,hq,cw.out,by omega⟩
    case round=>
     rename_i wr
     obtain ⟨j,k,r,S1,T1,S2,T2,hj,rfl,a7,a2,bH⟩:=hrel
     by_cases bg:j<NB
     · have am:=a7.one.keeps
       obtain ⟨ad,rfl,A1,c1,B1,d1,E1,m1,af,a1,a3,au⟩:=dQ.out.at j (by rw [← dA.out];exact bg)
       obtain ⟨p0,p1,p2,p3,p4,p5,p6,p7,p8,p9,p10,p11⟩:=au wr am.below
       clear au
       generalize lB[j]'_=x at *
       obtain ⟨f,a⟩:=x
       simp only at p0 p1 p2 p3 p4 p5 p6 p7 p8 p9 p10 p11 af a1 a3
       have ba:(j:Int)<(NB:Int):=by omega
       have cM:(0:Int)≤(j:Int):=by omega
       obtain ⟨he,a8⟩:=a2.next a3 a
       obtain ⟨n1,ac⟩:∃ n1,n1=f.cols.length:=⟨_,rfl⟩
       obtain ⟨n2,ab⟩:∃ n2,n2=f.block.length:=⟨_,rfl⟩
       obtain ⟨n3,aa⟩:∃ n3,n3=f.ents.length:=⟨_,rfl⟩
       obtain ⟨W4,ai⟩:∃ W4,W4=wr.alloc (.cells #[.int .i64 f.kind,.int .i64 f.number,.slice A1 n1 c1,.int .i64 f.seq,.int .i64 f.first,.int .i64 f.rows,.slice B1 n2 d1,.int .i64 f.spot,.int .i64 f.frames,.int .i64 f.irows,.slice E1 n3 m1,.int .i64 a] 38):=⟨_,rfl⟩
       rw [← ac] at p2
       rw [← ab] at p6
       rw [← aa] at p10
       have av:frCells A1 c1 B1 d1 E1 m1 f=#[.int .i64 f.kind,.int .i64 f.number,.slice A1 n1 c1,.int .i64 f.seq,.int .i64 f.first,.int .i64 f.rows,.slice B1 n2 d1,.int .i64 f.spot,.int .i64 f.frames,.int .i64 f.irows,.slice E1 n3 m1]:=by rw [ac,ab,aa];rfl
       have al:Keeps wr W4:=by rw [ai];exact (Keeps.refl wr).alloc _
       have ag:W4.heap[wr.heap.size]? = some (.cells #[.int .i64 f.kind,.int .i64 f.number,.slice A1 n1 c1,.int .i64 f.seq,.int .i64 f.first,.int .i64 f.rows,.slice B1 n2 d1,.int .i64 f.spot,.int .i64 f.frames,.int .i64 f.irows,.slice E1 n3 m1,.int .i64 a] 38 (0,0)):=by rw [ai];exact obj_new wr _
       obtain ⟨er,aB⟩:∃ er,er=(k.next f a).2:=⟨_,rfl⟩
       obtain ⟨k',ax⟩:∃ k',k'=(k.next f a).1:=⟨_,rfl⟩
       obtain ⟨r',a9⟩:∃ r',r'=(r.next f a).1:=⟨_,rfl⟩
       have a4:Hid (Twin k' r'):=Hi (by rw [ax,a9];exact a8)
       have bi:r'.L.length≤r.L.length+1:=by rw [a9];exact r.next_len f a
       have b4:=a7.here.below (al.trans (Keeps.drew W4))
       have cc:=a7.one.ref.lt
       have b5:=a7.two.ref.lt
       have bD:∀ b,b=wr.heap.size→b<W4.drew.heap.size∧¬(S1 b∧b<wr.heap.size)∧¬(S2 b∧b<wr.heap.size)∧b≠gr∧b≠gy:=fun b hb=>by
        have:=obj_lt ag
        subst hb
        exact ⟨this,fun h=>by have:=h.2;omega,fun h=>by have:=h.2;omega,by omega,by omega⟩
       have ak:=b4.next a2.ok (c:=c1) (d:=d1) (m:=m1) a (af.later b4.one.keeps.below) a3 aH.out cp.out (fun b=>b=wr.heap.size) bD
       rw [av,← ax,← aB] at ak
       have aO:=Hi ak
       have aK:Hid (∀ X5,wr.heap.size<X5.heap.size→(∃ S1 T1 S2 T2,Quad w X5 S1 T1 S2 T2 gw gr gv gy k' r k2 r0∧(∀ b,b=wr.heap.size→¬S1 b∧¬S2 b∧b≠gr∧b≠gy))→Calls Tryz.prog 14 #[.pointer (some ⟨gr,0,none⟩),.agg #[.int .i64 f.kind,.int .i64 f.number,.slice A1 n1 c1,.int .i64 f.seq,.int .i64 f.first,.int .i64 f.rows,.slice B1 n2 d1,.int .i64 f.spot,.int .i64 f.frames,.int .i64 f.irows,.slice E1 n3 m1],.int .i64 a] X5 fun e w'=>e=.returned (.int .i64 er)∧Gone w X5 w' gw gr gv gy k' r' k2 r0 (fun b=>b=wr.heap.size)):=Hi fun X5 cf hq=>by
        obtain ⟨S1',T1',S2',T2',h5,hx⟩:=hq
        have h:=h5.rnext a2.fit (c:=c1) (d:=d1) (m:=m1) a (af.later h5.one.keeps.below) a1 a3 aH.out (by omega) (fun b=>b=wr.heap.size) fun b hb=>⟨by rw [hb];exact cf,hx b hb⟩
        rw [av,← a9,he,← aB] at h
        exact h
       have aG:Hid (W4.drew.heap[wr.heap.size]? = some (.cells #[.int .i64 f.kind,.int .i64 f.number,.slice A1 n1 c1,.int .i64 f.seq,.int .i64 f.first,.int .i64 f.rows,.slice B1 n2 d1,.int .i64 f.spot,.int .i64 f.frames,.int .i64 f.irows,.slice E1 n3 m1,.int .i64 a] 38 (0,0))):=Hi ag
       have ay:=cells12 ag
       clear a7 a2 af a1 a3 he a8 av b4 ak ax a9 aB al ag am bD cc b5 HQ
       clear ac ab aa
       obtain ⟨t0,t1,t2,t3,t4,t5,t6,t7,t8,t9,t10,t11⟩:=ay
       go_wp2_with fail
       rw [← ai]
       clear ai
       refine wp_region_held_drew (S:=fun w'=>w'.cell? ⟨wr.heap.size,0,none⟩=some (.int .i64 f.kind)∧w'.cell? ⟨wr.heap.size,1,none⟩=some (.int .i64 f.number)∧w'.cell? ⟨wr.heap.size,2,none⟩=some (.slice A1 n1 c1)∧w'.cell? ⟨wr.heap.size,3,none⟩=some (.int .i64 f.seq)∧w'.cell? ⟨wr.heap.size,4,none⟩=some (.int .i64 f.first)∧w'.cell? ⟨wr.heap.size,5,none⟩=some (.int .i64 f.rows)∧w'.cell? ⟨wr.heap.size,6,none⟩=some (.slice B1 n2 d1)∧w'.cell? ⟨wr.heap.size,7,none⟩=some (.int .i64 f.spot)∧w'.cell? ⟨wr.heap.size,8,none⟩=some (.int .i64 f.frames)∧w'.cell? ⟨wr.heap.size,9,none⟩=some (.int .i64 f.irows)∧w'.cell? ⟨wr.heap.size,10,none⟩=some (.slice E1 n3 m1)∧w'.cell? ⟨wr.heap.size,11,none⟩=some (.int .i64 a)) (by kernel_rfl) ?_ (fun hHeld=>?_)
       · (try dsimp only);(refine ⟨?_, ?_, ?_, ?_, ?_, ?_, ?_, ?_, ?_, ?_, ?_, ?_⟩ <;> first | assumption | go_keep)
       refine takeH 0 (v:=?_) rfl (by kernel_rfl) (by kernel_rfl) (by kernel_rfl) (fun _ _ _ h=>h) (Or.inl ⟨by first | kernel_rfl | rfl, ?_⟩) (by assumption) ?_
       rotate_left
       · (intro w a0;(try dsimp only at a0);go_simp;try with_reducible rfl)
       try simp only [Act.put,List.setIfInBounds_toArray,List.set_cons_zero,List.set_cons_succ]
       refine takeH 1 (v:=?_) rfl (by kernel_rfl) (by kernel_rfl) (by kernel_rfl) (fun _ _ _ h=>h) (Or.inl ⟨by first | kernel_rfl | rfl, ?_⟩) (by assumption) ?_
       rotate_left
       · (intro w a0;(try dsimp only at a0);go_simp;try with_reducible rfl)
       try simp only [Act.put,List.setIfInBounds_toArray,List.set_cons_zero,List.set_cons_succ]
       refine takeH 2 (v:=?_) rfl (by kernel_rfl) (by kernel_rfl) (by kernel_rfl) (fun _ _ _ h=>h) (Or.inl ⟨by first | kernel_rfl | rfl, ?_⟩) (by assumption) ?_
       rotate_left
       · (intro w a0;(try dsimp only at a0);go_simp;try with_reducible rfl)
       try simp only [Act.put,List.setIfInBounds_toArray,List.set_cons_zero,List.set_cons_succ]
       refine takeH 3 (v:=?_) rfl (by kernel_rfl) (by kernel_rfl) (by kernel_rfl) (fun _ _ _ h=>h) (Or.inl ⟨by first | kernel_rfl | rfl, ?_⟩) (by assumption) ?_
       rotate_left
       · (intro w a0;(try dsimp only at a0);go_simp;try with_reducible rfl)
       try simp only [Act.put,List.setIfInBounds_toArray,List.set_cons_zero,List.set_cons_succ]
       refine takeH 4 (v:=?_) rfl (by kernel_rfl) (by kernel_rfl) (by kernel_rfl) (fun _ _ _ h=>h) (Or.inl ⟨by first | kernel_rfl | rfl, ?_⟩) (by assumption) ?_
       rotate_left
       · (intro w a0;(try dsimp only at a0);go_simp;try with_reducible rfl)
       try simp only [Act.put,List.setIfInBounds_toArray,List.set_cons_zero,List.set_cons_succ]
       refine takeH 6 (v:=?_) rfl (by kernel_rfl) (by kernel_rfl) (by kernel_rfl) (fun _ _ _ h=>h) (Or.inl ⟨by first | kernel_rfl | rfl, ?_⟩) (by assumption) ?_
       rotate_left
       · (intro w a0;(try dsimp only at a0);go_simp;try with_reducible rfl)
       try simp only [Act.put,List.setIfInBounds_toArray,List.set_cons_zero,List.set_cons_succ]
       refine takeH 7 (v:=?_) rfl (by kernel_rfl) (by kernel_rfl) (by kernel_rfl) (fun _ _ _ h=>h) (Or.inl ⟨by first | kernel_rfl | rfl, ?_⟩) (by assumption) ?_
       rotate_left
       · (intro w a0;(try dsimp only at a0);go_simp;try with_reducible rfl)
       try simp only [Act.put,List.setIfInBounds_toArray,List.set_cons_zero,List.set_cons_succ]
       refine takeH 8 (v:=?_) rfl (by kernel_rfl) (by kernel_rfl) (by kernel_rfl) (fun _ _ _ h=>h) (Or.inl ⟨by first | kernel_rfl | rfl, ?_⟩) (by assumption) ?_
       rotate_left
       · (intro w a0;(try dsimp only at a0);go_simp;try with_reducible rfl)
       try simp only [Act.put,List.setIfInBounds_toArray,List.set_cons_zero,List.set_cons_succ]
       refine takeH 9 (v:=?_) rfl (by kernel_rfl) (by kernel_rfl) (by kernel_rfl) (fun _ _ _ h=>h) (Or.inl ⟨by first | kernel_rfl | rfl, ?_⟩) (by assumption) ?_
       rotate_left
       · (intro w a0;(try dsimp only at a0);go_simp;try with_reducible rfl)
       try simp only [Act.put,List.setIfInBounds_toArray,List.set_cons_zero,List.set_cons_succ]
       refine takeH 10 (v:=?_) rfl (by kernel_rfl) (by kernel_rfl) (by kernel_rfl) (fun _ _ _ h=>h) (Or.inl ⟨by first | kernel_rfl | rfl, ?_⟩) (by assumption) ?_
       rotate_left
       · (intro w a0;(try dsimp only at a0);go_simp;try with_reducible rfl)
       try simp only [Act.put,List.setIfInBounds_toArray,List.set_cons_zero,List.set_cons_succ]
       refine nextH 5 (by kernel_rfl) rfl (fun K hK=>?_)
       go_simp
       (try go_at_call 13)
       refine aO.out.mono ?_
       rintro e w5 ⟨rfl,hg⟩
       have b7:wr.heap.size<w5.heap.size:=Nat.lt_of_lt_of_le (obj_lt aG.out) (by obtain ⟨_,_,_,_,hq,_⟩:=hg.ex;exact Gone.size hg)
       have hb:=(hg.far wr.heap.size rfl (obj_lt aG.out)).trans aG.out
       obtain ⟨z0,z1,z2,z3,z4,z5,z6,z7,z8,z9,z10,z11⟩:=cells12 hb
       have bd:=Hi hb
       have ci:=Hi hg.ex
       clear hg hb
       refine hK.out _ _ ?_ (fun hHeld=>?_)
       · (try dsimp only);(refine ⟨?_, ?_, ?_, ?_, ?_, ?_, ?_, ?_, ?_, ?_, ?_, ?_⟩ <;> first | assumption | go_keep)
       clear hK K
       try simp only [Act.put,List.setIfInBounds_toArray,List.set_cons_zero,List.set_cons_succ]
       refine nextH 11 (by kernel_rfl) rfl (fun K hK=>?_)
       go_simp
       (try go_at_call 14)
       refine (aK.out w5 b7 ci.out).mono ?_
       rintro e w6 ⟨rfl,hg⟩
       have hb:=(hg.far wr.heap.size rfl (obj_lt bd.out)).trans bd.out
       obtain ⟨y0,y1,y2,y3,y4,y5,y6,y7,y8,y9,y10,y11⟩:=cells12 hb
       have cs:=Hi hg.ex
       clear hg hb
       refine hK.out _ _ ?_ (fun hHeld=>?_)
       · (try dsimp only);(refine ⟨?_, ?_, ?_, ?_, ?_, ?_, ?_, ?_, ?_, ?_, ?_, ?_⟩ <;> first | assumption | go_keep)
       clear hK K
       try simp only [Act.put,List.setIfInBounds_toArray,List.set_cons_zero,List.set_cons_succ]
       refine takeH 12 (v:=?_) rfl (by kernel_rfl) (by kernel_rfl) (by kernel_rfl) (fun _ _ _ h=>h) (Or.inl ⟨by first | kernel_rfl | rfl, ?_⟩) (by assumption) ?_
       rotate_left
       · (intro w a0;(try dsimp only at a0);go_simp;try with_reducible rfl)
       try simp only [Act.put,List.setIfInBounds_toArray,List.set_cons_zero,List.set_cons_succ]
       refine wpAnyH_done (by kernel_rfl) ?_ _
       obtain ⟨S1',T1',S2',T2',bk,_⟩:=cs.out
       have cm:=Hi bk
       clear bk
       go_wp2
       exact ⟨⟨j+1,k',r',S1',T1',S2',T2',by omega,by go_num,cm.out,a4.out,by omega⟩,by simp [intOf];omega⟩
     · have ba:¬(j:Int)<(NB:Int):=by omega
       have cn:=Hi a7
       have bq:=Hi a2
       have bp:=a7.two.duo.seen a4.out none 0 [] (RowAt.nil _ _) (by simp) aH.out
       have bP:=Hi bp
       clear a7 a2 bp HQ bH hj
       go_wp2_with fail
       refine bP.out.mono ?_
       rintro e w6 ⟨rfl,cJ⟩
       have bQ:=Hi (cn.out.below cJ).swap
       clear cJ bP
       go_wp2_with fail
       obtain ⟨kA,cX⟩:∃ kA,kA=k:=⟨_,rfl⟩
       obtain ⟨rA,bs⟩:∃ rA,rA=r:=⟨_,rfl⟩
       rw [← cX,← bs] at bQ bq
       clear cX bs
       go_loopw [94] (fun i wr=>∃ (j:Nat) (k:Wk) (r:Rk) (S1 T1 S2 T2:Nat→Prop),j≤NC∧i=.int .i64 (j:Int)∧Quad w wr S1 T1 S2 T2 gv gy gw gr k r kA rA∧Twin k r∧r.L.length≤100+j) (fun i _=>NC-(intOf i).toNat)
       case atStart=>
        exact ⟨0,k2,r0,_,_,_,_,by omega,rfl,bQ.out,a4.out,by omega⟩
       case round=>
        rename_i wr
        obtain ⟨j,k,r,S1,T1,S2,T2,hj,rfl,a7,a2,bH⟩:=hrel
        by_cases bg:j<NC
        · have am:=a7.one.keeps
          obtain ⟨ad,rfl,A1,c1,B1,d1,E1,m1,af,a1,a3,au⟩:=dl.out.at j (by rw [← dC.out];exact bg)
          obtain ⟨p0,p1,p2,p3,p4,p5,p6,p7,p8,p9,p10,p11⟩:=au wr am.below
          clear au
          generalize lC[j]'_=x at *
          obtain ⟨f,a⟩:=x
          simp only at p0 p1 p2 p3 p4 p5 p6 p7 p8 p9 p10 p11 af a1 a3
          have ba:(j:Int)<(NC:Int):=by omega
          have cM:(0:Int)≤(j:Int):=by omega
          obtain ⟨he,a8⟩:=a2.next a3 a
          obtain ⟨n1,ac⟩:∃ n1,n1=f.cols.length:=⟨_,rfl⟩
          obtain ⟨n2,ab⟩:∃ n2,n2=f.block.length:=⟨_,rfl⟩
          obtain ⟨n3,aa⟩:∃ n3,n3=f.ents.length:=⟨_,rfl⟩
          obtain ⟨W4,ai⟩:∃ W4,W4=wr.alloc (.cells #[.int .i64 f.kind,.int .i64 f.number,.slice A1 n1 c1,.int .i64 f.seq,.int .i64 f.first,.int .i64 f.rows,.slice B1 n2 d1,.int .i64 f.spot,.int .i64 f.frames,.int .i64 f.irows,.slice E1 n3 m1,.int .i64 a] 38):=⟨_,rfl⟩
          rw [← ac] at p2
          rw [← ab] at p6
          rw [← aa] at p10
          have av:frCells A1 c1 B1 d1 E1 m1 f=#[.int .i64 f.kind,.int .i64 f.number,.slice A1 n1 c1,.int .i64 f.seq,.int .i64 f.first,.int .i64 f.rows,.slice B1 n2 d1,.int .i64 f.spot,.int .i64 f.frames,.int .i64 f.irows,.slice E1 n3 m1]:=by rw [ac,ab,aa];rfl
          have al:Keeps wr W4:=by rw [ai];exact (Keeps.refl wr).alloc _
          have ag:W4.heap[wr.heap.size]? = some (.cells #[.int .i64 f.kind,.int .i64 f.number,.slice A1 n1 c1,.int .i64 f.seq,.int .i64 f.first,.int .i64 f.rows,.slice B1 n2 d1,.int .i64 f.spot,.int .i64 f.frames,.int .i64 f.irows,.slice E1 n3 m1,.int .i64 a] 38 (0,0)):=by rw [ai];exact obj_new wr _
          obtain ⟨er,aB⟩:∃ er,er=(k.next f a).2:=⟨_,rfl⟩
          obtain ⟨k',ax⟩:∃ k',k'=(k.next f a).1:=⟨_,rfl⟩
          obtain ⟨r',a9⟩:∃ r',r'=(r.next f a).1:=⟨_,rfl⟩
          have a4:Hid (Twin k' r'):=Hi (by rw [ax,a9];exact a8)
          have bi:r'.L.length≤r.L.length+1:=by rw [a9];exact r.next_len f a
          have b4:=a7.here.below (al.trans (Keeps.drew W4))
          have cc:=a7.one.ref.lt
          have b5:=a7.two.ref.lt
          have bD:∀ b,b=wr.heap.size→b<W4.drew.heap.size∧¬(S1 b∧b<wr.heap.size)∧¬(S2 b∧b<wr.heap.size)∧b≠gy∧b≠gr:=fun b hb=>by
           have:=obj_lt ag
           subst hb
           exact ⟨this,fun h=>by have:=h.2;omega,fun h=>by have:=h.2;omega,by omega,by omega⟩
          have ak:=b4.next a2.ok (c:=c1) (d:=d1) (m:=m1) a (af.later b4.one.keeps.below) a3 aH.out cp.out (fun b=>b=wr.heap.size) bD
          rw [av,← ax,← aB] at ak
          have aO:=Hi ak
          have aK:Hid (∀ X5,wr.heap.size<X5.heap.size→(∃ S1 T1 S2 T2,Quad w X5 S1 T1 S2 T2 gv gy gw gr k' r kA rA∧(∀ b,b=wr.heap.size→¬S1 b∧¬S2 b∧b≠gy∧b≠gr))→Calls Tryz.prog 14 #[.pointer (some ⟨gy,0,none⟩),.agg #[.int .i64 f.kind,.int .i64 f.number,.slice A1 n1 c1,.int .i64 f.seq,.int .i64 f.first,.int .i64 f.rows,.slice B1 n2 d1,.int .i64 f.spot,.int .i64 f.frames,.int .i64 f.irows,.slice E1 n3 m1],.int .i64 a] X5 fun e w'=>e=.returned (.int .i64 er)∧Gone w X5 w' gv gy gw gr k' r' kA rA (fun b=>b=wr.heap.size)):=Hi fun X5 cf hq=>by
           obtain ⟨S1',T1',S2',T2',h5,hx⟩:=hq
           have h:=h5.rnext a2.fit (c:=c1) (d:=d1) (m:=m1) a (af.later h5.one.keeps.below) a1 a3 aH.out (by omega) (fun b=>b=wr.heap.size) fun b hb=>⟨by rw [hb];exact cf,hx b hb⟩
           rw [av,← a9,he,← aB] at h
           exact h
          have aG:Hid (W4.drew.heap[wr.heap.size]? = some (.cells #[.int .i64 f.kind,.int .i64 f.number,.slice A1 n1 c1,.int .i64 f.seq,.int .i64 f.first,.int .i64 f.rows,.slice B1 n2 d1,.int .i64 f.spot,.int .i64 f.frames,.int .i64 f.irows,.slice E1 n3 m1,.int .i64 a] 38 (0,0))):=Hi ag
          have ay:=cells12 ag
          clear a7 a2 af a1 a3 he a8 av b4 ak ax a9 aB al ag am bD cc b5 cn bQ
          clear ac ab aa
          obtain ⟨t0,t1,t2,t3,t4,t5,t6,t7,t8,t9,t10,t11⟩:=ay
          go_wp2_with fail
          rw [← ai]
          clear ai
          refine wp_region_held_drew (S:=fun w'=>w'.cell? ⟨wr.heap.size,0,none⟩=some (.int .i64 f.kind)∧w'.cell? ⟨wr.heap.size,1,none⟩=some (.int .i64 f.number)∧w'.cell? ⟨wr.heap.size,2,none⟩=some (.slice A1 n1 c1)∧w'.cell? ⟨wr.heap.size,3,none⟩=some (.int .i64 f.seq)∧w'.cell? ⟨wr.heap.size,4,none⟩=some (.int .i64 f.first)∧w'.cell? ⟨wr.heap.size,5,none⟩=some (.int .i64 f.rows)∧w'.cell? ⟨wr.heap.size,6,none⟩=some (.slice B1 n2 d1)∧w'.cell? ⟨wr.heap.size,7,none⟩=some (.int .i64 f.spot)∧w'.cell? ⟨wr.heap.size,8,none⟩=some (.int .i64 f.frames)∧w'.cell? ⟨wr.heap.size,9,none⟩=some (.int .i64 f.irows)∧w'.cell? ⟨wr.heap.size,10,none⟩=some (.slice E1 n3 m1)∧w'.cell? ⟨wr.heap.size,11,none⟩=some (.int .i64 a)) (by kernel_rfl) ?_ (fun hHeld=>?_)
          · (try dsimp only);(refine ⟨?_, ?_, ?_, ?_, ?_, ?_, ?_, ?_, ?_, ?_, ?_, ?_⟩ <;> first | assumption | go_keep)
          refine takeH 0 (v:=?_) rfl (by kernel_rfl) (by kernel_rfl) (by kernel_rfl) (fun _ _ _ h=>h) (Or.inl ⟨by first | kernel_rfl | rfl, ?_⟩) (by assumption) ?_
          rotate_left
          · (intro w a0;(try dsimp only at a0);go_simp;try with_reducible rfl)
          try simp only [Act.put,List.setIfInBounds_toArray,List.set_cons_zero,List.set_cons_succ]
          refine takeH 1 (v:=?_) rfl (by kernel_rfl) (by kernel_rfl) (by kernel_rfl) (fun _ _ _ h=>h) (Or.inl ⟨by first | kernel_rfl | rfl, ?_⟩) (by assumption) ?_
          rotate_left
          · (intro w a0;(try dsimp only at a0);go_simp;try with_reducible rfl)
          try simp only [Act.put,List.setIfInBounds_toArray,List.set_cons_zero,List.set_cons_succ]
          refine takeH 2 (v:=?_) rfl (by kernel_rfl) (by kernel_rfl) (by kernel_rfl) (fun _ _ _ h=>h) (Or.inl ⟨by first | kernel_rfl | rfl, ?_⟩) (by assumption) ?_
          rotate_left
          · (intro w a0;(try dsimp only at a0);go_simp;try with_reducible rfl)
          try simp only [Act.put,List.setIfInBounds_toArray,List.set_cons_zero,List.set_cons_succ]
          refine takeH 3 (v:=?_) rfl (by kernel_rfl) (by kernel_rfl) (by kernel_rfl) (fun _ _ _ h=>h) (Or.inl ⟨by first | kernel_rfl | rfl, ?_⟩) (by assumption) ?_
          rotate_left
          · (intro w a0;(try dsimp only at a0);go_simp;try with_reducible rfl)
          try simp only [Act.put,List.setIfInBounds_toArray,List.set_cons_zero,List.set_cons_succ]
          refine takeH 4 (v:=?_) rfl (by kernel_rfl) (by kernel_rfl) (by kernel_rfl) (fun _ _ _ h=>h) (Or.inl ⟨by first | kernel_rfl | rfl, ?_⟩) (by assumption) ?_
          rotate_left
          · (intro w a0;(try dsimp only at a0);go_simp;try with_reducible rfl)
          try simp only [Act.put,List.setIfInBounds_toArray,List.set_cons_zero,List.set_cons_succ]
          refine takeH 6 (v:=?_) rfl (by kernel_rfl) (by kernel_rfl) (by kernel_rfl) (fun _ _ _ h=>h) (Or.inl ⟨by first | kernel_rfl | rfl, ?_⟩) (by assumption) ?_
          rotate_left
          · (intro w a0;(try dsimp only at a0);go_simp;try with_reducible rfl)
          try simp only [Act.put,List.setIfInBounds_toArray,List.set_cons_zero,List.set_cons_succ]
          refine takeH 7 (v:=?_) rfl (by kernel_rfl) (by kernel_rfl) (by kernel_rfl) (fun _ _ _ h=>h) (Or.inl ⟨by first | kernel_rfl | rfl, ?_⟩) (by assumption) ?_
          rotate_left
          · (intro w a0;(try dsimp only at a0);go_simp;try with_reducible rfl)
          try simp only [Act.put,List.setIfInBounds_toArray,List.set_cons_zero,List.set_cons_succ]
          refine takeH 8 (v:=?_) rfl (by kernel_rfl) (by kernel_rfl) (by kernel_rfl) (fun _ _ _ h=>h) (Or.inl ⟨by first | kernel_rfl | rfl, ?_⟩) (by assumption) ?_
          rotate_left
          · (intro w a0;(try dsimp only at a0);go_simp;try with_reducible rfl)
          try simp only [Act.put,List.setIfInBounds_toArray,List.set_cons_zero,List.set_cons_succ]
          refine takeH 9 (v:=?_) rfl (by kernel_rfl) (by kernel_rfl) (by kernel_rfl) (fun _ _ _ h=>h) (Or.inl ⟨by first | kernel_rfl | rfl, ?_⟩) (by assumption) ?_
          rotate_left
          · (intro w a0;(try dsimp only at a0);go_simp;try with_reducible rfl)
          try simp only [Act.put,List.setIfInBounds_toArray,List.set_cons_zero,List.set_cons_succ]
          refine takeH 10 (v:=?_) rfl (by kernel_rfl) (by kernel_rfl) (by kernel_rfl) (fun _ _ _ h=>h) (Or.inl ⟨by first | kernel_rfl | rfl, ?_⟩) (by assumption) ?_
          rotate_left
          · (intro w a0;(try dsimp only at a0);go_simp;try with_reducible rfl)
          try simp only [Act.put,List.setIfInBounds_toArray,List.set_cons_zero,List.set_cons_succ]
          refine nextH 5 (by kernel_rfl) rfl (fun K hK=>?_)
          go_simp
          (try go_at_call 13)
          refine aO.out.mono ?_
          rintro e w5 ⟨rfl,hg⟩
          have b7:wr.heap.size<w5.heap.size:=Nat.lt_of_lt_of_le (obj_lt aG.out) (by obtain ⟨_,_,_,_,hq,_⟩:=hg.ex;exact Gone.size hg)
          have hb:=(hg.far wr.heap.size rfl (obj_lt aG.out)).trans aG.out
          obtain ⟨z0,z1,z2,z3,z4,z5,z6,z7,z8,z9,z10,z11⟩:=cells12 hb
          have bd:=Hi hb
          have ci:=Hi hg.ex
          clear hg hb
          refine hK.out _ _ ?_ (fun hHeld=>?_)
          · (try dsimp only);(refine ⟨?_, ?_, ?_, ?_, ?_, ?_, ?_, ?_, ?_, ?_, ?_, ?_⟩ <;> first | assumption | go_keep)
          clear hK K
          try simp only [Act.put,List.setIfInBounds_toArray,List.set_cons_zero,List.set_cons_succ]
          refine nextH 11 (by kernel_rfl) rfl (fun K hK=>?_)
          go_simp
          (try go_at_call 14)
          refine (aK.out w5 b7 ci.out).mono ?_
          rintro e w6 ⟨rfl,hg⟩
          have hb:=(hg.far wr.heap.size rfl (obj_lt bd.out)).trans bd.out
          obtain ⟨y0,y1,y2,y3,y4,y5,y6,y7,y8,y9,y10,y11⟩:=cells12 hb
          have cs:=Hi hg.ex
          clear hg hb
          refine hK.out _ _ ?_ (fun hHeld=>?_)
          · (try dsimp only);(refine ⟨?_, ?_, ?_, ?_, ?_, ?_, ?_, ?_, ?_, ?_, ?_, ?_⟩ <;> first | assumption | go_keep)
          clear hK K
          try simp only [Act.put,List.setIfInBounds_toArray,List.set_cons_zero,List.set_cons_succ]
          refine takeH 12 (v:=?_) rfl (by kernel_rfl) (by kernel_rfl) (by kernel_rfl) (fun _ _ _ h=>h) (Or.inl ⟨by first | kernel_rfl | rfl, ?_⟩) (by assumption) ?_
          rotate_left
          · (intro w a0;(try dsimp only at a0);go_simp;try with_reducible rfl)
          try simp only [Act.put,List.setIfInBounds_toArray,List.set_cons_zero,List.set_cons_succ]
          refine wpAnyH_done (by kernel_rfl) ?_ _
          obtain ⟨S1',T1',S2',T2',bk,_⟩:=cs.out
          have cm:=Hi bk
          clear bk
          go_wp2
          exact ⟨⟨j+1,k',r',S1',T1',S2',T2',by omega,by go_num,cm.out,a4.out,by omega⟩,by simp [intOf];omega⟩
        · have ba:¬(j:Int)<(NC:Int):=by omega
          have dP:=Hi a7
          have cq:=Hi a2
          have bp:=a7.two.duo.seen bq.out none 0 [] (RowAt.nil _ _) (by simp) aH.out
          have bP:=Hi bp
          have ea:=Hi a7.one.keeps
          clear a7 a2 bp cn bQ bH hj
          go_wp2_with fail
          refine bP.out.mono ?_
          rintro e w7 ⟨rfl,ce⟩
          have bx:=(dP.out.below ce).one.duo.seen cq.out none 0 [] (RowAt.nil _ _) (by simp) aH.out
          have c8:=Hi bx
          have e8:=Hi (ea.out.trans ce)
          clear bx ce
          go_wp2_with fail
          refine c8.out.mono ?_
          rintro e w8 ⟨rfl,d9⟩
          have ec:=Hi (e8.out.trans d9)
          clear d9
          go_wp2
          go_ret
          exact ⟨rfl,ec.out⟩
end Go.Proofs.YtihodcnnappkbaaGreatDoor
