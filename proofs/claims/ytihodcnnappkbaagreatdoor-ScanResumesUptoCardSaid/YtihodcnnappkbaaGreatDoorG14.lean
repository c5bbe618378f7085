/-
  The walk of FrameBack. Condition: the frame and the bytes read; the tables are as laid. The frame at a place of a file: plain. No condition. Maps from whole numbers at the operations: a look-up and a store. Condition: the map's entries have these keys. A walk over frames (package scan) in memory; a new one. No condition. What tells how a walk over frames stands. Condition: it stands for its plain walk. The walk of copied: a schema in new memory. Condition: the schema reads; the tables are as laid. The walk of a walk's Schema. Condition: it stands for its plain walk; the tables are as laid. The walk of a walk's Entries. Condition: it stands for its plain walk. The walk of a walk's Place. Condition: it stands for its plain walk. The walk of the law's one: the schema of one column. No condition. What a next frame does to a walk: plain; a store into its map. No condition. What the law's live asks of a walk and of a file: plain. No condition.
-/
import Derived.Test.YtihodcnnappkbaaGreatDoorG10
import Derived.Test.YtihodcnnappkbaaGreatDoorG11
import Derived.Test.YtihodcnnappkbaaGreatDoorG9
import Derived.Test.YtihodcnnappkbaaGreatDoorG12
import Derived.Test.YtihodcnnappkbaaGreatDoorG1
import Derived.MapKept
import Derived.Test.YtihodcnnappkbaaGreatDoorG3
import Derived.Test.YtihodcnnappkbaaGreatDoorG7
import Derived.Test.YtihodcnnappkbaaGreatDoorG6
import Derived.Test.YtihodcnnappkbaaGreatDoorG4
import Derived.Test.YtihodcnnappkbaaGreatDoorG8
set_option linter.unusedVariables false
set_option linter.unusedSimpArgs false
set_option maxHeartbeats 2000000
set_option maxRecDepth 20000
namespace Go.Proofs.YtihodcnnappkbaaGreatDoor
section
open Go.RowKit Go.BigFrame
theorem encF_nz {f:Fr} {e:Int} (h:encF f=.error e):e≠0:=by
 unfold encF at h
 split at h
 · unfold encFin at h
   split at h
   · injection h with h;omega
   · cases h
 · rename_i h0
   injection h with h
   rw [← h]
   exact h0
theorem takeF_nz {l:List UInt8} {e:Int} (h:takeF l=.error e):e≠0:=by
 cases l with
 | nil=>injection h with h;omega
 | cons b t=>
   rw [takeF] at h
   split at h
   · unfold takeS at h
     simp only at h
     split at h
     · injection h with h;omega
     · split at h
       · rename_i hd
         injection h with h
         subst h
         exact decodeS_nz hd
       · cases h
   split at h
   · unfold takeD at h
     simp only at h
     split at h
     · injection h with h;omega
     · cases h
   split at h
   · unfold takeI at h
     simp only at h
     split at h
     · injection h with h;omega
     · cases h
   · injection h with h;omega
theorem decF_nz {l:List UInt8} {e:Int} (h:decF l=.error e):e≠0:=by
 unfold decF at h
 split at h
 · injection h with h;omega
 split at h
 · rename_i h2
   injection h with h
   rw [← h]
   exact h2
 split at h
 · injection h with h;omega
 split at h
 · injection h with h;omega
 · exact takeF_nz h
end
section
open Go.RowKit Go.BigFrame
def fetchF (r:Except Int Fr) (p:Int):Except Int (Fr×Int):=match r with | .error e=>.error e | .ok f=>.ok (f,p)
def fetchT (t:List UInt8) (a:Int):Except Int (Fr×Int):=
 if (nz t).length<t.length then (if (nz t).length=0 then .error 4 else fetchF (decF (nz t)) (a+((nz t).length:Int)+2))
 else if t.length=2201 then .error 2 else .error 142
def fetchB (b:List UInt8) (a:Int):Except Int (Fr×Int):=
 match b with
 | []=>.error 142
 | x :: t=>if x≠0 then .error 141 else fetchT t a
def fetch (d:Dv) (a:Int):Except Int (Fr×Int):=
 if d.down then .error 50
 else if a<0∨(d.b.length:Int)<a then .error 7
 else if a=(d.b.length:Int) then .error 140
 else fetchB ((d.b.drop a.toNat).take 2202) a
def fetchD (d:Dv) (a:Int):Dv:=if d.down∨a<0∨(d.b.length:Int)≤a then d else (d.read a 2202).1
def FetchPost (w:World) (r:Except Int (Fr×Int)) (e:Ending) (w':World):Prop:=
 match r with
 | .error x=>e=.returned (.tuple #[.agg (frCells none 0 none 0 none 0 frZero),.int .i64 0,.int .i64 x])
 | .ok (f,n)=>∃ A c B d E k,e=.returned (.tuple #[.agg (frCells A c B d E k f),.int .i64 n,.int .i64 0])∧FrO w' w.heap.size A B d E k f
theorem nz_take (t:List UInt8):t.take (nz t).length=nz t:=by
 have h:(nz t++t.drop (nz t).length).take (nz t).length=nz t:=List.take_left' rfl
 rwa [← nz_append t] at h
theorem touch_new {F:Nat→Prop} {w a b:World} {g:Nat} (h:Touch F w a) (k:Touch (At g) a b) (hg:w.heap.size≤g):Touch F w b:=
 h.trans k fun i hi e=>by rw [At] at e;omega
theorem fetchD_read {d:Dv} {a:Int} (h1:d.down=false) (h2:0≤a) (h3:a<(d.b.length:Int)):fetchD d a=(d.read a 2202).1:=by
 unfold fetchD
 rw [if_neg]
 rintro (h | h | h)
 · rw [h1] at h;cases h
 · omega
 · omega
theorem fetchD_same {d:Dv} {a:Int} (h:d.down=true∨a<0∨(d.b.length:Int)≤a):fetchD d a=d:=by
 unfold fetchD
 rw [if_pos h]
theorem touch11 {w1:World} {g:Nat} (u0 u1 u2 u3 u4 u5 u6 u7 u8 u9 u10:Value):Touch (At g) w1 (((((((((((w1.setCell ⟨g,0,none⟩ u0).setCell ⟨g,1,none⟩ u1).setCell ⟨g,2,none⟩ u2).setCell ⟨g,3,none⟩ u3).setCell ⟨g,4,none⟩ u4).setCell ⟨g,5,none⟩ u5).setCell ⟨g,6,none⟩ u6).setCell ⟨g,7,none⟩ u7).setCell ⟨g,8,none⟩ u8).setCell ⟨g,9,none⟩ u9).setCell ⟨g,10,none⟩ u10):=
 (((((((((((Touch.refl (At g) w1).set 0 u0).set 1 u1).set 2 u2).set 3 u3).set 4 u4).set 5 u5).set 6 u6).set 7 u7).set 8 u8).set 9 u9).set 10 u10
end
section
open Go.RowKit
def keyPos (n:Int):List Int→Nat→Option Nat
 | [],_=>none
 | k :: l,i=>if n=k then some i else keyPos n l (i+1)
theorem keyPos_le {n:Int}:∀ {l:List Int} {i j:Nat},keyPos n l i=some j→i≤j∧j<i+l.length
 | [],i,j,h=>by cases h
 | k :: l,i,j,h=>by
   rw [keyPos] at h
   by_cases e:n=k
   · rw [if_pos e] at h
     injection h with h
     subst h
     simp
   · rw [if_neg e] at h
     have:=keyPos_le h
     simp only [List.length_cons]
     omega
theorem keyPos_at {n:Int}:∀ {l:List Int} {i j:Nat},keyPos n l i=some j→l[j-i]? = some n
 | [],i,j,h=>by cases h
 | k :: l,i,j,h=>by
   rw [keyPos] at h
   by_cases e:n=k
   · rw [if_pos e] at h
     injection h with h
     subst h e
     simp
   · rw [if_neg e] at h
     have h1:=(keyPos_le h).1
     rw [show j-i=(j-(i+1))+1 by omega,List.getElem?_cons_succ]
     exact keyPos_at h
theorem keyPos_none {n:Int}:∀ {l:List Int} {i:Nat},keyPos n l i=none→n∉l
 | [],i,_=>by simp
 | k :: l,i,h=>by
   rw [keyPos] at h
   by_cases e:n=k
   · rw [if_pos e] at h;cases h
   · rw [if_neg e] at h
     intro hm
     rcases List.mem_cons.1 hm with h1 | h1
     · exact e h1
     · exact keyPos_none h h1
theorem findNow_pos (n:Int):∀ (es:List MapEntry) (ks:List Int) (i:Nat),es.map (·.key)=ks.map (Value.int .i64) →
 Instr.findNow (.int .i64) (.int .i64 n) es i=some ((keyPos n ks i).bind fun j=>(es[j-i]?).map fun e=>(j,e.val))
 | [],ks,i,h=>by
   cases ks with
   | nil=>rfl
   | cons k ks=>simp at h
 | e :: es,[],i,h=>by simp at h
 | e :: es,k :: ks,i,h=>by
   simp only [List.map_cons,List.cons.injEq] at h
   rw [Instr.findNow,h.1,keyPos]
   by_cases q:n=k
   · subst q
     simp [Instr.sameNow]
   · have q2:(n==k)=false:=by simpa using q
     rw [if_neg q]
     simp only [Instr.sameNow,if_true,q2]
     rw [findNow_pos n es ks (i+1) h.2]
     cases hp:keyPos n ks (i+1) with
     | none=>rfl
     | some j=>
       have:=(keyPos_le hp).1
       simp only [Option.bind_some]
       rw [show j-i=(j-(i+1))+1 by omega,List.getElem?_cons_succ]
structure Stamps (es:Array MapEntry) (clock:Nat):Prop where
 lt:∀ x∈es.toList,x.born<clock
 nd:(es.toList.map (·.born)).Nodup
theorem Stamps.same {es es':Array MapEntry} {clock:Nat} (h:Stamps es clock) (e:es'.toList.map (·.born)=es.toList.map (·.born)):Stamps es' clock:=
 ⟨fun x hx=>by
  have h1:x.born∈es'.toList.map (·.born):=List.mem_map.2 ⟨x,hx,rfl⟩
  rw [e] at h1
  obtain ⟨y,hy,hb⟩:=List.mem_map.1 h1
  rw [← hb]
  exact h.lt y hy,by rw [e];exact h.nd⟩
theorem Stamps.push {es:Array MapEntry} {clock:Nat} (h:Stamps es clock) (k v:Value):Stamps (es.push ⟨k,v,clock⟩) (clock+1):=
 ⟨fun x hx=>by
  rw [Array.toList_push] at hx
  rcases List.mem_append.1 hx with h1 | h1
  · have:=h.lt x h1;omega
  · rw [List.mem_singleton.1 h1];simp,by
  rw [Array.toList_push,List.map_append,List.nodup_append]
  refine ⟨h.nd,by simp,fun a ha b hb=>?_⟩
  obtain ⟨y,hy,rfl⟩:=List.mem_map.1 ha
  have:=h.lt y hy
  simp at hb
  omega⟩
section
variable {P:Program} {w:World} {t kt et:TypeId} {b clock:Nat} {es:Array MapEntry} {ks:List Int}
theorem run_look (ht:P.underlying t=some (.map kt et)) (hk:P.underlying kt=some (.int .i64)) {z:Value} (hz:(zeroValue et).run P w=.ok z w) (hb:w.heap[b]? = some (.map es clock))
 (a0:es.toList.map (·.key)=ks.map (Value.int .i64)) (n:Int) (c:Bool) :
 (Instr.lookup t (.map (some b)) (.int .i64 n) c).run P w=.ok (match (keyPos n ks 0).bind fun j=>(es[j]?).map (·.val) with
   | some v=>if c then .tuple #[v,.bool true] else v
   | none=>if c then .tuple #[z,.bool false] else z) w:=by
 have hf:=findNow_pos n es.toList ks 0 a0
 have hc:(Instr.checkKey es.isEmpty 10000 kt (.int .i64 n)).run P w=.ok () w:=MapKept.run_checkKey (k:=.int .i64 n) hk (by simp [MapKept.IsKey]) _ 9999
 cases hp:(keyPos n ks 0) with
 | none=>
   rw [hp] at hf
   simp only [Option.bind_none] at hf
   simp [Instr.lookup,run_underlying ht,MapKept.run_getObj_map hb,hc,MapKept.run_findKey hk hf,hz,Result.andThen]
 | some j=>
   rw [hp] at hf
   have hj:=(keyPos_le hp).2
   have hl:ks.length=es.size:=by have:=congrArg List.length a0;simpa using this.symm
   have he:es.toList[j-0]? = some (es[j]'(by omega)):=by simp
   simp only [Option.bind_some,he,Option.map_some] at hf
   have aq:es[j]? = some (es[j]'(by omega)):=Array.getElem?_eq_getElem (by omega)
   simp [Instr.lookup,run_underlying ht,MapKept.run_getObj_map hb,hc,MapKept.run_findKey hk hf,aq,Result.andThen]
theorem run_put (ht:P.underlying t=some (.map kt et)) (hk:P.underlying kt=some (.int .i64)) (hb:w.heap[b]? = some (.map es clock))
 (a0:es.toList.map (·.key)=ks.map (Value.int .i64)) (n:Int) (v:Value) :
 ∃ es' clock' w',(Instr.mapUpdate t (.map (some b)) (.int .i64 n) v).run P w=.ok () w'∧w'.heap[b]? = some (.map es' clock')∧Touch (At b) w w'∧w'.heap.size=w.heap.size∧(Stamps es clock→Stamps es' clock') ∧
   (match keyPos n ks 0 with
    | some j=>es'.toList.map (·.key)=ks.map (Value.int .i64)∧es'.toList.map (·.val)=(es.toList.map (·.val)).set j v
    | none=>es'.toList.map (·.key)=(ks++[n]).map (Value.int .i64)∧es'.toList.map (·.val)=es.toList.map (·.val)++[v]):=by
 have hf:=findNow_pos n es.toList ks 0 a0
 have hc:(Instr.checkKey false 10000 kt (.int .i64 n)).run P w=.ok () w:=MapKept.run_checkKey (k:=.int .i64 n) hk (by simp [MapKept.IsKey]) _ 9999
 have ad:∀ o,(w.heap.setIfInBounds b o)[b]? = some o∧Touch (At b) w { w with heap:=w.heap.setIfInBounds b o }∧(w.heap.setIfInBounds b o).size=w.heap.size:=fun o=>by
  obtain ⟨h1,h2⟩:=MapKept.heap_set (o':=o) hb
  exact ⟨h1,⟨rfl,rfl,rfl,by simp,fun k _ hk=>h2 k (fun e=>hk e)⟩,by simp⟩
 cases hp:(keyPos n ks 0) with
 | none=>
   rw [hp] at hf
   simp only [Option.bind_none] at hf
   have h:=ad (.map (es.push ⟨.int .i64 n,v,clock⟩) (clock+1))
   refine ⟨_,_,_, ?_,h.1,h.2.1,h.2.2,fun hs=>hs.push _ _, ?_⟩
   · simp [Instr.mapUpdate,run_underlying ht,MapKept.run_getObj_map hb,hc,MapKept.run_findKey hk hf,MapKept.run_setObj_map _ hb,Result.andThen]
   · simp [a0]
 | some j=>
   rw [hp] at hf
   have hj:=(keyPos_le hp).2
   have hl:ks.length=es.size:=by have:=congrArg List.length a0;simpa using this.symm
   have he:es.toList[j-0]? = some (es[j]'(by omega)):=by simp
   simp only [Option.bind_some,he,Option.map_some] at hf
   have b0:(es[j]'(by omega)).key=.int .i64 n:=by
    have h1:=congrArg (fun l=>l[j]?) a0
    have h2:=keyPos_at hp
    rw [Nat.sub_zero] at h2
    simp only [List.getElem?_map,h2,Option.map_some] at h1
    rw [Array.getElem?_toList,Array.getElem?_eq_getElem (show j<es.size by omega),Option.map_some] at h1
    injection h1
   have aq:es[j]? = some (es[j]'(by omega)):=Array.getElem?_eq_getElem (by omega)
   have bd:(Instr.keyThatStays (.int .i64 n) (.int .i64 n)).run P w=.ok (.int .i64 n) w:=by
    simp [Instr.keyThatStays,Instr.sameBits]
   have h:=ad (.map (es.modify j fun e=>{ e with key:=.int .i64 n,val:=v }) clock)
   have a3:(es.modify j fun e=>{ e with key:=.int .i64 n,val:=v }).toList.map (·.born)=es.toList.map (·.born):=by
    rw [Array.toList_modify]
    apply List.ext_getElem?
    intro q
    rw [List.getElem?_map,List.getElem?_map,List.getElem?_modify]
    cases hq:es.toList[q]? with
    | none=>rfl
    | some x=>
      by_cases e:j=q
      · simp [e]
      · simp [e]
   refine ⟨_,_,_, ?_,h.1,h.2.1,h.2.2,fun hs=>hs.same a3, ?_, ?_⟩
   · simp [Instr.mapUpdate,run_underlying ht,MapKept.run_getObj_map hb,hc,MapKept.run_findKey hk hf,MapKept.run_setObj_map _ hb,aq,b0,bd,Result.andThen]
   · rw [← a0,Array.toList_modify]
     apply List.ext_getElem?
     intro q
     rw [List.getElem?_map,List.getElem?_map,List.getElem?_modify]
     cases hq:es.toList[q]? with
     | none=>rfl
     | some x=>
       by_cases e:j=q
       · subst e
         rw [Array.getElem?_toList,aq] at hq
         injection hq with hq
         subst hq
         simp [b0]
       · simp [e]
   · rw [Array.toList_modify]
     apply List.ext_getElem?
     intro q
     rw [List.getElem?_map,List.getElem?_set,List.getElem?_map,List.getElem?_modify]
     cases hq:es.toList[q]? with
     | none=>
       by_cases e:j=q
       · subst e
         rw [Array.getElem?_toList,aq] at hq
         cases hq
       · simp [e]
     | some x=>
       by_cases e:j=q
       · subst e
         simp
         omega
       · simp [e]
end
end
section
open Go.RowKit Go.BigFrame
attribute [local go_sem] run_storeF
structure Wk where
 frames:Int
 rows:Int
 number:Int
 since:Int
 ks:List Int
 vs:List (List Col×Int)
 entries:List Ent
 closed:Bool
def Wk.fresh:Wk:=⟨0,0,-1,0,[],[],[],false⟩
def KnS (w:World) (S:Nat→Prop) (v:Value) (x:List Col×Int):Prop:=∃ A c,v=.agg #[.slice A x.1.length c,.int .i64 x.2]∧SchS w S A x.1
structure MapS (w:World) (S:Nat→Prop) (b:Nat) (ks:List Int) (vs:List (List Col×Int)):Prop where
 ex:∃ (es:Array MapEntry) (clock:Nat),w.heap[b]? = some (.map es clock)∧es.toList.map (·.key)=ks.map (Value.int .i64)∧∀ (i:Nat) (v:Value) (x:List Col×Int),(es.toList.map (·.val))[i]? = some v→vs[i]? = some x→KnS w (fun j=>S j∧j≠b) v x
 len:ks.length=vs.length
 self:S b
 st:∃ (es:Array MapEntry) (clock:Nat),w.heap[b]? = some (.map es clock)∧Stamps es clock
 nd:ks.Nodup
theorem KnS.mono {w:World} {S T:Nat→Prop} {v:Value} {x:List Col×Int} (h:KnS w S v x) (hS:∀ k,k<w.heap.size→S k→T k):KnS w T v x:=by
 obtain ⟨A,c,h1,h2⟩:=h
 exact ⟨A,c,h1,h2.mono hS⟩
theorem KnS.touch {F S:Nat→Prop} {w w':World} {v:Value} {x:List Col×Int} (h:KnS w S v x) (ht:Touch F w w') (hF:∀ k,S k→¬F k):KnS w' S v x:=by
 obtain ⟨A,c,h1,h2⟩:=h
 exact ⟨A,c,h1,h2.touch ht hF⟩
theorem MapS.lt {w:World} {S:Nat→Prop} {b:Nat} {ks:List Int} {vs:List (List Col×Int)} (h:MapS w S b ks vs):b<w.heap.size:=by
 obtain ⟨es,clock,hb,_⟩:=h.ex
 exact (Array.getElem?_eq_some_iff.1 hb).1
theorem MapS.mono {w:World} {S T:Nat→Prop} {b:Nat} {ks:List Int} {vs:List (List Col×Int)} (h:MapS w S b ks vs) (hS:∀ k,k<w.heap.size→S k→T k):MapS w T b ks vs:=by
 have hl:=h.lt
 obtain ⟨⟨es,clock,hb,hk,hv⟩,hn,hs,ad,al⟩:=h
 exact ⟨⟨es,clock,hb,hk,fun i v x h1 h2=>(hv i v x h1 h2).mono fun k hk h=>⟨hS k hk h.1,h.2⟩⟩,hn,hS _ hl hs,ad,al⟩
theorem MapS.touch {F S:Nat→Prop} {w w':World} {b:Nat} {ks:List Int} {vs:List (List Col×Int)} (h:MapS w S b ks vs) (ht:Touch F w w') (hF:∀ k,S k→¬F k):MapS w' S b ks vs:=by
 have hl:=h.lt
 obtain ⟨⟨es,clock,hb,hk,hv⟩,hn,hs,⟨es',clock',a2,ad⟩,al⟩:=h
 exact ⟨⟨es,clock,ht.obj hb (hF b hs),hk,fun i v x h1 h2=>(hv i v x h1 h2).touch ht fun k hk=>hF k hk.1⟩,hn,hs,⟨es',clock',ht.obj a2 (hF b hs),ad⟩,al⟩
def WkV (w:World) (S:Nat→Prop) (g:Nat) (k:Wk):Prop:=
 ∃ b E c,w.heap[g]? = some (.cells #[.int .i64 k.frames,.int .i64 k.rows,.int .i64 k.number,.int .i64 k.since,.map (some b),.slice E k.entries.length c,.bool k.closed] 82 (0,0))∧S g∧b≠g ∧
   MapS w (fun j=>S j∧j≠g∧blk (.slice E k.entries.length c)≠some j) b k.ks k.vs∧Loose w 0 78 3 (.slice E k.entries.length c) k.entries.length (entCells k.entries)∧(∀ j,blk (.slice E k.entries.length c)=some j→S j)
theorem WkV.lt {w:World} {S:Nat→Prop} {g:Nat} {k:Wk} (h:WkV w S g k):g<w.heap.size:=by
 obtain ⟨b,E,c,hg,_⟩:=h
 exact obj_lt hg
theorem WkV.mono {w:World} {S T:Nat→Prop} {g:Nat} {k:Wk} (h:WkV w S g k) (hS:∀ k,k<w.heap.size→S k→T k):WkV w T g k:=by
 have hl:=h.lt
 obtain ⟨b,E,c,hg,hs,hb,hm,hE,az⟩:=h
 exact ⟨b,E,c,hg,hS _ hl hs,hb,hm.mono (fun k hk h=>⟨hS k hk h.1,h.2⟩),hE,fun j hj=>hS _ (hE.lt j hj).2 (az j hj)⟩
theorem WkV.here {w:World} {S:Nat→Prop} {g:Nat} {k:Wk} (h:WkV w S g k):WkV w (fun j=>S j∧j<w.heap.size) g k:=h.mono fun _ hk hS=>⟨hS,hk⟩
theorem WkV.touch {F S:Nat→Prop} {w w':World} {g:Nat} {k:Wk} (h:WkV w S g k) (ht:Touch F w w') (hF:∀ j,S j→¬F j):WkV w' S g k:=by
 obtain ⟨b,E,c,hg,hs,hb,hm,hE,az⟩:=h
 exact ⟨b,E,c,ht.obj hg (hF g hs),hs,hb,hm.touch ht (fun k hk=>hF k hk.1),hE.keep ht fun j hj=>hF j (az j hj),az⟩
theorem WkV.keep {F S:Nat→Prop} {w w':World} {g:Nat} {k:Wk} (h:WkV w S g k) (ht:Touch F w w') (hF:∀ j,j<w.heap.size→S j→¬F j):WkV w' S g k:=by
 have h1:=h.here.touch ht fun j hj=>hF j hj.2 hj.1
 exact h1.mono fun _ _ h=>h.1
theorem WkV.below {S:Nat→Prop} {w w':World} {g:Nat} {k:Wk} (h:WkV w S g k) (hb:Below w.heap.size w w'):WkV w' S g k:=
 h.keep (Touch.of_below (F:=fun j=>w.heap.size≤j) hb fun _ _ h=>h) fun j hj _ e=>by omega
theorem scanNew_calls (w:World):Calls Tryz.prog 11 #[] w fun e w'=>∃ g,e=.returned (.pointer (some ⟨g,0,none⟩))∧w.heap.size≤g∧WkV w' (fun j=>w.heap.size≤j) g Wk.fresh∧Keeps w w':=by
 have bh:=@run_makeMap Tryz.prog
 go_enter Tryz.func11,Tryz.ntmps11
 go_wp2
 go_ret
 have a4:((w.alloc (.map #[] 0)).alloc (.cells #[.int .i64 0,.int .i64 0,.int .i64 (-1),.int .i64 0,.map (some w.heap.size),.slice none 0 0,.bool false] 82)).heap[w.heap.size]? = some (.map #[] 0):=obj_old (obj_new w _) _
 have a5:((w.alloc (.map #[] 0)).alloc (.cells #[.int .i64 0,.int .i64 0,.int .i64 (-1),.int .i64 0,.map (some w.heap.size),.slice none 0 0,.bool false] 82)).heap[w.heap.size+1]? = some (.cells #[.int .i64 0,.int .i64 0,.int .i64 (-1),.int .i64 0,.map (some w.heap.size),.slice none 0 0,.bool false] 82 (0,0)):=obj_new_at _ _ _ (by simp)
 refine ⟨w.heap.size+1,rfl,by omega,⟨w.heap.size,none,0,a5,(show w.heap.size≤w.heap.size+1 by omega),by omega,⟨⟨#[],0,a4,rfl,fun i v x h _=>by simp at h⟩,rfl,⟨Nat.le_refl _,by omega,by simp [blk]⟩,⟨#[],0,a4,⟨fun x hx=>by simp at hx,by simp⟩⟩,List.nodup_nil⟩,Loose.empty _ _ _ _ _,fun j hj=>by simp [blk] at hj⟩,((Keeps.refl w).alloc _).alloc _⟩
theorem wk_cells {w:World} {g:Nat} {a b c d e f h:Value} {t:TypeId} (hg:w.heap[g]? = some (.cells #[a,b,c,d,e,f,h] t (0,0))) :
 w.cell? ⟨g,0,none⟩=some a∧w.cell? ⟨g,1,none⟩=some b∧w.cell? ⟨g,2,none⟩=some c∧w.cell? ⟨g,3,none⟩=some d∧w.cell? ⟨g,4,none⟩=some e∧w.cell? ⟨g,5,none⟩=some f∧w.cell? ⟨g,6,none⟩=some h∧∀ i,w.frozen? ⟨g,i,none⟩=false:=
 ⟨by rw [obj_cell hg];rfl,by rw [obj_cell hg];rfl,by rw [obj_cell hg];rfl,by rw [obj_cell hg];rfl,by rw [obj_cell hg];rfl,by rw [obj_cell hg];rfl,by rw [obj_cell hg];rfl,obj_frozen hg⟩
theorem scanFrames_calls (g:Nat) (S:Nat→Prop) (k:Wk) (w:World) (hk:WkV w S g k):Calls Tryz.prog 28 #[.pointer (some ⟨g,0,none⟩)] w fun e w'=>e=.returned (.int .i64 k.frames)∧w=w':=by
 obtain ⟨b,E,c,hg,_⟩:=hk
 obtain ⟨c0,c1,c2,c3,c4,c5,c6,fz⟩:=wk_cells hg
 clear hg
 go_enter Tryz.func28,Tryz.ntmps28
 go_wp2
 go_ret
 exact ⟨rfl,rfl⟩
theorem scanRows_calls (g:Nat) (S:Nat→Prop) (k:Wk) (w:World) (hk:WkV w S g k):Calls Tryz.prog 29 #[.pointer (some ⟨g,0,none⟩)] w fun e w'=>e=.returned (.int .i64 k.rows)∧w=w':=by
 obtain ⟨b,E,c,hg,_⟩:=hk
 obtain ⟨c0,c1,c2,c3,c4,c5,c6,fz⟩:=wk_cells hg
 clear hg
 go_enter Tryz.func29,Tryz.ntmps29
 go_wp2
 go_ret
 exact ⟨rfl,rfl⟩
theorem scanNumber_calls (g:Nat) (S:Nat→Prop) (k:Wk) (w:World) (hk:WkV w S g k):Calls Tryz.prog 30 #[.pointer (some ⟨g,0,none⟩)] w fun e w'=>e=.returned (.int .i64 k.number)∧w=w':=by
 obtain ⟨b,E,c,hg,_⟩:=hk
 obtain ⟨c0,c1,c2,c3,c4,c5,c6,fz⟩:=wk_cells hg
 clear hg
 go_enter Tryz.func30,Tryz.ntmps30
 go_wp2
 go_ret
 exact ⟨rfl,rfl⟩
theorem scanSince_calls (g:Nat) (S:Nat→Prop) (k:Wk) (w:World) (hk:WkV w S g k):Calls Tryz.prog 31 #[.pointer (some ⟨g,0,none⟩)] w fun e w'=>e=.returned (.int .i64 k.since)∧w=w':=by
 obtain ⟨b,E,c,hg,_⟩:=hk
 obtain ⟨c0,c1,c2,c3,c4,c5,c6,fz⟩:=wk_cells hg
 clear hg
 go_enter Tryz.func31,Tryz.ntmps31
 go_wp2
 go_ret
 exact ⟨rfl,rfl⟩
theorem scanClosed_calls (g:Nat) (S:Nat→Prop) (k:Wk) (w:World) (hk:WkV w S g k):Calls Tryz.prog 32 #[.pointer (some ⟨g,0,none⟩)] w fun e w'=>e=.returned (.bool k.closed)∧w=w':=by
 obtain ⟨b,E,c,hg,_⟩:=hk
 obtain ⟨c0,c1,c2,c3,c4,c5,c6,fz⟩:=wk_cells hg
 clear hg
 go_enter Tryz.func32,Tryz.ntmps32
 go_wp2
 go_ret
 exact ⟨rfl,rfl⟩
def Wk.at (k:Wk) (n:Int):Option (List Col×Int):=(keyPos n k.ks 0).bind fun j=>k.vs[j]?
theorem MapS.look {w:World} {S:Nat→Prop} {b:Nat} {ks:List Int} {vs:List (List Col×Int)} (h:MapS w S b ks vs) (n:Int) (c:Bool) :
 (match (keyPos n ks 0).bind fun j=>vs[j]? with
  | some x=>∃ A m,SchS w S A x.1∧(Instr.lookup 80 (.map (some b)) (.int .i64 n) c).run Tryz.prog w=.ok (if c then .tuple #[.agg #[.slice A x.1.length m,.int .i64 x.2],.bool true] else .agg #[.slice A x.1.length m,.int .i64 x.2]) w
  | none=>(Instr.lookup 80 (.map (some b)) (.int .i64 n) c).run Tryz.prog w=.ok (if c then .tuple #[.agg #[.slice none 0 0,.int .i64 0],.bool false] else .agg #[.slice none 0 0,.int .i64 0]) w):=by
 obtain ⟨⟨es,clock,hb,a0,hv⟩,hn,_⟩:=h
 have hz:(zeroValue 90).run Tryz.prog w=.ok (.agg #[.slice none 0 0,.int .i64 0]) w:=by kernel_rfl
 have hr:=run_look (P:=Tryz.prog) (t:=80) (w:=w) (b:=b) Tryz.underlying80 Tryz.underlying2 hz hb a0 n c
 have hl:es.toList.length=ks.length:=by have:=congrArg List.length a0;simpa using this
 cases hp:keyPos n ks 0 with
 | none=>
   rw [hp] at hr
   exact hr
 | some j=>
   have hj:=(keyPos_le hp).2
   have ab:j<es.toList.length:=by omega
   have ai:j<vs.length:=by omega
   rw [hp] at hr
   obtain ⟨A,m,h1,h2⟩:=hv j (es.toList[j]'ab).val (vs[j]'ai) (by rw [List.getElem?_map,List.getElem?_eq_getElem ab];rfl) (List.getElem?_eq_getElem ai)
   have he:es[j]? = some (es.toList[j]'ab):=by rw [← Array.getElem?_toList,List.getElem?_eq_getElem ab]
   simp only [Option.bind_some,he,Option.map_some,h1] at hr
   simp only [Option.bind_some,List.getElem?_eq_getElem ai]
   exact ⟨A,m,h2.mono fun _ _ h=>h.1,hr⟩
def copyC (l:List Col):List Col:=if schCheck l=0 then (match decodeS (putS l) with | .ok c=>c | .error _=>[]) else []
theorem new_keeps {w a b:World} {g:Nat} (hk:Keeps w a) (ht:Touch (At g) a b) (hg:w.heap.size≤g):Keeps w b:=
 Touch.nothing (F:=At g) ((Touch.of_below hk.below fun k hk e=>absurd hk (by omega)).then ht) fun k hk e=>by rw [At] at e;omega
theorem copied_free (A:Option Addr) (c:Nat) (l:List Col) (w:World) (hs:SchS w (fun b=>b<w.heap.size) A l) (hw:∀ x∈l,x.dflt.wf) (am:∀ x∈l,x.name.size≤140737488355328) (aa:∀ w',Keeps w w'→Tabs w') :
 Calls Tryz.prog 43 #[.agg #[.slice A l.length c]] w fun e w'=>∃ A' c',e=.returned (.agg #[.slice A' (copyC l).length c'])∧SchS w' (fun b=>w.heap.size≤b) A' (copyC l)∧FreeC w' A' (copyC l)∧Keeps w w':=by
 obtain ⟨W,hW⟩:∃ W,W=(w.alloc (.cells #[.slice A l.length c] 30)).alloc (.cells #[.slice none 0 0] 30):=⟨_,rfl⟩
 have a7:Keeps w W:=by rw [hW];exact ((Keeps.refl w).alloc _).alloc _
 have a4:W.heap[w.heap.size]? = some (.cells #[.slice A l.length c] 30):=by rw [hW];exact obj_old (obj_new w _) _
 have a5:W.heap[w.heap.size+1]? = some (.cells #[.slice none 0 0] 30):=by rw [hW];exact obj_new_at _ _ _ (by simp)
 have b2:=schEncode_calls A c l W ((hs.later a7.below).mono fun b hb _=>hb) hw am (aa W a7)
 obtain ⟨R,hR⟩:∃ R,R=copyC l:=⟨_,rfl⟩
 rw [← hR]
 unfold copyC at hR
 have aL:=Hi b2
 have av:=Hi a5
 have HK:=Hi a7
 have bc:=Hi aa
 clear b2 a5 a7 aa hs hw am a4
 generalize l.length=L at *
 go_enter Tryz.func43,Tryz.ntmps43
 go_wp2_with fail
 rw [← hW]
 refine aL.out.mono ?_
 rintro e w1 hp
 unfold EncPost at hp
 by_cases h0:schCheck l=0
 case neg=>
  rw [if_neg h0] at hp hR
  obtain ⟨rfl,af⟩:=hp
  have HR:=Hi hR
  have qe:(schCheck l != 0)=true:=by simpa using h0
  have a5:=(af.below.block _ (obj_lt av.out)).trans av.out
  obtain ⟨c0,f0⟩:=cells1 a5
  have u1:=obj_lt a5
  have aB:=Hi (HK.out.trans af)
  clear h0 hR af a5 hW aL
  generalize schCheck l=X at *
  go_wp2
  refine bodyPost_ret (v:=.agg #[.slice none 0 0]) (by simp [results,Tryz.results43,go_sem,u1,c0]) rfl ?_
  rw [HR.out]
  exact ⟨none,0,rfl,SchS.nil _ _ _,FreeC.nil _ _,new_keeps aB.out ((Touch.refl _ _).set 0 _) (by omega)⟩
 case pos=>
 rw [if_pos h0] at hp hR
 obtain ⟨A1,c1,rfl,ap,af⟩:=hp
 obtain ⟨A1',c1',e1,aO,aR,aZ,_⟩:=ap.form
 injection e1 with g1 g2 g3
 subst g1 g3
 have ao:=schCheck_len h0
 have ae:=schDecode_free A1 c1 (putS l) w1 aR (by omega) aO aZ (bc.out w1 (HK.out.trans af))
 have aj:=Hi ae
 have HR:=Hi hR
 have a8:=Hi ((af.below.block _ (obj_lt av.out)).trans av.out)
 have aB:=Hi (HK.out.trans af)
 clear ae hR af hW aL av ap aO aR aZ ao
 generalize b7:(putS l).length=PL at *
 clear b7
 go_wp2_with fail
 refine aj.out.mono ?_
 intro e w2 hp
 cases ak:decodeS (putS l) with
 | error er=>
   rw [ak] at hp
   obtain ⟨rfl,ah⟩:_∧_:=hp
   have HE:Hid (R=[]):=Hi (by rw [HR.out,ak])
   have a6:=(ah.below.block _ (obj_lt a8.out)).trans a8.out
   obtain ⟨c0,f0⟩:=cells1 a6
   have u1:=obj_lt a6
   have ar:=Hi (aB.out.trans ah)
   clear ah a6 ak HR aj
   go_wp2
   refine bodyPost_ret (v:=.agg #[.slice none 0 0]) (by simp [results,Tryz.results43,go_sem,u1,c0]) rfl ?_
   rw [HE.out]
   exact ⟨none,0,rfl,SchS.nil _ _ _,FreeC.nil _ _,new_keeps ar.out (((Touch.refl _ _).set 0 _).alloc _) (by omega)⟩
 | ok cols=>
   rw [ak] at hp
   obtain ⟨A2,c2,rfl,aV,ax,ah⟩:∃ A2 c2,_∧_∧_∧_:=hp
   have HE:Hid (R=cols):=Hi (by rw [HR.out,ak])
   have a6:=(ah.below.block _ (obj_lt a8.out)).trans a8.out
   obtain ⟨c0,f0⟩:=cells1 a6
   have u1:=obj_lt a6
   have ar:=Hi (aB.out.trans ah)
   have aY:=Hi aV
   have aI:=Hi ax
   have HU:=Hi (obj_lt a8.out)
   obtain ⟨NL,aD⟩:∃ NL,NL=cols.length:=⟨_,rfl⟩
   rw [← aD]
   have b5:=Hi aD
   clear ah a6 ak HR aj aV ax aD
   go_wp2
   refine bodyPost_ret (v:=.agg #[.slice A2 NL c2]) (by simp [results,Tryz.results43,go_sem,u1,c0]) rfl ?_
   rw [HE.out]
   have hT:=fun v o=>((Touch.refl (At (w.heap.size+1)) w2).set 0 v).alloc o
   have bg:=HU.out
   refine ⟨A2,c2,by rw [b5.out], ?_,aI.out.touch aY.out (hT _ _) (fun b hb e=>by rw [At] at e;have a2:w1.heap.size≤b:=hb;omega),new_keeps ar.out (hT _ _) (by omega)⟩
   refine ((aY.out.mono (S':=fun b=>w1.heap.size≤b) fun b _ hb=>hb).touch (hT _ _) (fun b hb e=>by rw [At] at e;have a2:w1.heap.size≤b:=hb;omega)).mono fun b _ hb=>?_
   have a2:w1.heap.size≤b:=hb
   show w.heap.size≤b
   omega
theorem copied_calls (A:Option Addr) (c:Nat) (l:List Col) (w:World) (hs:SchS w (fun b=>b<w.heap.size) A l) (hw:∀ x∈l,x.dflt.wf) (am:∀ x∈l,x.name.size≤140737488355328) (aa:∀ w',Keeps w w'→Tabs w') :
 Calls Tryz.prog 43 #[.agg #[.slice A l.length c]] w fun e w'=>∃ A' c',e=.returned (.agg #[.slice A' (copyC l).length c'])∧SchS w' (fun b=>w.heap.size≤b) A' (copyC l)∧Keeps w w':=
 (copied_free A c l w hs hw am aa).mono fun e w' ⟨A',c',h1,h2,_,h3⟩=>⟨A',c',h1,h2,h3⟩
def colsOf (o:Option (List Col×Int)):List Col:=match o with | some x=>x.1 | none=>[]
def placeOf (o:Option (List Col×Int)):Int:=match o with | some x=>x.2 | none=>0
def Wk.schema (k:Wk) (n:Int):List Col:=copyC (colsOf (k.at n))
def Wk.fine (k:Wk):Prop:=∀ x∈k.vs,(∀ y∈x.1,y.dflt.wf)∧(∀ y∈x.1,y.name.size≤140737488355328)
theorem Wk.fine.at {k:Wk} (h:k.fine) (n:Int):(∀ y∈colsOf (k.at n),y.dflt.wf)∧(∀ y∈colsOf (k.at n),y.name.size≤140737488355328):=by
 cases hx:k.at n with
 | none=>exact ⟨by simp [colsOf],by simp [colsOf]⟩
 | some x=>
   unfold Wk.at at hx
   cases hp:keyPos n k.ks 0 with
   | none=>rw [hp] at hx;cases hx
   | some j=>
     rw [hp] at hx
     exact h x (List.mem_of_getElem? hx)
theorem MapS.told {w:World} {S:Nat→Prop} {b:Nat} {ks:List Int} {vs:List (List Col×Int)} (h:MapS w S b ks vs) (n:Int) :
 ∃ A m,SchS w S A (colsOf ((keyPos n ks 0).bind fun j=>vs[j]?))∧∀ W:World,W.heap[b]? = w.heap[b]?→∀ c:Bool,
   (Instr.lookup 80 (.map (some b)) (.int .i64 n) c).run Tryz.prog W=.ok (if c then .tuple #[.agg #[.slice A (colsOf ((keyPos n ks 0).bind fun j=>vs[j]?)).length m,.int .i64 (placeOf ((keyPos n ks 0).bind fun j=>vs[j]?))],.bool ((keyPos n ks 0).bind fun j=>vs[j]?).isSome] else .agg #[.slice A (colsOf ((keyPos n ks 0).bind fun j=>vs[j]?)).length m,.int .i64 (placeOf ((keyPos n ks 0).bind fun j=>vs[j]?))]) W:=by
 obtain ⟨⟨es,clock,hb,a0,hv⟩,hn,_⟩:=h
 have hz:∀ W,(zeroValue 90).run Tryz.prog W=.ok (.agg #[.slice none 0 0,.int .i64 0]) W:=fun W=>by kernel_rfl
 have hr:=fun W (hW:W.heap[b]? = w.heap[b]?) c=>run_look (P:=Tryz.prog) (t:=80) (w:=W) (b:=b) Tryz.underlying80 Tryz.underlying2 (hz W) (hW.trans hb) a0 n c
 have hl:es.toList.length=ks.length:=by have:=congrArg List.length a0;simpa using this
 cases hp:keyPos n ks 0 with
 | none=>
   rw [hp] at hr
   exact ⟨none,0,SchS.nil _ _ _,fun W hW c=>hr W hW c⟩
 | some j=>
   have hj:=(keyPos_le hp).2
   have ab:j<es.toList.length:=by omega
   have ai:j<vs.length:=by omega
   rw [hp] at hr
   obtain ⟨A,m,h1,h2⟩:=hv j (es.toList[j]'ab).val (vs[j]'ai) (by rw [List.getElem?_map,List.getElem?_eq_getElem ab];rfl) (List.getElem?_eq_getElem ai)
   have he:es[j]? = some (es.toList[j]'ab):=by rw [← Array.getElem?_toList,List.getElem?_eq_getElem ab]
   simp only [Option.bind_some,he,Option.map_some,h1] at hr
   simp only [Option.bind_some,List.getElem?_eq_getElem ai]
   exact ⟨A,m,h2.mono fun _ _ h=>h.1,fun W hW c=>hr W hW c⟩
theorem scanSchema_free (g:Nat) (S:Nat→Prop) (k:Wk) (n:Int) (w:World) (hk:WkV w S g k) (hf:k.fine) (aa:∀ w',Keeps w w'→Tabs w') :
 Calls Tryz.prog 37 #[.pointer (some ⟨g,0,none⟩),.int .i64 n] w fun e w'=>∃ A c,e=.returned (.tuple #[.agg #[.slice A (k.schema n).length c],.bool (k.at n).isSome])∧SchS w' (fun b=>w.heap.size≤b) A (k.schema n)∧FreeC w' A (k.schema n)∧Keeps w w':=by
 obtain ⟨b1,aQ⟩:=hf.at n
 obtain ⟨b,E,c,hg,hs,hb,hm,_⟩:=hk.here
 have aN:=hm.lt
 obtain ⟨A,m,au,ag⟩:=hm.told n
 unfold Wk.schema Wk.at at *
 generalize ((keyPos n k.ks 0).bind fun j=>k.vs[j]?)=o at *
 generalize ay:colsOf o=cols at *
 clear ay
 obtain ⟨W,hW⟩:∃ W,W=w.alloc (.cells #[.slice none 0 0] 30):=⟨_,rfl⟩
 have a7:Keeps w W:=by rw [hW];exact (Keeps.refl w).alloc _
 have hl:=ag W (a7.below.block b aN) true
 simp only [if_true] at hl
 have bb:=(a7.below.block g (obj_lt hg)).trans hg
 obtain ⟨W2,aA⟩:∃ W2,W2=W.alloc (.cells #[.slice A cols.length m,.int .i64 (placeOf o)] 90):=⟨_,rfl⟩
 have ac:Keeps w W2:=by rw [aA];exact a7.alloc _
 have aT:=copied_free A m cols W2 ((au.later ac.below).mono fun b hb h=>hb) b1 aQ (fun w' hk=>aa w' (ac.trans hk))
 have a6:W2.heap[w.heap.size]? = some (.cells #[.slice none 0 0] 30):=by rw [aA,hW];exact obj_old (obj_new w _) _
 obtain ⟨c0,c1,c2,c3,c4,c5,c6,fz⟩:=wk_cells hg
 have b3:=Hi aT
 have a8:=Hi a6
 have ar:=Hi ac
 clear aT a6 ac bb au hm b1 aQ ag hs hb
 have bf:=obj_lt hg
 clear hg a7
 generalize o.isSome=q at *
 generalize placeOf o=pl at *
 generalize cols.length=NL at *
 rw [hW] at hl
 go_enter Tryz.func37,Tryz.ntmps37
 go_wp2_with fail
 rw [← hW,← aA]
 clear hW aA hl
 refine b3.out.mono ?_
 rintro e w3 ⟨A3,c3',rfl,aW,aw,aC⟩
 have aM:=(aC.below.block _ (obj_lt a8.out)).trans a8.out
 obtain ⟨d0,e0⟩:=cells1 aM
 have u1:=obj_lt aM
 have ba:=Hi (ar.out.trans aC)
 have aX:=Hi aW
 have aF:=Hi aw
 have HU:=Hi (obj_lt a8.out)
 obtain ⟨N3,aE⟩:∃ N3,N3=(copyC cols).length:=⟨_,rfl⟩
 rw [← aE]
 have b9:=Hi aE
 clear aC aM aW aw aE b3
 go_wp2
 refine bodyPost_ret (v:=.tuple #[.agg #[.slice A3 N3 c3'],.bool q]) (by simp [results,Tryz.results37,go_sem,u1,d0]) rfl ?_
 have hT:=fun v=>(Touch.refl (At w.heap.size) w3).set 0 v
 have hu:=HU.out
 refine ⟨A3,c3',by rw [b9.out], ?_,aF.out.touch aX.out (hT _) (fun b hb e=>by rw [At] at e;have a2:W2.heap.size≤b:=hb;omega),new_keeps ba.out (hT _) (Nat.le_refl _)⟩
 refine ((aX.out.mono (S':=fun b=>W2.heap.size≤b) fun b _ hb=>hb).touch (hT _) (fun b hb e=>by rw [At] at e;have a2:W2.heap.size≤b:=hb;omega)).mono fun b _ hb=>?_
 have a2:W2.heap.size≤b:=hb
 show w.heap.size≤b
 omega
theorem scanSchema_calls (g:Nat) (S:Nat→Prop) (k:Wk) (n:Int) (w:World) (hk:WkV w S g k) (hf:k.fine) (aa:∀ w',Keeps w w'→Tabs w') :
 Calls Tryz.prog 37 #[.pointer (some ⟨g,0,none⟩),.int .i64 n] w fun e w'=>∃ A c,e=.returned (.tuple #[.agg #[.slice A (k.schema n).length c],.bool (k.at n).isSome])∧SchS w' (fun b=>w.heap.size≤b) A (k.schema n)∧Keeps w w':=
 (scanSchema_free g S k n w hk hf aa).mono fun e w' ⟨A,c,h1,h2,_,h3⟩=>⟨A,c,h1,h2,h3⟩
theorem scanEntries_calls (g:Nat) (S:Nat→Prop) (k:Wk) (w:World) (hk:WkV w S g k) (hn:k.entries.length≤1048640) :
 Calls Tryz.prog 34 #[.pointer (some ⟨g,0,none⟩)] w fun e w'=>∃ v,e=.returned v∧Loose w' w.heap.size 78 3 v k.entries.length (entCells k.entries)∧Keeps w w':=by
 obtain ⟨b,E,c,hg,_,_,_,hE,_⟩:=hk
 obtain ⟨c0,c1,c2,c3,c4,c5,c6,fz⟩:=wk_cells hg
 obtain ⟨E',c',e1,_,a9,_⟩:=hE.form
 injection e1 with g1 g2 g3
 subst g1 g3
 have aG:=Hi a9
 have aK:=Hi hE.length
 have aH:=Hi (entCells_one k.entries)
 clear hg hE a9
 generalize entCells k.entries=xs at *
 generalize k.entries.length=n at *
 go_enter Tryz.func34,Tryz.ntmps34
 go_wp2_with (at_builtin;refine wpList_append_rows w.heap.size (by rfl) _ _ 32 78 (.agg #[.int .i64 0,.int .i64 0,.int .i64 0]) 3 24 (by rfl) Tryz.underlying32 info_entry rfl (by omega) (.slice none 0 0) 0 [] (by rfl) (Loose.empty _ _ _ _ _) E n c xs (by rfl) aK.out aG.out aH.out (by simp only [maxLen];omega) (by omega) (Nat.le_refl _) ?_)
 intro v' w' aP aU _
 have HL:=Hi aP
 have HG:Hid (Keeps w w'):=Hi (Touch.nothing (F:=fun _=>False) (Touch.of_grown aU fun k hk=>by simp [blk] at hk) fun _ _ h=>h)
 clear aP aU
 go_wp2
 go_ret
 exact ⟨v',rfl,HL.out,HG.out⟩
theorem scanPlace_calls (g:Nat) (S:Nat→Prop) (k:Wk) (n:Int) (w:World) (hk:WkV w S g k) :
 Calls Tryz.prog 53 #[.pointer (some ⟨g,0,none⟩),.int .i64 n] w fun e w'=>e=.returned (.tuple #[.int .i64 (match k.at n with | some x=>x.2 | none=>0),.bool (k.at n).isSome])∧Keeps w w':=by
 obtain ⟨b,E,c,hg,hs,hb,hm,_⟩:=hk
 obtain ⟨c0,c1,c2,c3,c4,c5,c6,fz⟩:=wk_cells hg
 have hl:=hm.look n true
 unfold Wk.at
 clear hg hs hb hm
 cases hx:(keyPos n k.ks 0).bind fun j=>k.vs[j]? with
 | none=>
   rw [hx] at hl
   simp only [if_true] at hl
   clear hx
   go_enter Tryz.func53,Tryz.ntmps53
   go_wp2
   go_ret2
   exact ⟨rfl,(Keeps.refl w).alloc _⟩
 | some x=>
   rw [hx] at hl
   obtain ⟨A,m,_,hl⟩:=hl
   simp only [if_true] at hl
   clear hx
   generalize x.1.length=NL at hl
   go_enter Tryz.func53,Tryz.ntmps53
   go_wp2
   go_ret2
   exact ⟨rfl,(Keeps.refl w).alloc _⟩
theorem one_calls (w:World) :
 Calls Tryz.prog 36 #[] w fun e w'=>∃ g,w.heap.size≤g∧e=.returned (.agg #[.slice (some ⟨g,0,none⟩) 1 1])∧SchS w' (fun b=>w.heap.size≤b) (some ⟨g,0,none⟩) [smallCol]∧Keeps w w':=by
 go_enter Tryz.func36,Tryz.ntmps36
 go_wp2
 have hk:Keeps w ((w.alloc (.cells #[.slice (some ⟨w.heap.size+1,0,none⟩) 1 1] 30)).alloc
  (.cells #[.string ⟨#[97]⟩,.int .i64 2,.slice none 0 0,.bool false,.int .i64 0,.int .i64 0,.float .f64 0,.string ⟨#[]⟩,.slice none 0 0] 103)):=((Keeps.refl w).alloc _).alloc _
 have a9:RowAt ((w.alloc (.cells #[.slice (some ⟨w.heap.size+1,0,none⟩) 1 1] 30)).alloc
  (.cells #[.string ⟨#[97]⟩,.int .i64 2,.slice none 0 0,.bool false,.int .i64 0,.int .i64 0,.float .f64 0,.string ⟨#[]⟩,.slice none 0 0] 103)) (some ⟨w.heap.size+1,0,none⟩) [.string ⟨#[97]⟩,.int .i64 2,.slice none 0 0,.bool false,.int .i64 0,.int .i64 0,.float .f64 0,.string ⟨#[]⟩,.slice none 0 0]:=
  RowAt.new_at _ _ _ _ _ rfl _ (by simp)
 refine bodyPost_ret (v:=.agg #[.slice (some ⟨w.heap.size+1,0,none⟩) 1 1]) (by simp [results,Tryz.results36,go_sem]) rfl ⟨w.heap.size+1,by omega,rfl, ?_,hk⟩
 refine ⟨⟨_,a9, ?_⟩,fun a e hn=>?_,by decide⟩
 · exact (Cols.nil _ _).snoc ⟨rfl,rfl,rfl,rfl,rfl,rfl,rfl,TyS.leaf _ _ _ _ _,VaS.leaf _ _ _ _ _ _ _ _⟩
 · cases e
   show w.heap.size≤w.heap.size+1
   omega
end
section
open Go.RowKit Go.BigFrame
def Wk.follows (k:Wk) (f:Fr) (a:Int):Bool:=
 if f.kind=1 then decide (f.number=k.number+1)||(decide (f.number=k.number)&&sameCols f.cols (colsOf (k.at k.number)))
 else if f.kind=2 then decide (0≤k.number)&&decide (f.number=k.number)&&decide (f.seq=k.frames)&&decide (f.first=k.rows)
 else decide (f.spot=a)&&decide (f.frames=k.frames)&&decide (f.irows=k.rows)&&decide (f.ents=k.entries)
def Wk.put (k:Wk) (n:Int) (x:List Col×Int):Wk:=
 match keyPos n k.ks 0 with
 | some j=>{ k with vs:=k.vs.set j x }
 | none=>{ k with ks:=k.ks++[n],vs:=k.vs++[x] }
def Wk.take (k:Wk) (f:Fr) (a:Int):Wk:=
 if f.kind=1 then { k with number:=f.number,since:=0,closed:=false }.put f.number (copyC f.cols,a)
 else if f.kind=2 then { k with frames:=k.frames+1,rows:=k.rows+f.rows,since:=k.since+1,closed:=false,entries:=if k.frames.tmod 4=0∧k.entries.length<64 then k.entries++[⟨a,k.rows,placeOf (k.at k.number)⟩] else k.entries }
 else { k with closed:=true }
def Wk.next (k:Wk) (f:Fr) (a:Int):Wk×Int:=
 if outOf 1099511627776 a then (k,143)
 else match encF f with
  | .error _=>(k,143)
  | .ok _=>if k.follows f a then (k.take f a,0) else (k,143)
theorem MapS.put {w:World} {S:Nat→Prop} {b:Nat} {ks:List Int} {vs:List (List Col×Int)} (h:MapS w S b ks vs) (n:Int) (v:Value) (x:List Col×Int) (hx:KnS w (fun j=>S j∧j≠b) v x) :
 ∃ w',(Instr.mapUpdate 80 (.map (some b)) (.int .i64 n) v).run Tryz.prog w=.ok () w'∧Touch (At b) w w'∧w'.heap.size=w.heap.size ∧
   (match keyPos n ks 0 with
    | some j=>MapS w' S b ks (vs.set j x)
    | none=>MapS w' S b (ks++[n]) (vs++[x])):=by
 obtain ⟨⟨es,clock,hb,a0,hv⟩,hn,hs,⟨es0,clock0,a4,ad⟩,al⟩:=h
 rw [hb] at a4
 injection a4 with a4
 injection a4 with a4 a5
 subst a4 a5
 obtain ⟨es',clock',w',aJ,a2,ht,am,an,hm⟩:=run_put (P:=Tryz.prog) (t:=80) Tryz.underlying80 Tryz.underlying2 hb a0 n v
 have a1:∀ {v:Value} {x:List Col×Int},KnS w (fun j=>S j∧j≠b) v x→KnS w' (fun j=>S j∧j≠b) v x:=fun {v x} hk=>by
  obtain ⟨A,c,h1,h2⟩:=hk
  exact ⟨A,c,h1,h2.touch ht fun k hk e=>hk.2 e⟩
 refine ⟨w',aJ,ht,am, ?_⟩
 cases hp:keyPos n ks 0 with
 | some j=>
   rw [hp] at hm
   refine ⟨⟨es',clock',a2,hm.1,fun i u y h1 h2=>?_⟩,by simp [hn],hs,⟨es',clock',a2,an ad⟩,al⟩
   rw [hm.2,List.getElem?_set] at h1
   rw [List.getElem?_set] at h2
   by_cases e:j=i
   · subst e
     rw [if_pos rfl] at h1 h2
     split at h1 <;> split at h2
     all_goals first | (cases h1;done) | (cases h2;done) | (cases h1;cases h2;exact a1 hx)
   · rw [if_neg e] at h1 h2
     exact a1 (hv i u y h1 h2)
 | none=>
   rw [hp] at hm
   refine ⟨⟨es',clock',a2,hm.1,fun i u y h1 h2=>?_⟩,by simp [hn],hs,⟨es',clock',a2,an ad⟩, ?_⟩
   rotate_left
   · rw [List.nodup_append]
     refine ⟨al,by simp,fun a ha c hc e=>?_⟩
     rw [List.mem_singleton] at hc
     subst e hc
     exact keyPos_none hp ha
   rw [hm.2] at h1
   have hl:(es.toList.map (·.val)).length=vs.length:=by have:=congrArg List.length a0;simp at this ⊢;omega
   by_cases e:i<vs.length
   · rw [List.getElem?_append_left (by omega)] at h1
     rw [List.getElem?_append_left e] at h2
     exact a1 (hv i u y h1 h2)
   · rw [List.getElem?_append_right (by omega)] at h1
     rw [List.getElem?_append_right (by omega)] at h2
     rw [hl] at h1
     cases hq:i-vs.length with
     | zero=>
       rw [hq] at h1 h2
       simp at h1 h2
       subst h1 h2
       exact a1 hx
     | succ q=>
       rw [hq] at h1
       simp at h1
theorem copyC_ok {l:List Col} (h:schCheck l=0) (hw:∀ c∈l,c.dflt.wf) :
 decodeS (putS l)=.ok (copyC l)∧sameCols (copyC l) l=true∧putS (copyC l)=putS l∧schCheck (copyC l)=0∧∀ c∈copyC l,c.dflt.wf:=by
 obtain ⟨m,h1,h2⟩:=decodeS_of h hw
 have e:copyC l=m:=by unfold copyC;rw [if_pos h,h1]
 obtain ⟨p1,p2,p3⟩:=decodeS_cut h1
 rw [e]
 exact ⟨h1,h2,p1,p2,p3⟩
theorem copyC_wrong {l:List Col} (h:schCheck l≠0):copyC l=[]:=by unfold copyC;rw [if_neg h]
theorem copyC_of {m c:List Col} (h:schCheck m=0) (hd:decodeS (putS m)=.ok c):copyC m=c:=by unfold copyC;rw [if_pos h,hd]
theorem copyC_copy {l:List Col} (hw:∀ c∈l,c.dflt.wf):copyC (copyC l)=copyC l:=by
 by_cases h:schCheck l=0
 · obtain ⟨h1,_,h3,h4,_⟩:=copyC_ok h hw
   exact copyC_of h4 (by rw [h3];exact h1)
 · rw [copyC_wrong h]
   refine copyC_wrong fun h0=>?_
   exact (schCheck_no h0).1 rfl
def dataF:Fr:={ frZero with kind:=2,rows:=2,block:=[0,2,4] }
def kOne:Wk:=⟨0,0,0,0,[0],[(copyC [smallCol],0)],[],false⟩
def kTwo:Wk:=⟨1,2,0,1,[0],[(copyC [smallCol],0)],[⟨20,0,0⟩],false⟩
theorem dataF_wf:dataF.wf:=⟨by simp [dataF,frZero],by simp [dataF,frZero]⟩
theorem dataF_ok:frWrong dataF=0:=by
 unfold frWrong
 rw [if_neg (by decide),if_pos (show dataF.kind=2 from rfl)]
 rfl
theorem dataF_body:(frBody dataF).length=8:=by
 have e0:(leb 0).length=1:=by rw [leb_small (by omega)];rfl
 have e2:(leb 2).length=1:=by rw [leb_small (by omega)];rfl
 have e3:frBody dataF=[2]++((leb 0++(leb 0++(leb 0++(leb 2++[]))))++[0,2,4]):=rfl
 rw [e3]
 simp only [List.length_append,List.length_cons,List.length_nil,e0,e2]
theorem dataF_enc:∃ l,encF dataF=.ok l:=by
 have hl:(checked (frBody dataF)).length=12:=by unfold checked;rw [List.length_append,le4_length,dataF_body]
 have hs:=stuff_length (checked (frBody dataF))
 refine ⟨0 :: (stuffOf (checked (frBody dataF))++[0]), ?_⟩
 unfold encF encFin
 have e:frBody dataF++le4 (Crc.sum (nats (frBody dataF)))=checked (frBody dataF):=rfl
 rw [if_pos dataF_ok,e,if_neg (by omega)]
theorem next_of {k:Wk} {f:Fr} {a:Int} {l:List UInt8} (h:encF f=.ok l) (ha:outOf 1099511627776 a=false):k.next f a=if k.follows f a then (k.take f a,0) else (k,143):=by
 unfold Wk.next
 rw [ha,h]
 rfl
theorem live_k0:Wk.fresh.next dataF 0=(Wk.fresh,143):=by
 obtain ⟨l,hl⟩:=dataF_enc
 rw [next_of hl (by decide)]
 rfl
theorem live_k1:Wk.fresh.next smallF 0=(kOne,0):=by
 obtain ⟨l,hl,_⟩:=small_enc
 rw [next_of hl (by decide)]
 rfl
theorem live_k2:kOne.next dataF 20=(kTwo,0):=by
 obtain ⟨l,hl⟩:=dataF_enc
 rw [next_of hl (by decide)]
 rfl
theorem live_k3:kTwo.next dataF 40=(kTwo,143):=by
 obtain ⟨l,hl⟩:=dataF_enc
 rw [next_of hl (by decide)]
 rfl
theorem small_colwf:∀ c∈[smallCol],c.dflt.wf:=smallF_wf.dflt
theorem kTwo_fine:kTwo.fine:=fun x hx=>by
 simp only [kTwo,List.mem_cons,List.not_mem_nil,or_false] at hx
 subst hx
 obtain ⟨_,_,_,h4,h5⟩:=copyC_ok schOk_small small_colwf
 exact ⟨h5,schCheck_names h4⟩
theorem kTwo_schema:kTwo.schema 0=copyC [smallCol]:=copyC_copy (l:=[smallCol]) small_colwf
theorem kTwo_same:sameCols (kTwo.schema 0) [smallCol]=true:=by
 rw [kTwo_schema]
 exact (copyC_ok schOk_small small_colwf).2.1
theorem fetch_enc {d:Dv} {f:Fr} {l rest:List UInt8} (hw:f.wf) (hl:encF f=.ok l) (hb:d.b=l++rest) (hd:d.down=false) :
 ∃ f',fetch d 0=.ok (f',(l.length:Int))∧frSame f' f=true:=by
 obtain ⟨s,b4,be,b8,aS,f',ae,a3⟩:=enc_back hw hl
 refine ⟨f', ?_,a3⟩
 have hn:nz (s++(0 :: rest))=s:=nz_zero s rest aS
 have ao:l.length=s.length+2:=by rw [b4];simp
 have aN:d.b.length=l.length+rest.length:=by rw [hb];simp
 unfold fetch
 rw [hd]
 simp only [Bool.false_eq_true,if_false]
 rw [if_neg (by omega),if_neg (by omega)]
 have hq:(d.b.drop (0:Int).toNat).take 2202=0 :: (s++(0 :: rest)).take 2201:=by
  rw [hb,b4]
  simp
 rw [hq]
 have b6:nz ((s++(0 :: rest)).take 2201)=s:=by
  have e:(s++(0 :: rest)).take 2201=s++(0 :: rest.take (2200-s.length)):=by
   rw [List.take_append,List.take_of_length_le (by omega),show 2201-s.length=(2200-s.length)+1 by omega,List.take_succ_cons]
  rw [e]
  exact nz_zero s _ aS
 unfold fetchB
 simp only [ne_eq,not_true_eq_false,if_false]
 unfold fetchT
 rw [b6,if_pos,if_neg (by omega),ae]
 · simp only [fetchF,Except.ok.injEq,Prod.mk.injEq,true_and]
   omega
 · rw [List.length_take,List.length_append,List.length_cons]
   omega
theorem fetch_end {d:Dv} (hd:d.down=false):fetch d (d.b.length:Int)=.error 140:=by
 unfold fetch
 rw [hd]
 simp only [Bool.false_eq_true,if_false]
 rw [if_neg (by omega)]
 simp
end
end Go.Proofs.YtihodcnnappkbaaGreatDoor
