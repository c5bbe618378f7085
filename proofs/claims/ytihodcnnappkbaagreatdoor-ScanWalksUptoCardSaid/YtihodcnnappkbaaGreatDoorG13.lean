/-
  The document's file of bytes in memory: its block, its row. Condition: the block stands for the machine. The walks of the document's file of bytes: deed, Write, Sync, Cut. Condition: the block stands for the machine. Two files that stand for the same machine, in blocks that lie apart. No condition.
-/
import Derived.Test.YtihodcnnappkbaaGreatDoorG12
import Derived.StillTailTactics
import Derived.Deep.RegionLaw
import Derived.BigRegion
namespace Go.Proofs.YtihodcnnappkbaaGreatDoor
open Go.RowKit
set_option linter.unusedVariables false
set_option linter.unusedSimpArgs false
def rvCells (v:Value) (q s:Int) (dn bd:Bool) (af kp td dd:Int):Array Value:=#[v,.int .i64 q,.int .i64 s,.bool dn,.bool bd,.int .i64 af,.int .i64 kp,.int .i64 td,.int .i64 dd]
def BoundIs (bd:Bool) (af kp:Int):Option (Nat×Nat)→Prop
 | none=>bd=false
 | some (a,k)=>bd=true∧af=a∧kp=k
def RvAt (w:World) (g:Nat) (v:Value) (bd:Bool) (af kp:Int) (d:Dv):Prop:=
 w.heap[g]? = some (.cells (rvCells v d.quota d.synced d.down bd af kp d.counted d.deeds) 115 (0,0))∧OwnL 5 w 0 v d.b∧BoundIs bd af kp d.bound
def RV (w:World) (S:Nat→Prop) (g:Nat) (d:Dv):Prop:=
 ∃ v bd af kp,RvAt w g v bd af kp d∧S g∧∀ k,blk v=some k→S k
theorem RvAt.apart {w:World} {g:Nat} {v:Value} {bd:Bool} {af kp:Int} {d:Dv} (h:RvAt w g v bd af kp d):blk v≠some g:=h.2.1.ne h.1 (by decide)
theorem RvAt.keep {F:Nat→Prop} {w w':World} {g:Nat} {v:Value} {bd:Bool} {af kp:Int} {d:Dv} (h:RvAt w g v bd af kp d) (ht:Touch F w w') (hg:¬F g) (hv:∀ k,blk v=some k→¬F k):RvAt w' g v bd af kp d:=
 ⟨ht.obj h.1 hg,h.2.1.keep ht hv,h.2.2⟩
theorem RvAt.poke {w:World} {g:Nat} {v:Value} {bd bd':Bool} {af kp af' kp':Int} {d d':Dv} (h:RvAt w g v bd af kp d) (i:Nat) (u:Value) (hc:(rvCells v d.quota d.synced d.down bd af kp d.counted d.deeds).setIfInBounds i u=rvCells v d'.quota d'.synced d'.down bd' af' kp' d'.counted d'.deeds) (hb:d'.b=d.b) (hbd:BoundIs bd' af' kp' d'.bound) :
 RvAt (w.setCell ⟨g,i,none⟩ u) g v bd' af' kp' d':=
 ⟨by rw [← hc];exact obj_set h.1 i u,by rw [hb];exact h.2.1.far (p:=⟨g,i,none⟩) h.apart _,hbd⟩
theorem RV.mono {w:World} {S T:Nat→Prop} {g:Nat} {d:Dv} (h:RV w S g d) (hS:∀ k,k<w.heap.size→S k→T k):RV w T g d:=by
 obtain ⟨v,bd,af,kp,hat,h1,h2⟩:=h
 exact ⟨v,bd,af,kp,hat,hS g (obj_lt hat.1) h1,fun k hk=>hS k (hat.2.1.lt k hk).2 (h2 k hk)⟩
theorem RV.self {w:World} {S:Nat→Prop} {g:Nat} {d:Dv} (h:RV w S g d):S g:=by
 obtain ⟨v,bd,af,kp,hat,h1,h2⟩:=h
 exact h1
theorem RV.lt {w:World} {S:Nat→Prop} {g:Nat} {d:Dv} (h:RV w S g d):g<w.heap.size:=by
 obtain ⟨v,bd,af,kp,hat,h1,h2⟩:=h
 exact obj_lt hat.1
theorem RV.keep {F S:Nat→Prop} {w w':World} {g:Nat} {d:Dv} (h:RV w S g d) (ht:Touch F w w') (hF:∀ k,k<w.heap.size→S k→¬F k):RV w' S g d:=by
 obtain ⟨v,bd,af,kp,hat,h1,h2⟩:=h
 exact ⟨v,bd,af,kp,hat.keep ht (hF g (obj_lt hat.1) h1) (fun k hk=>hF k (hat.2.1.lt k hk).2 (h2 k hk)),h1,h2⟩
theorem RV.below {S:Nat→Prop} {w w':World} {g:Nat} {d:Dv} (h:RV w S g d) (hb:Below w.heap.size w w'):RV w' S g d:=
 h.keep (F:=fun _=>False) (Touch.of_below hb fun k hk hb=>absurd hk (by omega)) fun _ _ _ h=>h
theorem RV.here {w:World} {S:Nat→Prop} {g:Nat} {d:Dv} (h:RV w S g d):RV w (fun k=>S k∧k<w.heap.size) g d:=h.mono fun _ hk hS=>⟨hS,hk⟩
theorem RV.same {S:Nat→Prop} {w w':World} {g:Nat} {d:Dv} (h:RV w S g d) (hb:Below w.heap.size w w'):RV w' (More S w) g d:=(h.below hb).mono fun _ _ h=>.inl h
section
variable (g:Nat) (S:Nat→Prop) (d:Dv) (w:World) (hd:RV w S g d)
include hd
end
end Go.Proofs.YtihodcnnappkbaaGreatDoor
namespace Go.Proofs.YtihodcnnappkbaaGreatDoor
open Go.RowKit Go.BigFrame
set_option linter.unusedVariables false
set_option linter.unusedSimpArgs false
theorem RV.of {w w':World} {S:Nat→Prop} {g:Nat} {v':Value} {bd:Bool} {af kp:Int} {d':Dv} (h:RvAt w' g v' bd af kp d') (hS:S g) (hv:∀ k,blk v'=some k→S k∨w.heap.size≤k):RV w' (More S w) g d':=
 ⟨v',bd,af,kp,h,.inl hS,hv⟩
def Both (w:World) (T:Nat→Prop) (gd gr:Nat) (x:Dv):Prop:=
 ∃ S1 S2,DV w S1 gd x∧RV w S2 gr x∧(∀ k,S1 k→¬S2 k)∧∀ k,S1 k∨S2 k→T k∧k<w.heap.size
theorem Both.keep {w w':World} {T F:Nat→Prop} {gd gr:Nat} {x:Dv} (h:Both w T gd gr x) (ht:Touch F w w') (hF:∀ k,k<w.heap.size→T k→¬F k):Both w' T gd gr x:=by
 obtain ⟨S1,S2,h1,h2,h3,h4⟩:=h
 exact ⟨S1,S2,h1.keep ht fun k hk hs=>hF k hk (h4 k (.inl hs)).1,h2.keep ht fun k hk hs=>hF k hk (h4 k (.inr hs)).1,h3,fun k hk=>⟨(h4 k hk).1,Nat.lt_of_lt_of_le (h4 k hk).2 ht.size⟩⟩
theorem Both.below {w w':World} {T:Nat→Prop} {gd gr:Nat} {x:Dv} (h:Both w T gd gr x) (hb:Below w.heap.size w w'):Both w' T gd gr x:=
 h.keep (F:=fun _=>False) (Touch.of_below hb fun k hk hb=>absurd hk (by omega)) fun _ _ _ h=>h
theorem Both.mono {w:World} {T U:Nat→Prop} {gd gr:Nat} {x:Dv} (h:Both w T gd gr x) (hT:∀ k,k<w.heap.size→T k→U k):Both w U gd gr x:=by
 obtain ⟨S1,S2,h1,h2,h3,h4⟩:=h
 exact ⟨S1,S2,h1,h2,h3,fun k hk=>⟨hT k (h4 k hk).2 (h4 k hk).1,(h4 k hk).2⟩⟩
theorem Both.step {w w' w'':World} {T S1 S2:Nat→Prop} {gd gr:Nat} {x':Dv} (hd:∀ k,S1 k→¬S2 k) (hT:∀ k,S1 k∨S2 k→T k∧k<w.heap.size) (d1:DV w' (More S1 w) gd x') (t1:Touch S1 w w') (r1:RV w'' (More S2 w') gr x') (t2:Touch S2 w' w'') :
 Both w'' (More T w) gd gr x'∧Touch T w w'':=by
 have hs:=t1.size
 have hs2:=t2.size
 refine ⟨⟨fun k=>More S1 w k∧k<w'.heap.size,fun k=>More S2 w' k∧k<w''.heap.size,?_,r1.here,?_,?_⟩,(t1.mono fun k _ h=>(hT k (.inl h)).1).trans t2 fun k hk h=>(hT k (.inr h)).1⟩
 · exact d1.here.keep t2 fun k hk h h2=>by
    rcases h.1 with h | h
    · exact hd k h h2
    · have:=(hT k (.inr h2)).2;omega
 · rintro k ⟨h1 | h1,h1'⟩ ⟨h2 | h2,h2'⟩
   · exact hd k h1 h2
   · omega
   · have:=(hT k (.inr h2)).2;omega
   · omega
 · rintro k (⟨h | h,h'⟩ | ⟨h | h,h'⟩)
   · exact ⟨.inl (hT k (.inl h)).1,by omega⟩
   · exact ⟨.inr h,by omega⟩
   · exact ⟨.inl (hT k (.inr h)).1,by omega⟩
   · exact ⟨.inr (by omega),by omega⟩
theorem More.drop {T:Nat→Prop} {w w1:World} (hs:w.heap.size≤w1.heap.size) {k:Nat} (h:More T w1 k):More T w k:=h.elim .inl fun h=>.inr (Nat.le_trans hs h)
end Go.Proofs.YtihodcnnappkbaaGreatDoor
