/-
  The document's file of bytes in memory: its block, its row. Condition: the block stands for the machine.
-/
import Derived.Test.YtihodcnnappkbaaGreatDoorG12
import Derived.StillTailTactics
import Derived.Deep.RegionLaw
import Derived.BigRegion
set_option linter.unusedVariables false
set_option linter.unusedSimpArgs false
namespace Go.Proofs.YtihodcnnappkbaaGreatDoor
open Go.RowKit
def rvCells (v:Value) (q s:Int) (dn bd:Bool) (af kp td dd:Int):Array Value:=#[v,.int .i64 q,.int .i64 s,.bool dn,.bool bd,.int .i64 af,.int .i64 kp,.int .i64 td,.int .i64 dd]
def BoundIs (bd:Bool) (af kp:Int):Option (Nat×Nat)→Prop
 | none=>bd=false
 | some (a,k)=>bd=true∧af=a∧kp=k
def RvAt (w:World) (g:Nat) (v:Value) (bd:Bool) (af kp:Int) (d:Dv):Prop:=
 w.heap[g]? = some (.cells (rvCells v d.quota d.synced d.down bd af kp d.counted d.deeds) 115 (0,0))∧OwnL 5 w 0 v d.b∧BoundIs bd af kp d.bound
def RV (w:World) (S:Nat→Prop) (g:Nat) (d:Dv):Prop:=
 ∃ v bd af kp,RvAt w g v bd af kp d∧S g∧∀ k,blk v=some k→S k
section
variable (g:Nat) (S:Nat→Prop) (d:Dv) (w:World) (hd:RV w S g d)
include hd
end
end Go.Proofs.YtihodcnnappkbaaGreatDoor
