/-
  No cell of these rows narrows 'for every input' (looked for: loops, veiled, ifaces, maps, wideKeys, modest, calm, conditions, laid).
  DERIVED. THE GIVEN ROWS OF THIS SEAT. 9 by the template 'for every input the law returns true; each argument reads behind the call as it read before'; 0 by the template 'total and deterministic' (their statements: YtnfefjlplipeiabTotals.lean).
  GIVEN WITH THE SEED: the statements are not yours to turn. If you find one false, say at which input.
  Laid BY PROGRAM, IN A SANDBOX (cutbox-rows.mjs): the forced cells as the released guide's own fill.sh prints them over the translation 9796b47bad0a6dcc… (all of the seat's roots in one cut). By AI agents, Wed Nov 11 2026. No macro, syntax, notation, axiom, sorry.
-/
import Derived.Test.YtnfefjlplipeiabChecked
import GoSem.Claim
import GoSem.ClaimJoined
import GoSem.ClaimMapViews
import Derived.JoinedTies
import Derived.KernelRfl
namespace Go.Proofs.Ytnfefjlplipeiab
/- THE CELL 'sum', in the pinned program and in every row, IS THE sha256 OF THE DUMP (.gsa) THAT YtnfefjlplipeiabProg.lean LOADS. Nothing in Lean hashes anything: it is a label: what it is worth is what the hold of that sum in a sandbox is worth. -/
noncomputable def Try.pinned : Pinned := { name := "ytnfefjlplipeiab", sum := "9796b47bad0a6dccf84818e35108e0c08f5787c005b41ca5c0f77ad4f94c31d7", checked := Try.checked }
namespace Rows
def none {H : Type} : Left H := { results := [], args := [] }

/-- 'gabionlaw04.StuffNumbers': WHATEVER THE INPUT: true; the input reads as it did. -/
def stuffNumbersSpec : ChangeSpec := { name := "stuffNumbers", fn := fun _ => fun
  | [] => { results := [.lit (.bool true)], args := [] }
  | _ => none }
def stuffNumbersRow : OpenClaim := { program := "ytnfefjlplipeiab", sum := "9796b47bad0a6dccf84818e35108e0c08f5787c005b41ca5c0f77ad4f94c31d7", func := "gabion/gabionlaw04.StuffNumbers", spec := "stuffNumbers", inPlace := ["internal/bytealg.IndexByte"], unfollowed := true, recurses := true, apart := false }
def StuffNumbersSaid : Prop := stuffNumbersRow.holds Try.pinned (OpenSpec.ofChange stuffNumbersSpec)

/-- ITS FALSE NEIGHBOUR: 'it returns false'. Refute it at one input. -/
def stuffNumbersWrong : ChangeSpec := { name := "stuffNumbers", fn := fun _ => fun
  | [] => { results := [.lit (.bool false)], args := [] }
  | _ => none }
def StuffNumbersWrongFalsely : Prop := stuffNumbersRow.holds Try.pinned (OpenSpec.ofChange stuffNumbersWrong)

/-- 'gabionlaw04.StuffMakes': WHATEVER THE INPUT: true; the input reads as it did. -/
def stuffMakesSpec : ChangeSpec := { name := "stuffMakes", fn := fun _ => fun
  | [d] => { results := [.lit (.bool true)], args := [d] }
  | _ => none }
def stuffMakesRow : OpenClaim := { program := "ytnfefjlplipeiab", sum := "9796b47bad0a6dccf84818e35108e0c08f5787c005b41ca5c0f77ad4f94c31d7", func := "gabion/gabionlaw04.StuffMakes", spec := "stuffMakes", inPlace := ["internal/bytealg.IndexByte"], unfollowed := true, recurses := true, apart := false }
def StuffMakesSaid : Prop := stuffMakesRow.holds Try.pinned (OpenSpec.ofChange stuffMakesSpec)

/-- ITS FALSE NEIGHBOUR: 'it returns false'. Refute it at one input. -/
def stuffMakesWrong : ChangeSpec := { name := "stuffMakes", fn := fun _ => fun
  | [d] => { results := [.lit (.bool false)], args := [d] }
  | _ => none }
def StuffMakesWrongFalsely : Prop := stuffMakesRow.holds Try.pinned (OpenSpec.ofChange stuffMakesWrong)

/-- 'gabionlaw04.StuffTakes': WHATEVER THE INPUT: true; the input reads as it did. -/
def stuffTakesSpec : ChangeSpec := { name := "stuffTakes", fn := fun _ => fun
  | [d] => { results := [.lit (.bool true)], args := [d] }
  | _ => none }
def stuffTakesRow : OpenClaim := { program := "ytnfefjlplipeiab", sum := "9796b47bad0a6dccf84818e35108e0c08f5787c005b41ca5c0f77ad4f94c31d7", func := "gabion/gabionlaw04.StuffTakes", spec := "stuffTakes", inPlace := ["internal/bytealg.IndexByte"], unfollowed := true, recurses := true, apart := false }
def StuffTakesSaid : Prop := stuffTakesRow.holds Try.pinned (OpenSpec.ofChange stuffTakesSpec)

/-- ITS FALSE NEIGHBOUR: 'it returns false'. Refute it at one input. -/
def stuffTakesWrong : ChangeSpec := { name := "stuffTakes", fn := fun _ => fun
  | [d] => { results := [.lit (.bool false)], args := [d] }
  | _ => none }
def StuffTakesWrongFalsely : Prop := stuffTakesRow.holds Try.pinned (OpenSpec.ofChange stuffTakesWrong)

/-- 'gabionlaw04.StuffBack': WHATEVER THE INPUT: true; the input reads as it did. -/
def stuffBackSpec : ChangeSpec := { name := "stuffBack", fn := fun _ => fun
  | [d1, d2] => { results := [.lit (.bool true)], args := [d1, d2] }
  | _ => none }
def stuffBackRow : OpenClaim := { program := "ytnfefjlplipeiab", sum := "9796b47bad0a6dccf84818e35108e0c08f5787c005b41ca5c0f77ad4f94c31d7", func := "gabion/gabionlaw04.StuffBack", spec := "stuffBack", inPlace := ["internal/bytealg.IndexByte"], unfollowed := true, recurses := true, apart := false }
def StuffBackSaid : Prop := stuffBackRow.holds Try.pinned (OpenSpec.ofChange stuffBackSpec)

/-- ITS FALSE NEIGHBOUR: 'it returns false'. Refute it at one input. -/
def stuffBackWrong : ChangeSpec := { name := "stuffBack", fn := fun _ => fun
  | [d1, d2] => { results := [.lit (.bool false)], args := [d1, d2] }
  | _ => none }
def StuffBackWrongFalsely : Prop := stuffBackRow.holds Try.pinned (OpenSpec.ofChange stuffBackWrong)

/-- 'gabionlaw04.StuffUnlike': WHATEVER THE INPUT: true; the input reads as it did. -/
def stuffUnlikeSpec : ChangeSpec := { name := "stuffUnlike", fn := fun _ => fun
  | [d1, d2] => { results := [.lit (.bool true)], args := [d1, d2] }
  | _ => none }
def stuffUnlikeRow : OpenClaim := { program := "ytnfefjlplipeiab", sum := "9796b47bad0a6dccf84818e35108e0c08f5787c005b41ca5c0f77ad4f94c31d7", func := "gabion/gabionlaw04.StuffUnlike", spec := "stuffUnlike", inPlace := ["internal/bytealg.IndexByte"], unfollowed := true, recurses := true, apart := false }
def StuffUnlikeSaid : Prop := stuffUnlikeRow.holds Try.pinned (OpenSpec.ofChange stuffUnlikeSpec)

/-- ITS FALSE NEIGHBOUR: 'it returns false'. Refute it at one input. -/
def stuffUnlikeWrong : ChangeSpec := { name := "stuffUnlike", fn := fun _ => fun
  | [d1, d2] => { results := [.lit (.bool false)], args := [d1, d2] }
  | _ => none }
def StuffUnlikeWrongFalsely : Prop := stuffUnlikeRow.holds Try.pinned (OpenSpec.ofChange stuffUnlikeWrong)

/-- 'gabionlaw04.StuffFresh': WHATEVER THE INPUT: true; the input reads as it did. -/
def stuffFreshSpec : ChangeSpec := { name := "stuffFresh", fn := fun _ => fun
  | [d] => { results := [.lit (.bool true)], args := [d] }
  | _ => none }
def stuffFreshRow : OpenClaim := { program := "ytnfefjlplipeiab", sum := "9796b47bad0a6dccf84818e35108e0c08f5787c005b41ca5c0f77ad4f94c31d7", func := "gabion/gabionlaw04.StuffFresh", spec := "stuffFresh", inPlace := ["internal/bytealg.IndexByte"], unfollowed := true, recurses := true, apart := false }
def StuffFreshSaid : Prop := stuffFreshRow.holds Try.pinned (OpenSpec.ofChange stuffFreshSpec)

/-- ITS FALSE NEIGHBOUR: 'it returns false'. Refute it at one input. -/
def stuffFreshWrong : ChangeSpec := { name := "stuffFresh", fn := fun _ => fun
  | [d] => { results := [.lit (.bool false)], args := [d] }
  | _ => none }
def StuffFreshWrongFalsely : Prop := stuffFreshRow.holds Try.pinned (OpenSpec.ofChange stuffFreshWrong)

/-- 'gabionlaw05.DevFails': WHATEVER THE INPUT: true; the input reads as it did. -/
def devFailsSpec : ChangeSpec := { name := "devFails", fn := fun _ => fun
  | [d] => { results := [.lit (.bool true)], args := [d] }
  | _ => none }
def devFailsRow : OpenClaim := { program := "ytnfefjlplipeiab", sum := "9796b47bad0a6dccf84818e35108e0c08f5787c005b41ca5c0f77ad4f94c31d7", func := "gabion/gabionlaw05.DevFails", spec := "devFails", unfollowed := true, recurses := true, apart := false }
def DevFailsSaid : Prop := devFailsRow.holds Try.pinned (OpenSpec.ofChange devFailsSpec)

/-- ITS FALSE NEIGHBOUR: 'it returns false'. Refute it at one input. -/
def devFailsWrong : ChangeSpec := { name := "devFails", fn := fun _ => fun
  | [d] => { results := [.lit (.bool false)], args := [d] }
  | _ => none }
def DevFailsWrongFalsely : Prop := devFailsRow.holds Try.pinned (OpenSpec.ofChange devFailsWrong)

/-- 'gabionlaw05.DevKeeps': WHATEVER THE INPUT: true; the input reads as it did. -/
def devKeepsSpec : ChangeSpec := { name := "devKeeps", fn := fun _ => fun
  | [d1, d2] => { results := [.lit (.bool true)], args := [d1, d2] }
  | _ => none }
def devKeepsRow : OpenClaim := { program := "ytnfefjlplipeiab", sum := "9796b47bad0a6dccf84818e35108e0c08f5787c005b41ca5c0f77ad4f94c31d7", func := "gabion/gabionlaw05.DevKeeps", spec := "devKeeps", unfollowed := true, recurses := true, apart := false }
def DevKeepsSaid : Prop := devKeepsRow.holds Try.pinned (OpenSpec.ofChange devKeepsSpec)

/-- ITS FALSE NEIGHBOUR: 'it returns false'. Refute it at one input. -/
def devKeepsWrong : ChangeSpec := { name := "devKeeps", fn := fun _ => fun
  | [d1, d2] => { results := [.lit (.bool false)], args := [d1, d2] }
  | _ => none }
def DevKeepsWrongFalsely : Prop := devKeepsRow.holds Try.pinned (OpenSpec.ofChange devKeepsWrong)

/-- 'gabionlaw05.DevPlays': WHATEVER THE INPUT: true; the input reads as it did. -/
def devPlaysSpec : ChangeSpec := { name := "devPlays", fn := fun _ => fun
  | [d1, d2] => { results := [.lit (.bool true)], args := [d1, d2] }
  | _ => none }
def devPlaysRow : OpenClaim := { program := "ytnfefjlplipeiab", sum := "9796b47bad0a6dccf84818e35108e0c08f5787c005b41ca5c0f77ad4f94c31d7", func := "gabion/gabionlaw05.DevPlays", spec := "devPlays", unfollowed := true, recurses := true, apart := false }
def DevPlaysSaid : Prop := devPlaysRow.holds Try.pinned (OpenSpec.ofChange devPlaysSpec)

/-- ITS FALSE NEIGHBOUR: 'it returns false'. Refute it at one input. -/
def devPlaysWrong : ChangeSpec := { name := "devPlays", fn := fun _ => fun
  | [d1, d2] => { results := [.lit (.bool false)], args := [d1, d2] }
  | _ => none }
def DevPlaysWrongFalsely : Prop := devPlaysRow.holds Try.pinned (OpenSpec.ofChange devPlaysWrong)

/- THE SECOND FORM. 'bulk': how many values and letters a reading holds, each counted each time it is reached (what is shared counts as often as it is met; a slice's spare places count too). A statement '..UptoSaid' is the law's where the arguments, and the package variables that the reading takes, are together of bulk at most 1048576: NARROWER than '..Said'. Prove '..Said' where nothing that the law and all that it calls make is longer than what came in: it says more and counts as full. Else prove '..UptoSaid'. A law counts once. -/
mutual
def uptoBulk {H : Type} : DataW H → Nat
  | .lit (.string bytes) => bytes.length + 1
  | .lit _ => 1
  | .nil => 1
  | .ptr d => uptoBulk d + 1
  | .slice elems spare => uptoBulkAll elems + uptoBulkAll spare + 1
  | .agg parts => uptoBulkAll parts + 1
  | .iface _ d => uptoBulk d + 1
  | .map entries => uptoBulkEntries entries + 1
  | .held _ => 1
def uptoBulkAll {H : Type} : List (DataW H) → Nat
  | [] => 0
  | d :: r => uptoBulk d + uptoBulkAll r
def uptoBulkEntries {H : Type} : List (Lit × DataW H) → Nat
  | [] => 0
  | x :: r => uptoBulkEntry x + uptoBulkEntries r
def uptoBulkEntry {H : Type} : Lit × DataW H → Nat
  | (.string bytes, d) => bytes.length + uptoBulk d + 1
  | (_, d) => uptoBulk d + 1
 end
def uptoSmall : (H : Type) → List (DataW H) → Bool := fun _ ds => decide (uptoBulkAll ds ≤ 1048576)
def OpenSpec.upto (s : _root_.Go.ChangeSpec) : _root_.Go.OpenSpec := { _root_.Go.OpenSpec.ofChange s with cond := some uptoSmall }

/-- 'gabionlaw04.StuffNumbers', WHERE WHAT IT READS IS OF BULK AT MOST 1048576: true; the input reads as it did. -/
def stuffNumbersUptoRow : OpenClaim := { program := "ytnfefjlplipeiab", sum := "9796b47bad0a6dccf84818e35108e0c08f5787c005b41ca5c0f77ad4f94c31d7", func := "gabion/gabionlaw04.StuffNumbers", spec := "stuffNumbers", inPlace := ["internal/bytealg.IndexByte"], unfollowed := true, recurses := true, apart := false, narrowed := true }
def StuffNumbersUptoSaid : Prop := stuffNumbersUptoRow.holds Try.pinned (OpenSpec.upto stuffNumbersSpec)

/-- 'gabionlaw04.StuffMakes', WHERE WHAT IT READS IS OF BULK AT MOST 1048576: true; the input reads as it did. -/
def stuffMakesUptoRow : OpenClaim := { program := "ytnfefjlplipeiab", sum := "9796b47bad0a6dccf84818e35108e0c08f5787c005b41ca5c0f77ad4f94c31d7", func := "gabion/gabionlaw04.StuffMakes", spec := "stuffMakes", inPlace := ["internal/bytealg.IndexByte"], unfollowed := true, recurses := true, apart := false, narrowed := true }
def StuffMakesUptoSaid : Prop := stuffMakesUptoRow.holds Try.pinned (OpenSpec.upto stuffMakesSpec)

/-- 'gabionlaw04.StuffTakes', WHERE WHAT IT READS IS OF BULK AT MOST 1048576: true; the input reads as it did. -/
def stuffTakesUptoRow : OpenClaim := { program := "ytnfefjlplipeiab", sum := "9796b47bad0a6dccf84818e35108e0c08f5787c005b41ca5c0f77ad4f94c31d7", func := "gabion/gabionlaw04.StuffTakes", spec := "stuffTakes", inPlace := ["internal/bytealg.IndexByte"], unfollowed := true, recurses := true, apart := false, narrowed := true }
def StuffTakesUptoSaid : Prop := stuffTakesUptoRow.holds Try.pinned (OpenSpec.upto stuffTakesSpec)

/-- 'gabionlaw04.StuffBack', WHERE WHAT IT READS IS OF BULK AT MOST 1048576: true; the input reads as it did. -/
def stuffBackUptoRow : OpenClaim := { program := "ytnfefjlplipeiab", sum := "9796b47bad0a6dccf84818e35108e0c08f5787c005b41ca5c0f77ad4f94c31d7", func := "gabion/gabionlaw04.StuffBack", spec := "stuffBack", inPlace := ["internal/bytealg.IndexByte"], unfollowed := true, recurses := true, apart := false, narrowed := true }
def StuffBackUptoSaid : Prop := stuffBackUptoRow.holds Try.pinned (OpenSpec.upto stuffBackSpec)

/-- 'gabionlaw04.StuffUnlike', WHERE WHAT IT READS IS OF BULK AT MOST 1048576: true; the input reads as it did. -/
def stuffUnlikeUptoRow : OpenClaim := { program := "ytnfefjlplipeiab", sum := "9796b47bad0a6dccf84818e35108e0c08f5787c005b41ca5c0f77ad4f94c31d7", func := "gabion/gabionlaw04.StuffUnlike", spec := "stuffUnlike", inPlace := ["internal/bytealg.IndexByte"], unfollowed := true, recurses := true, apart := false, narrowed := true }
def StuffUnlikeUptoSaid : Prop := stuffUnlikeUptoRow.holds Try.pinned (OpenSpec.upto stuffUnlikeSpec)

/-- 'gabionlaw04.StuffFresh', WHERE WHAT IT READS IS OF BULK AT MOST 1048576: true; the input reads as it did. -/
def stuffFreshUptoRow : OpenClaim := { program := "ytnfefjlplipeiab", sum := "9796b47bad0a6dccf84818e35108e0c08f5787c005b41ca5c0f77ad4f94c31d7", func := "gabion/gabionlaw04.StuffFresh", spec := "stuffFresh", inPlace := ["internal/bytealg.IndexByte"], unfollowed := true, recurses := true, apart := false, narrowed := true }
def StuffFreshUptoSaid : Prop := stuffFreshUptoRow.holds Try.pinned (OpenSpec.upto stuffFreshSpec)

/-- 'gabionlaw05.DevFails', WHERE WHAT IT READS IS OF BULK AT MOST 1048576: true; the input reads as it did. -/
def devFailsUptoRow : OpenClaim := { program := "ytnfefjlplipeiab", sum := "9796b47bad0a6dccf84818e35108e0c08f5787c005b41ca5c0f77ad4f94c31d7", func := "gabion/gabionlaw05.DevFails", spec := "devFails", unfollowed := true, recurses := true, apart := false, narrowed := true }
def DevFailsUptoSaid : Prop := devFailsUptoRow.holds Try.pinned (OpenSpec.upto devFailsSpec)

/-- 'gabionlaw05.DevKeeps', WHERE WHAT IT READS IS OF BULK AT MOST 1048576: true; the input reads as it did. -/
def devKeepsUptoRow : OpenClaim := { program := "ytnfefjlplipeiab", sum := "9796b47bad0a6dccf84818e35108e0c08f5787c005b41ca5c0f77ad4f94c31d7", func := "gabion/gabionlaw05.DevKeeps", spec := "devKeeps", unfollowed := true, recurses := true, apart := false, narrowed := true }
def DevKeepsUptoSaid : Prop := devKeepsUptoRow.holds Try.pinned (OpenSpec.upto devKeepsSpec)

/-- 'gabionlaw05.DevPlays', WHERE WHAT IT READS IS OF BULK AT MOST 1048576: true; the input reads as it did. -/
def devPlaysUptoRow : OpenClaim := { program := "ytnfefjlplipeiab", sum := "9796b47bad0a6dccf84818e35108e0c08f5787c005b41ca5c0f77ad4f94c31d7", func := "gabion/gabionlaw05.DevPlays", spec := "devPlays", unfollowed := true, recurses := true, apart := false, narrowed := true }
def DevPlaysUptoSaid : Prop := devPlaysUptoRow.holds Try.pinned (OpenSpec.upto devPlaysSpec)

end Rows
end Go.Proofs.Ytnfefjlplipeiab
