/-
  No cell of these rows narrows 'for every input' (looked for: loops, veiled, ifaces, maps, wideKeys, modest, calm, conditions, laid).
  DERIVED. THE GIVEN ROWS OF THIS SEAT. 6 by the template 'for every input the law returns true; each argument reads behind the call as it read before'; 0 by the template 'total and deterministic' (their statements: YtnfefjlplipeiaaTotals.lean).
  GIVEN WITH THE SEED: the statements are not yours to turn. If you find one false, say at which input.
  Laid BY PROGRAM, IN A SANDBOX (cutbox-rows.mjs): the forced cells as the released guide's own fill.sh prints them over the translation f61b8475e463175f… (all of the seat's roots in one cut). By AI agents, Wed Nov 11 2026. No macro, syntax, notation, axiom, sorry.
-/
import Derived.Test.YtnfefjlplipeiaaChecked
import GoSem.Claim
import GoSem.ClaimJoined
import GoSem.ClaimMapViews
import Derived.JoinedTies
import Derived.KernelRfl
namespace Go.Proofs.Ytnfefjlplipeiaa
/- THE CELL 'sum', in the pinned program and in every row, IS THE sha256 OF THE DUMP (.gsa) THAT YtnfefjlplipeiaaProg.lean LOADS. Nothing in Lean hashes anything: it is a label: what it is worth is what the hold of that sum in a sandbox is worth. -/
noncomputable def Try.pinned : Pinned := { name := "ytnfefjlplipeiaa", sum := "f61b8475e463175f6d3d614f7fc444b0cea0cb761cfbc672c13af6be8567f349", checked := Try.checked }
namespace Rows
def none {H : Type} : Left H := { results := [], args := [] }

/-- 'gabionlaw05.DevNumbers': WHATEVER THE INPUT: true; the input reads as it did. -/
def devNumbersSpec : ChangeSpec := { name := "devNumbers", fn := fun _ => fun
  | [] => { results := [.lit (.bool true)], args := [] }
  | _ => none }
def devNumbersRow : OpenClaim := { program := "ytnfefjlplipeiaa", sum := "f61b8475e463175f6d3d614f7fc444b0cea0cb761cfbc672c13af6be8567f349", func := "gabion/gabionlaw05.DevNumbers", spec := "devNumbers", apart := false }
def DevNumbersSaid : Prop := devNumbersRow.holds Try.pinned (OpenSpec.ofChange devNumbersSpec)

/-- ITS FALSE NEIGHBOUR: 'it returns false'. Refute it at one input. -/
def devNumbersWrong : ChangeSpec := { name := "devNumbers", fn := fun _ => fun
  | [] => { results := [.lit (.bool false)], args := [] }
  | _ => none }
def DevNumbersWrongFalsely : Prop := devNumbersRow.holds Try.pinned (OpenSpec.ofChange devNumbersWrong)

/-- 'gabionlaw13.SplitRuns': WHATEVER THE INPUT: true; the input reads as it did. -/
def splitRunsSpec : ChangeSpec := { name := "splitRuns", fn := fun _ => fun
  | [d] => { results := [.lit (.bool true)], args := [d] }
  | _ => none }
def splitRunsRow : OpenClaim := { program := "ytnfefjlplipeiaa", sum := "f61b8475e463175f6d3d614f7fc444b0cea0cb761cfbc672c13af6be8567f349", func := "gabion/gabionlaw13.SplitRuns", spec := "splitRuns", unfollowed := true, recurses := true, apart := false }
def SplitRunsSaid : Prop := splitRunsRow.holds Try.pinned (OpenSpec.ofChange splitRunsSpec)

/-- ITS FALSE NEIGHBOUR: 'it returns false'. Refute it at one input. -/
def splitRunsWrong : ChangeSpec := { name := "splitRuns", fn := fun _ => fun
  | [d] => { results := [.lit (.bool false)], args := [d] }
  | _ => none }
def SplitRunsWrongFalsely : Prop := splitRunsRow.holds Try.pinned (OpenSpec.ofChange splitRunsWrong)

/-- 'gabionlaw13.SplitFeeds': WHATEVER THE INPUT: true; the input reads as it did. -/
def splitFeedsSpec : ChangeSpec := { name := "splitFeeds", fn := fun _ => fun
  | [d] => { results := [.lit (.bool true)], args := [d] }
  | _ => none }
def splitFeedsRow : OpenClaim := { program := "ytnfefjlplipeiaa", sum := "f61b8475e463175f6d3d614f7fc444b0cea0cb761cfbc672c13af6be8567f349", func := "gabion/gabionlaw13.SplitFeeds", spec := "splitFeeds", unfollowed := true, recurses := true, apart := false }
def SplitFeedsSaid : Prop := splitFeedsRow.holds Try.pinned (OpenSpec.ofChange splitFeedsSpec)

/-- ITS FALSE NEIGHBOUR: 'it returns false'. Refute it at one input. -/
def splitFeedsWrong : ChangeSpec := { name := "splitFeeds", fn := fun _ => fun
  | [d] => { results := [.lit (.bool false)], args := [d] }
  | _ => none }
def SplitFeedsWrongFalsely : Prop := splitFeedsRow.holds Try.pinned (OpenSpec.ofChange splitFeedsWrong)

/-- 'gabionlaw13.SplitStands': WHATEVER THE INPUT: true; the input reads as it did. -/
def splitStandsSpec : ChangeSpec := { name := "splitStands", fn := fun _ => fun
  | [d] => { results := [.lit (.bool true)], args := [d] }
  | _ => none }
def splitStandsRow : OpenClaim := { program := "ytnfefjlplipeiaa", sum := "f61b8475e463175f6d3d614f7fc444b0cea0cb761cfbc672c13af6be8567f349", func := "gabion/gabionlaw13.SplitStands", spec := "splitStands", unfollowed := true, recurses := true, apart := false }
def SplitStandsSaid : Prop := splitStandsRow.holds Try.pinned (OpenSpec.ofChange splitStandsSpec)

/-- ITS FALSE NEIGHBOUR: 'it returns false'. Refute it at one input. -/
def splitStandsWrong : ChangeSpec := { name := "splitStands", fn := fun _ => fun
  | [d] => { results := [.lit (.bool false)], args := [d] }
  | _ => none }
def SplitStandsWrongFalsely : Prop := splitStandsRow.holds Try.pinned (OpenSpec.ofChange splitStandsWrong)

/-- 'gabionlaw13.SplitJoins': WHATEVER THE INPUT: true; the input reads as it did. -/
def splitJoinsSpec : ChangeSpec := { name := "splitJoins", fn := fun _ => fun
  | [d1, d2] => { results := [.lit (.bool true)], args := [d1, d2] }
  | _ => none }
def splitJoinsRow : OpenClaim := { program := "ytnfefjlplipeiaa", sum := "f61b8475e463175f6d3d614f7fc444b0cea0cb761cfbc672c13af6be8567f349", func := "gabion/gabionlaw13.SplitJoins", spec := "splitJoins", unfollowed := true, recurses := true, apart := false }
def SplitJoinsSaid : Prop := splitJoinsRow.holds Try.pinned (OpenSpec.ofChange splitJoinsSpec)

/-- ITS FALSE NEIGHBOUR: 'it returns false'. Refute it at one input. -/
def splitJoinsWrong : ChangeSpec := { name := "splitJoins", fn := fun _ => fun
  | [d1, d2] => { results := [.lit (.bool false)], args := [d1, d2] }
  | _ => none }
def SplitJoinsWrongFalsely : Prop := splitJoinsRow.holds Try.pinned (OpenSpec.ofChange splitJoinsWrong)

/-- 'gabionlaw13.SplitClones': WHATEVER THE INPUT: true; the input reads as it did. -/
def splitClonesSpec : ChangeSpec := { name := "splitClones", fn := fun _ => fun
  | [d1, d2, d3] => { results := [.lit (.bool true)], args := [d1, d2, d3] }
  | _ => none }
def splitClonesRow : OpenClaim := { program := "ytnfefjlplipeiaa", sum := "f61b8475e463175f6d3d614f7fc444b0cea0cb761cfbc672c13af6be8567f349", func := "gabion/gabionlaw13.SplitClones", spec := "splitClones", unfollowed := true, recurses := true, apart := false }
def SplitClonesSaid : Prop := splitClonesRow.holds Try.pinned (OpenSpec.ofChange splitClonesSpec)

/-- ITS FALSE NEIGHBOUR: 'it returns false'. Refute it at one input. -/
def splitClonesWrong : ChangeSpec := { name := "splitClones", fn := fun _ => fun
  | [d1, d2, d3] => { results := [.lit (.bool false)], args := [d1, d2, d3] }
  | _ => none }
def SplitClonesWrongFalsely : Prop := splitClonesRow.holds Try.pinned (OpenSpec.ofChange splitClonesWrong)

/- THE SECOND FORM. 'bulk': how many values and letters a reading holds, each counted each time it is reached (what is shared counts as often as it is met; a slice's spare places count too). A statement '..UptoSaid' is the law's where the arguments, and the package variables that the reading takes, are together of bulk at most 1048576: NARROWER than '..Said'. Prove '..Said' where nothing that the law and all that it calls make is longer than what came in: it says more and counts as full. Else prove '..UptoSaid'. A law counts once. -/
mutual
def uptoBulk {H : Type} : DataW H → Nat
  | .lit (.string bytes) => bytes.length + 1
  | .lit _ => 1
  | .nil => 1
  | .ptr d => uptoBulk d + 1
  | .slice elems spare => uptoBulkAll elems + uptoBulkAll spare + 1
  | .agg parts => uptoBulkAll parts + 1
  | .iface _ d => uptoBulk d + 1
  | .map entries => uptoBulkEntries entries + 1
  | .held _ => 1
def uptoBulkAll {H : Type} : List (DataW H) → Nat
  | [] => 0
  | d :: r => uptoBulk d + uptoBulkAll r
def uptoBulkEntries {H : Type} : List (Lit × DataW H) → Nat
  | [] => 0
  | x :: r => uptoBulkEntry x + uptoBulkEntries r
def uptoBulkEntry {H : Type} : Lit × DataW H → Nat
  | (.string bytes, d) => bytes.length + uptoBulk d + 1
  | (_, d) => uptoBulk d + 1
 end
def uptoSmall : (H : Type) → List (DataW H) → Bool := fun _ ds => decide (uptoBulkAll ds ≤ 1048576)
def OpenSpec.upto (s : _root_.Go.ChangeSpec) : _root_.Go.OpenSpec := { _root_.Go.OpenSpec.ofChange s with cond := some uptoSmall }

/-- 'gabionlaw05.DevNumbers', WHERE WHAT IT READS IS OF BULK AT MOST 1048576: true; the input reads as it did. -/
def devNumbersUptoRow : OpenClaim := { program := "ytnfefjlplipeiaa", sum := "f61b8475e463175f6d3d614f7fc444b0cea0cb761cfbc672c13af6be8567f349", func := "gabion/gabionlaw05.DevNumbers", spec := "devNumbers", apart := false, narrowed := true }
def DevNumbersUptoSaid : Prop := devNumbersUptoRow.holds Try.pinned (OpenSpec.upto devNumbersSpec)

/-- 'gabionlaw13.SplitRuns', WHERE WHAT IT READS IS OF BULK AT MOST 1048576: true; the input reads as it did. -/
def splitRunsUptoRow : OpenClaim := { program := "ytnfefjlplipeiaa", sum := "f61b8475e463175f6d3d614f7fc444b0cea0cb761cfbc672c13af6be8567f349", func := "gabion/gabionlaw13.SplitRuns", spec := "splitRuns", unfollowed := true, recurses := true, apart := false, narrowed := true }
def SplitRunsUptoSaid : Prop := splitRunsUptoRow.holds Try.pinned (OpenSpec.upto splitRunsSpec)

/-- 'gabionlaw13.SplitFeeds', WHERE WHAT IT READS IS OF BULK AT MOST 1048576: true; the input reads as it did. -/
def splitFeedsUptoRow : OpenClaim := { program := "ytnfefjlplipeiaa", sum := "f61b8475e463175f6d3d614f7fc444b0cea0cb761cfbc672c13af6be8567f349", func := "gabion/gabionlaw13.SplitFeeds", spec := "splitFeeds", unfollowed := true, recurses := true, apart := false, narrowed := true }
def SplitFeedsUptoSaid : Prop := splitFeedsUptoRow.holds Try.pinned (OpenSpec.upto splitFeedsSpec)

/-- 'gabionlaw13.SplitStands', WHERE WHAT IT READS IS OF BULK AT MOST 1048576: true; the input reads as it did. -/
def splitStandsUptoRow : OpenClaim := { program := "ytnfefjlplipeiaa", sum := "f61b8475e463175f6d3d614f7fc444b0cea0cb761cfbc672c13af6be8567f349", func := "gabion/gabionlaw13.SplitStands", spec := "splitStands", unfollowed := true, recurses := true, apart := false, narrowed := true }
def SplitStandsUptoSaid : Prop := splitStandsUptoRow.holds Try.pinned (OpenSpec.upto splitStandsSpec)

/-- 'gabionlaw13.SplitJoins', WHERE WHAT IT READS IS OF BULK AT MOST 1048576: true; the input reads as it did. -/
def splitJoinsUptoRow : OpenClaim := { program := "ytnfefjlplipeiaa", sum := "f61b8475e463175f6d3d614f7fc444b0cea0cb761cfbc672c13af6be8567f349", func := "gabion/gabionlaw13.SplitJoins", spec := "splitJoins", unfollowed := true, recurses := true, apart := false, narrowed := true }
def SplitJoinsUptoSaid : Prop := splitJoinsUptoRow.holds Try.pinned (OpenSpec.upto splitJoinsSpec)

/-- 'gabionlaw13.SplitClones', WHERE WHAT IT READS IS OF BULK AT MOST 1048576: true; the input reads as it did. -/
def splitClonesUptoRow : OpenClaim := { program := "ytnfefjlplipeiaa", sum := "f61b8475e463175f6d3d614f7fc444b0cea0cb761cfbc672c13af6be8567f349", func := "gabion/gabionlaw13.SplitClones", spec := "splitClones", unfollowed := true, recurses := true, apart := false, narrowed := true }
def SplitClonesUptoSaid : Prop := splitClonesUptoRow.holds Try.pinned (OpenSpec.upto splitClonesSpec)

end Rows
end Go.Proofs.Ytnfefjlplipeiaa
