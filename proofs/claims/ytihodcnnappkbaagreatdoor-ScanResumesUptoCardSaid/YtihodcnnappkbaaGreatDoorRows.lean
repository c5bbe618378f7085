/-
  NARROWER THAN 'FOR EVERY INPUT', by the rows' own cells (each row's printed sentence says how): ScanWalks: loops, laid · ScanAt: laid · ScanClones: loops, laid · ScanResumes: loops, laid · ScanJoins: laid · ScanPrefix: laid · ScanWhole: laid.
  DERIVED. THE GIVEN ROWS OF THIS SEAT. 7 by the template 'for every input the law returns true; each argument reads behind the call as it read before'; 0 by the template 'total and deterministic' (their statements: YtihodcnnappkbaaGreatDoorTotals.lean).
  GIVEN WITH THE SEED: the statements are not yours to turn. If you find one false, say at which input.
  Laid BY PROGRAM, IN A SANDBOX (cutbox-rows.mjs): the forced cells as the released guide's own fill.sh prints them over the translation eee9479df78cd785… (all of the seat's roots in one cut). By AI agents, Wed Nov 11 2026. No macro, syntax, notation, axiom, sorry.
-/
import Derived.Test.YtihodcnnappkbaaGreatDoorChecked
import GoSem.PinnedTables
import GoSem.Claim
import GoSem.ClaimJoined
import GoSem.ClaimMapViews
import Derived.JoinedTies
import Derived.KernelRfl
namespace Go.Proofs.YtihodcnnappkbaaGreatDoor
/- THE CELL 'sum', in the pinned program and in every row, IS THE sha256 OF THE DUMP (.gsa) THAT YtihodcnnappkbaaGreatDoorProg.lean LOADS. Nothing in Lean hashes anything: it is a label: what it is worth is what the hold of that sum in a sandbox is worth. -/
noncomputable def Tryz.pinned : Pinned := { name := "ytihodcnnappkbaagreatdoor", sum := "eee9479df78cd78542e18af6f071f11a1d6c690c92183a1c3c7a7c2f3319d661", checked := Tryz.checked }
namespace Rows
def none {H : Type} : Left H := { results := [], args := [] }

/- WHAT THE LISTED PACKAGE-LEVEL VARIABLES READ AS WHEN THE CALL BEGINS. Each datum BY PROGRAM (the guide's laid-datum.mjs) off the statement by which the dump's own 'gosem.cut.vars' lays the variable. In a bare row this is a premise. The card (YtihodcnnappkbaaGreatDoorCards.lean) ties it to the program's text. -/
def laid_gabion_crc_halves {H : Type} : DataW H := .agg [.lit (.int .u32 0), .lit (.int .u32 498536548), .lit (.int .u32 997073096), .lit (.int .u32 651767980), .lit (.int .u32 1994146192), .lit (.int .u32 1802195444), .lit (.int .u32 1303535960), .lit (.int .u32 1342533948), .lit (.int .u32 3988292384), .lit (.int .u32 4027552580), .lit (.int .u32 3604390888), .lit (.int .u32 3412177804), .lit (.int .u32 2607071920), .lit (.int .u32 2262029012), .lit (.int .u32 2685067896), .lit (.int .u32 3183342108)]
def laid_unicode_utf8_acceptRanges {H : Type} : DataW H := .agg [.agg [.lit (.int .u8 128), .lit (.int .u8 191)], .agg [.lit (.int .u8 160), .lit (.int .u8 191)], .agg [.lit (.int .u8 128), .lit (.int .u8 159)], .agg [.lit (.int .u8 144), .lit (.int .u8 191)], .agg [.lit (.int .u8 128), .lit (.int .u8 143)], .agg [.lit (.int .u8 0), .lit (.int .u8 0)], .agg [.lit (.int .u8 0), .lit (.int .u8 0)], .agg [.lit (.int .u8 0), .lit (.int .u8 0)], .agg [.lit (.int .u8 0), .lit (.int .u8 0)], .agg [.lit (.int .u8 0), .lit (.int .u8 0)], .agg [.lit (.int .u8 0), .lit (.int .u8 0)], .agg [.lit (.int .u8 0), .lit (.int .u8 0)], .agg [.lit (.int .u8 0), .lit (.int .u8 0)], .agg [.lit (.int .u8 0), .lit (.int .u8 0)], .agg [.lit (.int .u8 0), .lit (.int .u8 0)], .agg [.lit (.int .u8 0), .lit (.int .u8 0)]]
/-- One of Go's own tables, pinned by name: the form's constant. -/
def laid_unicode_utf8_first : DataW Unit := Go.Pinned.utf8First

/-- 'gabionlaw14.ScanWalks': WHATEVER THE INPUT: true; the input reads as it did. -/
def scanWalksSpec : ChangeSpec := { name := "scanWalks", fn := fun _ => fun
  | [d] => { results := [.lit (.bool true)], args := [d] }
  | _ => none }
def scanWalksRow : OpenClaim := { program := "ytihodcnnappkbaagreatdoor", sum := "eee9479df78cd78542e18af6f071f11a1d6c690c92183a1c3c7a7c2f3319d661", func := "gabion/gabionlaw14.ScanWalks", spec := "scanWalks", inPlace := ["internal/bytealg.IndexByte", "math.Float64frombits", "math.Float64bits"], unfollowed := true, recurses := true, named := ["gabion/crc.halves", "unicode/utf8.first", "unicode/utf8.acceptRanges"], loops := true, apart := false, laid := [("gabion/crc.halves", laid_gabion_crc_halves), ("unicode/utf8.acceptRanges", laid_unicode_utf8_acceptRanges), ("unicode/utf8.first", laid_unicode_utf8_first)] }
def ScanWalksSaid : Prop := scanWalksRow.holds Tryz.pinned (OpenSpec.ofChange scanWalksSpec)

/-- ITS FALSE NEIGHBOUR: 'it returns false'. Refute it at one input. -/
def scanWalksWrong : ChangeSpec := { name := "scanWalks", fn := fun _ => fun
  | [d] => { results := [.lit (.bool false)], args := [d] }
  | _ => none }
def ScanWalksWrongFalsely : Prop := scanWalksRow.holds Tryz.pinned (OpenSpec.ofChange scanWalksWrong)

/-- 'gabionlaw14.ScanAt': WHATEVER THE INPUT: true; the input reads as it did. -/
def scanAtSpec : ChangeSpec := { name := "scanAt", fn := fun _ => fun
  | [d1, d2] => { results := [.lit (.bool true)], args := [d1, d2] }
  | _ => none }
def scanAtRow : OpenClaim := { program := "ytihodcnnappkbaagreatdoor", sum := "eee9479df78cd78542e18af6f071f11a1d6c690c92183a1c3c7a7c2f3319d661", func := "gabion/gabionlaw14.ScanAt", spec := "scanAt", inPlace := ["internal/bytealg.IndexByte", "math.Float64frombits", "math.Float64bits"], unfollowed := true, recurses := true, named := ["gabion/crc.halves", "unicode/utf8.first", "unicode/utf8.acceptRanges"], apart := false, laid := [("gabion/crc.halves", laid_gabion_crc_halves), ("unicode/utf8.acceptRanges", laid_unicode_utf8_acceptRanges), ("unicode/utf8.first", laid_unicode_utf8_first)] }
def ScanAtSaid : Prop := scanAtRow.holds Tryz.pinned (OpenSpec.ofChange scanAtSpec)

/-- ITS FALSE NEIGHBOUR: 'it returns false'. Refute it at one input. -/
def scanAtWrong : ChangeSpec := { name := "scanAt", fn := fun _ => fun
  | [d1, d2] => { results := [.lit (.bool false)], args := [d1, d2] }
  | _ => none }
def ScanAtWrongFalsely : Prop := scanAtRow.holds Tryz.pinned (OpenSpec.ofChange scanAtWrong)

/-- 'gabionlaw14.ScanClones': WHATEVER THE INPUT: true; the input reads as it did. -/
def scanClonesSpec : ChangeSpec := { name := "scanClones", fn := fun _ => fun
  | [d1, d2, d3] => { results := [.lit (.bool true)], args := [d1, d2, d3] }
  | _ => none }
def scanClonesRow : OpenClaim := { program := "ytihodcnnappkbaagreatdoor", sum := "eee9479df78cd78542e18af6f071f11a1d6c690c92183a1c3c7a7c2f3319d661", func := "gabion/gabionlaw14.ScanClones", spec := "scanClones", inPlace := ["internal/bytealg.IndexByte", "math.Float64frombits", "math.Float64bits"], unfollowed := true, recurses := true, named := ["gabion/crc.halves", "unicode/utf8.first", "unicode/utf8.acceptRanges"], loops := true, apart := false, laid := [("gabion/crc.halves", laid_gabion_crc_halves), ("unicode/utf8.acceptRanges", laid_unicode_utf8_acceptRanges), ("unicode/utf8.first", laid_unicode_utf8_first)] }
def ScanClonesSaid : Prop := scanClonesRow.holds Tryz.pinned (OpenSpec.ofChange scanClonesSpec)

/-- ITS FALSE NEIGHBOUR: 'it returns false'. Refute it at one input. -/
def scanClonesWrong : ChangeSpec := { name := "scanClones", fn := fun _ => fun
  | [d1, d2, d3] => { results := [.lit (.bool false)], args := [d1, d2, d3] }
  | _ => none }
def ScanClonesWrongFalsely : Prop := scanClonesRow.holds Tryz.pinned (OpenSpec.ofChange scanClonesWrong)

/-- 'gabionlaw14.ScanResumes': WHATEVER THE INPUT: true; the input reads as it did. -/
def scanResumesSpec : ChangeSpec := { name := "scanResumes", fn := fun _ => fun
  | [d1, d2, d3, d4] => { results := [.lit (.bool true)], args := [d1, d2, d3, d4] }
  | _ => none }
def scanResumesRow : OpenClaim := { program := "ytihodcnnappkbaagreatdoor", sum := "eee9479df78cd78542e18af6f071f11a1d6c690c92183a1c3c7a7c2f3319d661", func := "gabion/gabionlaw14.ScanResumes", spec := "scanResumes", inPlace := ["internal/bytealg.IndexByte", "math.Float64frombits", "math.Float64bits"], unfollowed := true, recurses := true, named := ["gabion/crc.halves", "unicode/utf8.first", "unicode/utf8.acceptRanges"], loops := true, apart := false, laid := [("gabion/crc.halves", laid_gabion_crc_halves), ("unicode/utf8.acceptRanges", laid_unicode_utf8_acceptRanges), ("unicode/utf8.first", laid_unicode_utf8_first)] }
def ScanResumesSaid : Prop := scanResumesRow.holds Tryz.pinned (OpenSpec.ofChange scanResumesSpec)

/-- ITS FALSE NEIGHBOUR: 'it returns false'. Refute it at one input. -/
def scanResumesWrong : ChangeSpec := { name := "scanResumes", fn := fun _ => fun
  | [d1, d2, d3, d4] => { results := [.lit (.bool false)], args := [d1, d2, d3, d4] }
  | _ => none }
def ScanResumesWrongFalsely : Prop := scanResumesRow.holds Tryz.pinned (OpenSpec.ofChange scanResumesWrong)

/-- 'gabionlaw14.ScanJoins': WHATEVER THE INPUT: true; the input reads as it did. -/
def scanJoinsSpec : ChangeSpec := { name := "scanJoins", fn := fun _ => fun
  | [d] => { results := [.lit (.bool true)], args := [d] }
  | _ => none }
def scanJoinsRow : OpenClaim := { program := "ytihodcnnappkbaagreatdoor", sum := "eee9479df78cd78542e18af6f071f11a1d6c690c92183a1c3c7a7c2f3319d661", func := "gabion/gabionlaw14.ScanJoins", spec := "scanJoins", inPlace := ["internal/bytealg.IndexByte", "math.Float64frombits", "math.Float64bits"], unfollowed := true, recurses := true, named := ["gabion/crc.halves", "unicode/utf8.first", "unicode/utf8.acceptRanges"], apart := false, laid := [("gabion/crc.halves", laid_gabion_crc_halves), ("unicode/utf8.acceptRanges", laid_unicode_utf8_acceptRanges), ("unicode/utf8.first", laid_unicode_utf8_first)] }
def ScanJoinsSaid : Prop := scanJoinsRow.holds Tryz.pinned (OpenSpec.ofChange scanJoinsSpec)

/-- ITS FALSE NEIGHBOUR: 'it returns false'. Refute it at one input. -/
def scanJoinsWrong : ChangeSpec := { name := "scanJoins", fn := fun _ => fun
  | [d] => { results := [.lit (.bool false)], args := [d] }
  | _ => none }
def ScanJoinsWrongFalsely : Prop := scanJoinsRow.holds Tryz.pinned (OpenSpec.ofChange scanJoinsWrong)

/-- 'gabionlaw14.ScanPrefix': WHATEVER THE INPUT: true; the input reads as it did. -/
def scanPrefixSpec : ChangeSpec := { name := "scanPrefix", fn := fun _ => fun
  | [d1, d2] => { results := [.lit (.bool true)], args := [d1, d2] }
  | _ => none }
def scanPrefixRow : OpenClaim := { program := "ytihodcnnappkbaagreatdoor", sum := "eee9479df78cd78542e18af6f071f11a1d6c690c92183a1c3c7a7c2f3319d661", func := "gabion/gabionlaw14.ScanPrefix", spec := "scanPrefix", inPlace := ["internal/bytealg.IndexByte", "math.Float64frombits", "math.Float64bits"], unfollowed := true, recurses := true, named := ["gabion/crc.halves", "unicode/utf8.first", "unicode/utf8.acceptRanges"], apart := false, laid := [("gabion/crc.halves", laid_gabion_crc_halves), ("unicode/utf8.acceptRanges", laid_unicode_utf8_acceptRanges), ("unicode/utf8.first", laid_unicode_utf8_first)] }
def ScanPrefixSaid : Prop := scanPrefixRow.holds Tryz.pinned (OpenSpec.ofChange scanPrefixSpec)

/-- ITS FALSE NEIGHBOUR: 'it returns false'. Refute it at one input. -/
def scanPrefixWrong : ChangeSpec := { name := "scanPrefix", fn := fun _ => fun
  | [d1, d2] => { results := [.lit (.bool false)], args := [d1, d2] }
  | _ => none }
def ScanPrefixWrongFalsely : Prop := scanPrefixRow.holds Tryz.pinned (OpenSpec.ofChange scanPrefixWrong)

/-- 'gabionlaw14.ScanWhole': WHATEVER THE INPUT: true; the input reads as it did. -/
def scanWholeSpec : ChangeSpec := { name := "scanWhole", fn := fun _ => fun
  | [d] => { results := [.lit (.bool true)], args := [d] }
  | _ => none }
def scanWholeRow : OpenClaim := { program := "ytihodcnnappkbaagreatdoor", sum := "eee9479df78cd78542e18af6f071f11a1d6c690c92183a1c3c7a7c2f3319d661", func := "gabion/gabionlaw14.ScanWhole", spec := "scanWhole", inPlace := ["internal/bytealg.IndexByte", "math.Float64frombits", "math.Float64bits"], unfollowed := true, recurses := true, named := ["gabion/crc.halves", "unicode/utf8.first", "unicode/utf8.acceptRanges"], apart := false, laid := [("gabion/crc.halves", laid_gabion_crc_halves), ("unicode/utf8.acceptRanges", laid_unicode_utf8_acceptRanges), ("unicode/utf8.first", laid_unicode_utf8_first)] }
def ScanWholeSaid : Prop := scanWholeRow.holds Tryz.pinned (OpenSpec.ofChange scanWholeSpec)

/-- ITS FALSE NEIGHBOUR: 'it returns false'. Refute it at one input. -/
def scanWholeWrong : ChangeSpec := { name := "scanWhole", fn := fun _ => fun
  | [d] => { results := [.lit (.bool false)], args := [d] }
  | _ => none }
def ScanWholeWrongFalsely : Prop := scanWholeRow.holds Tryz.pinned (OpenSpec.ofChange scanWholeWrong)

/- THE SECOND FORM. 'bulk': how many values and letters a reading holds, each counted each time it is reached (what is shared counts as often as it is met; a slice's spare places count too). A statement '..UptoSaid' is the law's where the arguments, and the package variables that the reading takes, are together of bulk at most 1048576: NARROWER than '..Said'. Prove '..Said' where nothing that the law and all that it calls make is longer than what came in: it says more and counts as full. Else prove '..UptoSaid'. A law counts once. -/
mutual
def uptoBulk {H : Type} : DataW H → Nat
  | .lit (.string bytes) => bytes.length + 1
  | .lit _ => 1
  | .nil => 1
  | .ptr d => uptoBulk d + 1
  | .slice elems spare => uptoBulkAll elems + uptoBulkAll spare + 1
  | .agg parts => uptoBulkAll parts + 1
  | .iface _ d => uptoBulk d + 1
  | .map entries => uptoBulkEntries entries + 1
  | .held _ => 1
def uptoBulkAll {H : Type} : List (DataW H) → Nat
  | [] => 0
  | d :: r => uptoBulk d + uptoBulkAll r
def uptoBulkEntries {H : Type} : List (Lit × DataW H) → Nat
  | [] => 0
  | x :: r => uptoBulkEntry x + uptoBulkEntries r
def uptoBulkEntry {H : Type} : Lit × DataW H → Nat
  | (.string bytes, d) => bytes.length + uptoBulk d + 1
  | (_, d) => uptoBulk d + 1
 end
def uptoSmall : (H : Type) → List (DataW H) → Bool := fun _ ds => decide (uptoBulkAll ds ≤ 1048576)
def OpenSpec.upto (s : _root_.Go.ChangeSpec) : _root_.Go.OpenSpec := { _root_.Go.OpenSpec.ofChange s with cond := some uptoSmall }

/-- 'gabionlaw14.ScanWalks', WHERE WHAT IT READS IS OF BULK AT MOST 1048576: true; the input reads as it did. -/
def scanWalksUptoRow : OpenClaim := { program := "ytihodcnnappkbaagreatdoor", sum := "eee9479df78cd78542e18af6f071f11a1d6c690c92183a1c3c7a7c2f3319d661", func := "gabion/gabionlaw14.ScanWalks", spec := "scanWalks", inPlace := ["internal/bytealg.IndexByte", "math.Float64frombits", "math.Float64bits"], unfollowed := true, recurses := true, named := ["gabion/crc.halves", "unicode/utf8.first", "unicode/utf8.acceptRanges"], loops := true, apart := false, laid := [("gabion/crc.halves", laid_gabion_crc_halves), ("unicode/utf8.acceptRanges", laid_unicode_utf8_acceptRanges), ("unicode/utf8.first", laid_unicode_utf8_first)], narrowed := true }
def ScanWalksUptoSaid : Prop := scanWalksUptoRow.holds Tryz.pinned (OpenSpec.upto scanWalksSpec)

/-- 'gabionlaw14.ScanAt', WHERE WHAT IT READS IS OF BULK AT MOST 1048576: true; the input reads as it did. -/
def scanAtUptoRow : OpenClaim := { program := "ytihodcnnappkbaagreatdoor", sum := "eee9479df78cd78542e18af6f071f11a1d6c690c92183a1c3c7a7c2f3319d661", func := "gabion/gabionlaw14.ScanAt", spec := "scanAt", inPlace := ["internal/bytealg.IndexByte", "math.Float64frombits", "math.Float64bits"], unfollowed := true, recurses := true, named := ["gabion/crc.halves", "unicode/utf8.first", "unicode/utf8.acceptRanges"], apart := false, laid := [("gabion/crc.halves", laid_gabion_crc_halves), ("unicode/utf8.acceptRanges", laid_unicode_utf8_acceptRanges), ("unicode/utf8.first", laid_unicode_utf8_first)], narrowed := true }
def ScanAtUptoSaid : Prop := scanAtUptoRow.holds Tryz.pinned (OpenSpec.upto scanAtSpec)

/-- 'gabionlaw14.ScanClones', WHERE WHAT IT READS IS OF BULK AT MOST 1048576: true; the input reads as it did. -/
def scanClonesUptoRow : OpenClaim := { program := "ytihodcnnappkbaagreatdoor", sum := "eee9479df78cd78542e18af6f071f11a1d6c690c92183a1c3c7a7c2f3319d661", func := "gabion/gabionlaw14.ScanClones", spec := "scanClones", inPlace := ["internal/bytealg.IndexByte", "math.Float64frombits", "math.Float64bits"], unfollowed := true, recurses := true, named := ["gabion/crc.halves", "unicode/utf8.first", "unicode/utf8.acceptRanges"], loops := true, apart := false, laid := [("gabion/crc.halves", laid_gabion_crc_halves), ("unicode/utf8.acceptRanges", laid_unicode_utf8_acceptRanges), ("unicode/utf8.first", laid_unicode_utf8_first)], narrowed := true }
def ScanClonesUptoSaid : Prop := scanClonesUptoRow.holds Tryz.pinned (OpenSpec.upto scanClonesSpec)

/-- 'gabionlaw14.ScanResumes', WHERE WHAT IT READS IS OF BULK AT MOST 1048576: true; the input reads as it did. -/
def scanResumesUptoRow : OpenClaim := { program := "ytihodcnnappkbaagreatdoor", sum := "eee9479df78cd78542e18af6f071f11a1d6c690c92183a1c3c7a7c2f3319d661", func := "gabion/gabionlaw14.ScanResumes", spec := "scanResumes", inPlace := ["internal/bytealg.IndexByte", "math.Float64frombits", "math.Float64bits"], unfollowed := true, recurses := true, named := ["gabion/crc.halves", "unicode/utf8.first", "unicode/utf8.acceptRanges"], loops := true, apart := false, laid := [("gabion/crc.halves", laid_gabion_crc_halves), ("unicode/utf8.acceptRanges", laid_unicode_utf8_acceptRanges), ("unicode/utf8.first", laid_unicode_utf8_first)], narrowed := true }
def ScanResumesUptoSaid : Prop := scanResumesUptoRow.holds Tryz.pinned (OpenSpec.upto scanResumesSpec)

/-- 'gabionlaw14.ScanJoins', WHERE WHAT IT READS IS OF BULK AT MOST 1048576: true; the input reads as it did. -/
def scanJoinsUptoRow : OpenClaim := { program := "ytihodcnnappkbaagreatdoor", sum := "eee9479df78cd78542e18af6f071f11a1d6c690c92183a1c3c7a7c2f3319d661", func := "gabion/gabionlaw14.ScanJoins", spec := "scanJoins", inPlace := ["internal/bytealg.IndexByte", "math.Float64frombits", "math.Float64bits"], unfollowed := true, recurses := true, named := ["gabion/crc.halves", "unicode/utf8.first", "unicode/utf8.acceptRanges"], apart := false, laid := [("gabion/crc.halves", laid_gabion_crc_halves), ("unicode/utf8.acceptRanges", laid_unicode_utf8_acceptRanges), ("unicode/utf8.first", laid_unicode_utf8_first)], narrowed := true }
def ScanJoinsUptoSaid : Prop := scanJoinsUptoRow.holds Tryz.pinned (OpenSpec.upto scanJoinsSpec)

/-- 'gabionlaw14.ScanPrefix', WHERE WHAT IT READS IS OF BULK AT MOST 1048576: true; the input reads as it did. -/
def scanPrefixUptoRow : OpenClaim := { program := "ytihodcnnappkbaagreatdoor", sum := "eee9479df78cd78542e18af6f071f11a1d6c690c92183a1c3c7a7c2f3319d661", func := "gabion/gabionlaw14.ScanPrefix", spec := "scanPrefix", inPlace := ["internal/bytealg.IndexByte", "math.Float64frombits", "math.Float64bits"], unfollowed := true, recurses := true, named := ["gabion/crc.halves", "unicode/utf8.first", "unicode/utf8.acceptRanges"], apart := false, laid := [("gabion/crc.halves", laid_gabion_crc_halves), ("unicode/utf8.acceptRanges", laid_unicode_utf8_acceptRanges), ("unicode/utf8.first", laid_unicode_utf8_first)], narrowed := true }
def ScanPrefixUptoSaid : Prop := scanPrefixUptoRow.holds Tryz.pinned (OpenSpec.upto scanPrefixSpec)

/-- 'gabionlaw14.ScanWhole', WHERE WHAT IT READS IS OF BULK AT MOST 1048576: true; the input reads as it did. -/
def scanWholeUptoRow : OpenClaim := { program := "ytihodcnnappkbaagreatdoor", sum := "eee9479df78cd78542e18af6f071f11a1d6c690c92183a1c3c7a7c2f3319d661", func := "gabion/gabionlaw14.ScanWhole", spec := "scanWhole", inPlace := ["internal/bytealg.IndexByte", "math.Float64frombits", "math.Float64bits"], unfollowed := true, recurses := true, named := ["gabion/crc.halves", "unicode/utf8.first", "unicode/utf8.acceptRanges"], apart := false, laid := [("gabion/crc.halves", laid_gabion_crc_halves), ("unicode/utf8.acceptRanges", laid_unicode_utf8_acceptRanges), ("unicode/utf8.first", laid_unicode_utf8_first)], narrowed := true }
def ScanWholeUptoSaid : Prop := scanWholeUptoRow.holds Tryz.pinned (OpenSpec.upto scanWholeSpec)

end Rows
end Go.Proofs.YtihodcnnappkbaaGreatDoor
