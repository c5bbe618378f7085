/-
  NARROWER THAN 'FOR EVERY INPUT', by the rows' own cells (each row's printed sentence says how): FrameNumbers: laid · FrameSames: loops, laid · FrameBack: loops, laid · FrameBurst: loops, laid.
  DERIVED. THE GIVEN ROWS OF THIS SEAT. 4 by the template 'for every input the law returns true; each argument reads behind the call as it read before'; 0 by the template 'total and deterministic' (their statements: YtbhhhkilljnkfaaDoorTotals.lean).
  GIVEN WITH THE SEED: the statements are not yours to turn. If you find one false, say at which input.
  Laid BY PROGRAM, IN A SANDBOX (cutbox-rows.mjs): the forced cells as the released guide's own fill.sh prints them over the translation a852d234c51b3fb3… (all of the seat's roots in one cut). By AI agents, Wed Nov 11 2026. No macro, syntax, notation, axiom, sorry.
-/
import Derived.Test.YtbhhhkilljnkfaaDoorChecked
import GoSem.PinnedTables
import GoSem.Claim
import GoSem.ClaimJoined
import GoSem.ClaimMapViews
import Derived.JoinedTies
import Derived.KernelRfl
namespace Go.Proofs.YtbhhhkilljnkfaaDoor
/- THE CELL 'sum', in the pinned program and in every row, IS THE sha256 OF THE DUMP (.gsa) THAT YtbhhhkilljnkfaaDoorProg.lean LOADS. Nothing in Lean hashes anything: it is a label: what it is worth is what the hold of that sum in a sandbox is worth. -/
noncomputable def Tryd.pinned : Pinned := { name := "ytbhhhkilljnkfaadoor", sum := "a852d234c51b3fb3c92a74c4c10017a14edf054cb89aa0460be1e25ce652de26", checked := Tryd.checked }
namespace Rows
def none {H : Type} : Left H := { results := [], args := [] }

/- WHAT THE LISTED PACKAGE-LEVEL VARIABLES READ AS WHEN THE CALL BEGINS. Each datum BY PROGRAM (the guide's laid-datum.mjs) off the statement by which the dump's own 'gosem.cut.vars' lays the variable. In a bare row this is a premise. The card (YtbhhhkilljnkfaaDoorCards.lean) ties it to the program's text. -/
def laid_gabion_crc_halves {H : Type} : DataW H := .agg [.lit (.int .u32 0), .lit (.int .u32 498536548), .lit (.int .u32 997073096), .lit (.int .u32 651767980), .lit (.int .u32 1994146192), .lit (.int .u32 1802195444), .lit (.int .u32 1303535960), .lit (.int .u32 1342533948), .lit (.int .u32 3988292384), .lit (.int .u32 4027552580), .lit (.int .u32 3604390888), .lit (.int .u32 3412177804), .lit (.int .u32 2607071920), .lit (.int .u32 2262029012), .lit (.int .u32 2685067896), .lit (.int .u32 3183342108)]
def laid_unicode_utf8_acceptRanges {H : Type} : DataW H := .agg [.agg [.lit (.int .u8 128), .lit (.int .u8 191)], .agg [.lit (.int .u8 160), .lit (.int .u8 191)], .agg [.lit (.int .u8 128), .lit (.int .u8 159)], .agg [.lit (.int .u8 144), .lit (.int .u8 191)], .agg [.lit (.int .u8 128), .lit (.int .u8 143)], .agg [.lit (.int .u8 0), .lit (.int .u8 0)], .agg [.lit (.int .u8 0), .lit (.int .u8 0)], .agg [.lit (.int .u8 0), .lit (.int .u8 0)], .agg [.lit (.int .u8 0), .lit (.int .u8 0)], .agg [.lit (.int .u8 0), .lit (.int .u8 0)], .agg [.lit (.int .u8 0), .lit (.int .u8 0)], .agg [.lit (.int .u8 0), .lit (.int .u8 0)], .agg [.lit (.int .u8 0), .lit (.int .u8 0)], .agg [.lit (.int .u8 0), .lit (.int .u8 0)], .agg [.lit (.int .u8 0), .lit (.int .u8 0)], .agg [.lit (.int .u8 0), .lit (.int .u8 0)]]
/-- One of Go's own tables, pinned by name: the form's constant. -/
def laid_unicode_utf8_first : DataW Unit := Go.Pinned.utf8First

/-- 'gabionlaw12.FrameNumbers': WHATEVER THE INPUT: true; the input reads as it did. -/
def frameNumbersSpec : ChangeSpec := { name := "frameNumbers", fn := fun _ => fun
  | [] => { results := [.lit (.bool true)], args := [] }
  | _ => none }
def frameNumbersRow : OpenClaim := { program := "ytbhhhkilljnkfaadoor", sum := "a852d234c51b3fb3c92a74c4c10017a14edf054cb89aa0460be1e25ce652de26", func := "gabion/gabionlaw12.FrameNumbers", spec := "frameNumbers", inPlace := ["internal/bytealg.IndexByte", "math.Float64frombits", "math.Float64bits"], unfollowed := true, recurses := true, named := ["gabion/crc.halves", "unicode/utf8.first", "unicode/utf8.acceptRanges"], apart := false, laid := [("gabion/crc.halves", laid_gabion_crc_halves), ("unicode/utf8.acceptRanges", laid_unicode_utf8_acceptRanges), ("unicode/utf8.first", laid_unicode_utf8_first)] }
def FrameNumbersSaid : Prop := frameNumbersRow.holds Tryd.pinned (OpenSpec.ofChange frameNumbersSpec)

/-- ITS FALSE NEIGHBOUR: 'it returns false'. Refute it at one input. -/
def frameNumbersWrong : ChangeSpec := { name := "frameNumbers", fn := fun _ => fun
  | [] => { results := [.lit (.bool false)], args := [] }
  | _ => none }
def FrameNumbersWrongFalsely : Prop := frameNumbersRow.holds Tryd.pinned (OpenSpec.ofChange frameNumbersWrong)

/-- 'gabionlaw12.FrameSames': WHATEVER THE INPUT: true; the input reads as it did. -/
def frameSamesSpec : ChangeSpec := { name := "frameSames", fn := fun _ => fun
  | [d1, d2] => { results := [.lit (.bool true)], args := [d1, d2] }
  | _ => none }
def frameSamesRow : OpenClaim := { program := "ytbhhhkilljnkfaadoor", sum := "a852d234c51b3fb3c92a74c4c10017a14edf054cb89aa0460be1e25ce652de26", func := "gabion/gabionlaw12.FrameSames", spec := "frameSames", inPlace := ["math.Float64bits", "internal/bytealg.IndexByte", "math.Float64frombits"], unfollowed := true, recurses := true, named := ["gabion/crc.halves", "unicode/utf8.first", "unicode/utf8.acceptRanges"], loops := true, apart := false, laid := [("gabion/crc.halves", laid_gabion_crc_halves), ("unicode/utf8.acceptRanges", laid_unicode_utf8_acceptRanges), ("unicode/utf8.first", laid_unicode_utf8_first)] }
def FrameSamesSaid : Prop := frameSamesRow.holds Tryd.pinned (OpenSpec.ofChange frameSamesSpec)

/-- ITS FALSE NEIGHBOUR: 'it returns false'. Refute it at one input. -/
def frameSamesWrong : ChangeSpec := { name := "frameSames", fn := fun _ => fun
  | [d1, d2] => { results := [.lit (.bool false)], args := [d1, d2] }
  | _ => none }
def FrameSamesWrongFalsely : Prop := frameSamesRow.holds Tryd.pinned (OpenSpec.ofChange frameSamesWrong)

/-- 'gabionlaw12.FrameBack': WHATEVER THE INPUT: true; the input reads as it did. -/
def frameBackSpec : ChangeSpec := { name := "frameBack", fn := fun _ => fun
  | [d1, d2] => { results := [.lit (.bool true)], args := [d1, d2] }
  | _ => none }
def frameBackRow : OpenClaim := { program := "ytbhhhkilljnkfaadoor", sum := "a852d234c51b3fb3c92a74c4c10017a14edf054cb89aa0460be1e25ce652de26", func := "gabion/gabionlaw12.FrameBack", spec := "frameBack", inPlace := ["internal/bytealg.IndexByte", "math.Float64frombits", "math.Float64bits"], unfollowed := true, recurses := true, named := ["gabion/crc.halves", "unicode/utf8.first", "unicode/utf8.acceptRanges"], loops := true, apart := false, laid := [("gabion/crc.halves", laid_gabion_crc_halves), ("unicode/utf8.acceptRanges", laid_unicode_utf8_acceptRanges), ("unicode/utf8.first", laid_unicode_utf8_first)] }
def FrameBackSaid : Prop := frameBackRow.holds Tryd.pinned (OpenSpec.ofChange frameBackSpec)

/-- ITS FALSE NEIGHBOUR: 'it returns false'. Refute it at one input. -/
def frameBackWrong : ChangeSpec := { name := "frameBack", fn := fun _ => fun
  | [d1, d2] => { results := [.lit (.bool false)], args := [d1, d2] }
  | _ => none }
def FrameBackWrongFalsely : Prop := frameBackRow.holds Tryd.pinned (OpenSpec.ofChange frameBackWrong)

/-- 'gabionlaw12.FrameBurst': WHATEVER THE INPUT: true; the input reads as it did. -/
def frameBurstSpec : ChangeSpec := { name := "frameBurst", fn := fun _ => fun
  | [d1, d2, d3] => { results := [.lit (.bool true)], args := [d1, d2, d3] }
  | _ => none }
def frameBurstRow : OpenClaim := { program := "ytbhhhkilljnkfaadoor", sum := "a852d234c51b3fb3c92a74c4c10017a14edf054cb89aa0460be1e25ce652de26", func := "gabion/gabionlaw12.FrameBurst", spec := "frameBurst", inPlace := ["internal/bytealg.IndexByte", "math.Float64frombits", "math.Float64bits"], unfollowed := true, recurses := true, named := ["gabion/crc.halves", "unicode/utf8.first", "unicode/utf8.acceptRanges"], loops := true, apart := false, laid := [("gabion/crc.halves", laid_gabion_crc_halves), ("unicode/utf8.acceptRanges", laid_unicode_utf8_acceptRanges), ("unicode/utf8.first", laid_unicode_utf8_first)] }
def FrameBurstSaid : Prop := frameBurstRow.holds Tryd.pinned (OpenSpec.ofChange frameBurstSpec)

/-- ITS FALSE NEIGHBOUR: 'it returns false'. Refute it at one input. -/
def frameBurstWrong : ChangeSpec := { name := "frameBurst", fn := fun _ => fun
  | [d1, d2, d3] => { results := [.lit (.bool false)], args := [d1, d2, d3] }
  | _ => none }
def FrameBurstWrongFalsely : Prop := frameBurstRow.holds Tryd.pinned (OpenSpec.ofChange frameBurstWrong)

/- THE SECOND FORM. 'bulk': how many values and letters a reading holds, each counted each time it is reached (what is shared counts as often as it is met; a slice's spare places count too). A statement '..UptoSaid' is the law's where the arguments, and the package variables that the reading takes, are together of bulk at most 1048576: NARROWER than '..Said'. Prove '..Said' where nothing that the law and all that it calls make is longer than what came in: it says more and counts as full. Else prove '..UptoSaid'. A law counts once. -/
mutual
def uptoBulk {H : Type} : DataW H → Nat
  | .lit (.string bytes) => bytes.length + 1
  | .lit _ => 1
  | .nil => 1
  | .ptr d => uptoBulk d + 1
  | .slice elems spare => uptoBulkAll elems + uptoBulkAll spare + 1
  | .agg parts => uptoBulkAll parts + 1
  | .iface _ d => uptoBulk d + 1
  | .map entries => uptoBulkEntries entries + 1
  | .held _ => 1
def uptoBulkAll {H : Type} : List (DataW H) → Nat
  | [] => 0
  | d :: r => uptoBulk d + uptoBulkAll r
def uptoBulkEntries {H : Type} : List (Lit × DataW H) → Nat
  | [] => 0
  | x :: r => uptoBulkEntry x + uptoBulkEntries r
def uptoBulkEntry {H : Type} : Lit × DataW H → Nat
  | (.string bytes, d) => bytes.length + uptoBulk d + 1
  | (_, d) => uptoBulk d + 1
 end
def uptoSmall : (H : Type) → List (DataW H) → Bool := fun _ ds => decide (uptoBulkAll ds ≤ 1048576)
def OpenSpec.upto (s : _root_.Go.ChangeSpec) : _root_.Go.OpenSpec := { _root_.Go.OpenSpec.ofChange s with cond := some uptoSmall }

/-- 'gabionlaw12.FrameNumbers', WHERE WHAT IT READS IS OF BULK AT MOST 1048576: true; the input reads as it did. -/
def frameNumbersUptoRow : OpenClaim := { program := "ytbhhhkilljnkfaadoor", sum := "a852d234c51b3fb3c92a74c4c10017a14edf054cb89aa0460be1e25ce652de26", func := "gabion/gabionlaw12.FrameNumbers", spec := "frameNumbers", inPlace := ["internal/bytealg.IndexByte", "math.Float64frombits", "math.Float64bits"], unfollowed := true, recurses := true, named := ["gabion/crc.halves", "unicode/utf8.first", "unicode/utf8.acceptRanges"], apart := false, laid := [("gabion/crc.halves", laid_gabion_crc_halves), ("unicode/utf8.acceptRanges", laid_unicode_utf8_acceptRanges), ("unicode/utf8.first", laid_unicode_utf8_first)], narrowed := true }
def FrameNumbersUptoSaid : Prop := frameNumbersUptoRow.holds Tryd.pinned (OpenSpec.upto frameNumbersSpec)

/-- 'gabionlaw12.FrameSames', WHERE WHAT IT READS IS OF BULK AT MOST 1048576: true; the input reads as it did. -/
def frameSamesUptoRow : OpenClaim := { program := "ytbhhhkilljnkfaadoor", sum := "a852d234c51b3fb3c92a74c4c10017a14edf054cb89aa0460be1e25ce652de26", func := "gabion/gabionlaw12.FrameSames", spec := "frameSames", inPlace := ["math.Float64bits", "internal/bytealg.IndexByte", "math.Float64frombits"], unfollowed := true, recurses := true, named := ["gabion/crc.halves", "unicode/utf8.first", "unicode/utf8.acceptRanges"], loops := true, apart := false, laid := [("gabion/crc.halves", laid_gabion_crc_halves), ("unicode/utf8.acceptRanges", laid_unicode_utf8_acceptRanges), ("unicode/utf8.first", laid_unicode_utf8_first)], narrowed := true }
def FrameSamesUptoSaid : Prop := frameSamesUptoRow.holds Tryd.pinned (OpenSpec.upto frameSamesSpec)

/-- 'gabionlaw12.FrameBack', WHERE WHAT IT READS IS OF BULK AT MOST 1048576: true; the input reads as it did. -/
def frameBackUptoRow : OpenClaim := { program := "ytbhhhkilljnkfaadoor", sum := "a852d234c51b3fb3c92a74c4c10017a14edf054cb89aa0460be1e25ce652de26", func := "gabion/gabionlaw12.FrameBack", spec := "frameBack", inPlace := ["internal/bytealg.IndexByte", "math.Float64frombits", "math.Float64bits"], unfollowed := true, recurses := true, named := ["gabion/crc.halves", "unicode/utf8.first", "unicode/utf8.acceptRanges"], loops := true, apart := false, laid := [("gabion/crc.halves", laid_gabion_crc_halves), ("unicode/utf8.acceptRanges", laid_unicode_utf8_acceptRanges), ("unicode/utf8.first", laid_unicode_utf8_first)], narrowed := true }
def FrameBackUptoSaid : Prop := frameBackUptoRow.holds Tryd.pinned (OpenSpec.upto frameBackSpec)

/-- 'gabionlaw12.FrameBurst', WHERE WHAT IT READS IS OF BULK AT MOST 1048576: true; the input reads as it did. -/
def frameBurstUptoRow : OpenClaim := { program := "ytbhhhkilljnkfaadoor", sum := "a852d234c51b3fb3c92a74c4c10017a14edf054cb89aa0460be1e25ce652de26", func := "gabion/gabionlaw12.FrameBurst", spec := "frameBurst", inPlace := ["internal/bytealg.IndexByte", "math.Float64frombits", "math.Float64bits"], unfollowed := true, recurses := true, named := ["gabion/crc.halves", "unicode/utf8.first", "unicode/utf8.acceptRanges"], loops := true, apart := false, laid := [("gabion/crc.halves", laid_gabion_crc_halves), ("unicode/utf8.acceptRanges", laid_unicode_utf8_acceptRanges), ("unicode/utf8.first", laid_unicode_utf8_first)], narrowed := true }
def FrameBurstUptoSaid : Prop := frameBurstUptoRow.holds Tryd.pinned (OpenSpec.upto frameBurstSpec)

end Rows
end Go.Proofs.YtbhhhkilljnkfaaDoor
