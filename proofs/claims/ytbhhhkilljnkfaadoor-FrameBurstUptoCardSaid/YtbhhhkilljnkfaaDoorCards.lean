/-
  DERIVED. GIVEN WITH THE SEED: THE CARDS: each row of YtbhhhkilljnkfaaDoorRows.lean that lists a variable, with what it lists TIED to the program's text (the seventh form; the later family's looks); each row that meets fmt, with fmt's text TOLD by the authors' own Lean function (tested against real Go, not proved from fmt's source: count such statements apart). THE CARD IS WHAT COUNTS. Prove the row's statement (the work); the ties are given (YtbhhhkilljnkfaaDoorTie.lean); close each card by the builder's one call (the guide's Derived/Test/ToyasCard.lean, 'card_holds'). Laid BY PROGRAM, IN A SANDBOX (cutbox-door.mjs). By AI agents, Wed Nov 11 2026. No macro, syntax, notation, axiom, sorry.
-/
import Derived.Test.YtbhhhkilljnkfaaDoorRows
import GoSem.ClaimSeven
namespace Go.Proofs.YtbhhhkilljnkfaaDoor
namespace Rows

/-- THE TIED CARD OF 'gabionlaw12.FrameNumbers'. -/
def frameNumbersCard : Claim7 := { stood := { row := frameNumbersRow, standIns := [], harness := (true, "6ae4f588d3b934b93adee7012f7ba626538fcc4b2e9470595a0c560214b41076"), looks := true }, kinds := [], alts := [], laidByText := true, laidKinds := [.data, .data, .pinned], laidTests := true, laidLooks := .later }
def FrameNumbersCardSaid : Prop := Claim7.holds Tryd.pinned (.plain (OpenSpec.ofChange frameNumbersSpec)) frameNumbersCard

/-- THE TIED CARD OF 'gabionlaw12.FrameSames'. -/
def frameSamesCard : Claim7 := { stood := { row := frameSamesRow, standIns := [], harness := (true, "6ae4f588d3b934b93adee7012f7ba626538fcc4b2e9470595a0c560214b41076"), looks := true }, kinds := [], alts := [], laidByText := true, laidKinds := [.data, .data, .pinned], laidTests := true, laidLooks := .later }
def FrameSamesCardSaid : Prop := Claim7.holds Tryd.pinned (.plain (OpenSpec.ofChange frameSamesSpec)) frameSamesCard

/-- THE TIED CARD OF 'gabionlaw12.FrameBack'. -/
def frameBackCard : Claim7 := { stood := { row := frameBackRow, standIns := [], harness := (true, "6ae4f588d3b934b93adee7012f7ba626538fcc4b2e9470595a0c560214b41076"), looks := true }, kinds := [], alts := [], laidByText := true, laidKinds := [.data, .data, .pinned], laidTests := true, laidLooks := .later }
def FrameBackCardSaid : Prop := Claim7.holds Tryd.pinned (.plain (OpenSpec.ofChange frameBackSpec)) frameBackCard

/-- THE TIED CARD OF 'gabionlaw12.FrameBurst'. -/
def frameBurstCard : Claim7 := { stood := { row := frameBurstRow, standIns := [], harness := (true, "6ae4f588d3b934b93adee7012f7ba626538fcc4b2e9470595a0c560214b41076"), looks := true }, kinds := [], alts := [], laidByText := true, laidKinds := [.data, .data, .pinned], laidTests := true, laidLooks := .later }
def FrameBurstCardSaid : Prop := Claim7.holds Tryd.pinned (.plain (OpenSpec.ofChange frameBurstSpec)) frameBurstCard

/-- THE SECOND FORM's CARD OF 'gabionlaw12.FrameNumbers'. -/
def frameNumbersUptoCard : Claim7 := { stood := { row := frameNumbersUptoRow, standIns := [], harness := (true, "6ae4f588d3b934b93adee7012f7ba626538fcc4b2e9470595a0c560214b41076"), looks := true }, kinds := [], alts := [], laidByText := true, laidKinds := [.data, .data, .pinned], laidTests := true, laidLooks := .later }
def FrameNumbersUptoCardSaid : Prop := Claim7.holds Tryd.pinned (.plain (OpenSpec.upto frameNumbersSpec)) frameNumbersUptoCard

/-- THE SECOND FORM's CARD OF 'gabionlaw12.FrameSames'. -/
def frameSamesUptoCard : Claim7 := { stood := { row := frameSamesUptoRow, standIns := [], harness := (true, "6ae4f588d3b934b93adee7012f7ba626538fcc4b2e9470595a0c560214b41076"), looks := true }, kinds := [], alts := [], laidByText := true, laidKinds := [.data, .data, .pinned], laidTests := true, laidLooks := .later }
def FrameSamesUptoCardSaid : Prop := Claim7.holds Tryd.pinned (.plain (OpenSpec.upto frameSamesSpec)) frameSamesUptoCard

/-- THE SECOND FORM's CARD OF 'gabionlaw12.FrameBack'. -/
def frameBackUptoCard : Claim7 := { stood := { row := frameBackUptoRow, standIns := [], harness := (true, "6ae4f588d3b934b93adee7012f7ba626538fcc4b2e9470595a0c560214b41076"), looks := true }, kinds := [], alts := [], laidByText := true, laidKinds := [.data, .data, .pinned], laidTests := true, laidLooks := .later }
def FrameBackUptoCardSaid : Prop := Claim7.holds Tryd.pinned (.plain (OpenSpec.upto frameBackSpec)) frameBackUptoCard

/-- THE SECOND FORM's CARD OF 'gabionlaw12.FrameBurst'. -/
def frameBurstUptoCard : Claim7 := { stood := { row := frameBurstUptoRow, standIns := [], harness := (true, "6ae4f588d3b934b93adee7012f7ba626538fcc4b2e9470595a0c560214b41076"), looks := true }, kinds := [], alts := [], laidByText := true, laidKinds := [.data, .data, .pinned], laidTests := true, laidLooks := .later }
def FrameBurstUptoCardSaid : Prop := Claim7.holds Tryd.pinned (.plain (OpenSpec.upto frameBurstSpec)) frameBurstUptoCard
end Rows
end Go.Proofs.YtbhhhkilljnkfaaDoor
