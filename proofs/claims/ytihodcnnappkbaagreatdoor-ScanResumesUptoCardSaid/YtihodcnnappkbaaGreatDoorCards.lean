/-
  DERIVED. GIVEN WITH THE SEED: THE CARDS: each row of YtihodcnnappkbaaGreatDoorRows.lean that lists a variable, with what it lists TIED to the program's text (the seventh form; the later family's looks); each row that meets fmt, with fmt's text TOLD by the authors' own Lean function (tested against real Go, not proved from fmt's source: count such statements apart). THE CARD IS WHAT COUNTS. Prove the row's statement (the work); the ties are given (YtihodcnnappkbaaGreatDoorTie.lean); close each card by the builder's one call (the guide's Derived/Test/ToyasCard.lean, 'card_holds'). Laid BY PROGRAM, IN A SANDBOX (cutbox-door.mjs). By AI agents, Wed Nov 11 2026. No macro, syntax, notation, axiom, sorry.
-/
import Derived.Test.YtihodcnnappkbaaGreatDoorRows
import GoSem.ClaimSeven
namespace Go.Proofs.YtihodcnnappkbaaGreatDoor
namespace Rows

/-- THE TIED CARD OF 'gabionlaw14.ScanWalks'. -/
def scanWalksCard : Claim7 := { stood := { row := scanWalksRow, standIns := [], harness := (true, "05ee98433604b941ae451db9d9abb0450d4c8291eacbaef5dd5e25e4a6238b77"), looks := true }, kinds := [], alts := [], laidByText := true, laidKinds := [.data, .data, .pinned], laidTests := true, laidLooks := .later }
def ScanWalksCardSaid : Prop := Claim7.holds Tryz.pinned (.plain (OpenSpec.ofChange scanWalksSpec)) scanWalksCard

/-- THE TIED CARD OF 'gabionlaw14.ScanAt'. -/
def scanAtCard : Claim7 := { stood := { row := scanAtRow, standIns := [], harness := (true, "05ee98433604b941ae451db9d9abb0450d4c8291eacbaef5dd5e25e4a6238b77"), looks := true }, kinds := [], alts := [], laidByText := true, laidKinds := [.data, .data, .pinned], laidTests := true, laidLooks := .later }
def ScanAtCardSaid : Prop := Claim7.holds Tryz.pinned (.plain (OpenSpec.ofChange scanAtSpec)) scanAtCard

/-- THE TIED CARD OF 'gabionlaw14.ScanClones'. -/
def scanClonesCard : Claim7 := { stood := { row := scanClonesRow, standIns := [], harness := (true, "05ee98433604b941ae451db9d9abb0450d4c8291eacbaef5dd5e25e4a6238b77"), looks := true }, kinds := [], alts := [], laidByText := true, laidKinds := [.data, .data, .pinned], laidTests := true, laidLooks := .later }
def ScanClonesCardSaid : Prop := Claim7.holds Tryz.pinned (.plain (OpenSpec.ofChange scanClonesSpec)) scanClonesCard

/-- THE TIED CARD OF 'gabionlaw14.ScanResumes'. -/
def scanResumesCard : Claim7 := { stood := { row := scanResumesRow, standIns := [], harness := (true, "05ee98433604b941ae451db9d9abb0450d4c8291eacbaef5dd5e25e4a6238b77"), looks := true }, kinds := [], alts := [], laidByText := true, laidKinds := [.data, .data, .pinned], laidTests := true, laidLooks := .later }
def ScanResumesCardSaid : Prop := Claim7.holds Tryz.pinned (.plain (OpenSpec.ofChange scanResumesSpec)) scanResumesCard

/-- THE TIED CARD OF 'gabionlaw14.ScanJoins'. -/
def scanJoinsCard : Claim7 := { stood := { row := scanJoinsRow, standIns := [], harness := (true, "05ee98433604b941ae451db9d9abb0450d4c8291eacbaef5dd5e25e4a6238b77"), looks := true }, kinds := [], alts := [], laidByText := true, laidKinds := [.data, .data, .pinned], laidTests := true, laidLooks := .later }
def ScanJoinsCardSaid : Prop := Claim7.holds Tryz.pinned (.plain (OpenSpec.ofChange scanJoinsSpec)) scanJoinsCard

/-- THE TIED CARD OF 'gabionlaw14.ScanPrefix'. -/
def scanPrefixCard : Claim7 := { stood := { row := scanPrefixRow, standIns := [], harness := (true, "05ee98433604b941ae451db9d9abb0450d4c8291eacbaef5dd5e25e4a6238b77"), looks := true }, kinds := [], alts := [], laidByText := true, laidKinds := [.data, .data, .pinned], laidTests := true, laidLooks := .later }
def ScanPrefixCardSaid : Prop := Claim7.holds Tryz.pinned (.plain (OpenSpec.ofChange scanPrefixSpec)) scanPrefixCard

/-- THE TIED CARD OF 'gabionlaw14.ScanWhole'. -/
def scanWholeCard : Claim7 := { stood := { row := scanWholeRow, standIns := [], harness := (true, "05ee98433604b941ae451db9d9abb0450d4c8291eacbaef5dd5e25e4a6238b77"), looks := true }, kinds := [], alts := [], laidByText := true, laidKinds := [.data, .data, .pinned], laidTests := true, laidLooks := .later }
def ScanWholeCardSaid : Prop := Claim7.holds Tryz.pinned (.plain (OpenSpec.ofChange scanWholeSpec)) scanWholeCard

/-- THE SECOND FORM's CARD OF 'gabionlaw14.ScanWalks'. -/
def scanWalksUptoCard : Claim7 := { stood := { row := scanWalksUptoRow, standIns := [], harness := (true, "05ee98433604b941ae451db9d9abb0450d4c8291eacbaef5dd5e25e4a6238b77"), looks := true }, kinds := [], alts := [], laidByText := true, laidKinds := [.data, .data, .pinned], laidTests := true, laidLooks := .later }
def ScanWalksUptoCardSaid : Prop := Claim7.holds Tryz.pinned (.plain (OpenSpec.upto scanWalksSpec)) scanWalksUptoCard

/-- THE SECOND FORM's CARD OF 'gabionlaw14.ScanAt'. -/
def scanAtUptoCard : Claim7 := { stood := { row := scanAtUptoRow, standIns := [], harness := (true, "05ee98433604b941ae451db9d9abb0450d4c8291eacbaef5dd5e25e4a6238b77"), looks := true }, kinds := [], alts := [], laidByText := true, laidKinds := [.data, .data, .pinned], laidTests := true, laidLooks := .later }
def ScanAtUptoCardSaid : Prop := Claim7.holds Tryz.pinned (.plain (OpenSpec.upto scanAtSpec)) scanAtUptoCard

/-- THE SECOND FORM's CARD OF 'gabionlaw14.ScanClones'. -/
def scanClonesUptoCard : Claim7 := { stood := { row := scanClonesUptoRow, standIns := [], harness := (true, "05ee98433604b941ae451db9d9abb0450d4c8291eacbaef5dd5e25e4a6238b77"), looks := true }, kinds := [], alts := [], laidByText := true, laidKinds := [.data, .data, .pinned], laidTests := true, laidLooks := .later }
def ScanClonesUptoCardSaid : Prop := Claim7.holds Tryz.pinned (.plain (OpenSpec.upto scanClonesSpec)) scanClonesUptoCard

/-- THE SECOND FORM's CARD OF 'gabionlaw14.ScanResumes'. -/
def scanResumesUptoCard : Claim7 := { stood := { row := scanResumesUptoRow, standIns := [], harness := (true, "05ee98433604b941ae451db9d9abb0450d4c8291eacbaef5dd5e25e4a6238b77"), looks := true }, kinds := [], alts := [], laidByText := true, laidKinds := [.data, .data, .pinned], laidTests := true, laidLooks := .later }
def ScanResumesUptoCardSaid : Prop := Claim7.holds Tryz.pinned (.plain (OpenSpec.upto scanResumesSpec)) scanResumesUptoCard

/-- THE SECOND FORM's CARD OF 'gabionlaw14.ScanJoins'. -/
def scanJoinsUptoCard : Claim7 := { stood := { row := scanJoinsUptoRow, standIns := [], harness := (true, "05ee98433604b941ae451db9d9abb0450d4c8291eacbaef5dd5e25e4a6238b77"), looks := true }, kinds := [], alts := [], laidByText := true, laidKinds := [.data, .data, .pinned], laidTests := true, laidLooks := .later }
def ScanJoinsUptoCardSaid : Prop := Claim7.holds Tryz.pinned (.plain (OpenSpec.upto scanJoinsSpec)) scanJoinsUptoCard

/-- THE SECOND FORM's CARD OF 'gabionlaw14.ScanPrefix'. -/
def scanPrefixUptoCard : Claim7 := { stood := { row := scanPrefixUptoRow, standIns := [], harness := (true, "05ee98433604b941ae451db9d9abb0450d4c8291eacbaef5dd5e25e4a6238b77"), looks := true }, kinds := [], alts := [], laidByText := true, laidKinds := [.data, .data, .pinned], laidTests := true, laidLooks := .later }
def ScanPrefixUptoCardSaid : Prop := Claim7.holds Tryz.pinned (.plain (OpenSpec.upto scanPrefixSpec)) scanPrefixUptoCard

/-- THE SECOND FORM's CARD OF 'gabionlaw14.ScanWhole'. -/
def scanWholeUptoCard : Claim7 := { stood := { row := scanWholeUptoRow, standIns := [], harness := (true, "05ee98433604b941ae451db9d9abb0450d4c8291eacbaef5dd5e25e4a6238b77"), looks := true }, kinds := [], alts := [], laidByText := true, laidKinds := [.data, .data, .pinned], laidTests := true, laidLooks := .later }
def ScanWholeUptoCardSaid : Prop := Claim7.holds Tryz.pinned (.plain (OpenSpec.upto scanWholeSpec)) scanWholeUptoCard
end Rows
end Go.Proofs.YtihodcnnappkbaaGreatDoor
