/-
  DERIVED. GIVEN WITH THE SEED: THE CARDS: each row of YtbhinjhjjgcalaaDoorRows.lean that lists a variable, with what it lists TIED to the program's text (the seventh form; the later family's looks); each row that meets fmt, with fmt's text TOLD by the authors' own Lean function (tested against real Go, not proved from fmt's source: count such statements apart). THE CARD IS WHAT COUNTS. Prove the row's statement (the work); the ties are given (YtbhinjhjjgcalaaDoorTie.lean); close each card by the builder's one call (the guide's Derived/Test/ToyasCard.lean, 'card_holds'). Laid BY PROGRAM, IN A SANDBOX (cutbox-door.mjs). By AI agents, Wed Nov 11 2026. No macro, syntax, notation, axiom, sorry.
-/
import Derived.Test.YtbhinjhjjgcalaaDoorRows
import GoSem.ClaimSeven
namespace Go.Proofs.YtbhinjhjjgcalaaDoor
namespace Rows

/-- THE TIED CARD OF 'cotterlaw09.AsmtextReads'. -/
def asmtextReadsCard : Claim7 := { stood := { row := asmtextReadsRow, standIns := [], harness := (true, "90b867fd921f1af2664d8d4b43b762813c8a0b0cf1a59f54fc6014b41064387d"), looks := true }, kinds := [], alts := [], laidByText := true, laidKinds := [.data, .data, .data, .data, .sentinel, .sentinel, .data, .pinned], laidTests := true, laidLooks := .later }
def AsmtextReadsCardSaid : Prop := Claim7.holds Tryd.pinned (.plain (OpenSpec.ofChange asmtextReadsSpec)) asmtextReadsCard

/-- THE TIED CARD OF 'cotterlaw09.AsmtextPrints'. -/
def asmtextPrintsCard : Claim7 := { stood := { row := asmtextPrintsRow, standIns := [], harness := (true, "90b867fd921f1af2664d8d4b43b762813c8a0b0cf1a59f54fc6014b41064387d"), looks := true }, kinds := [], alts := [], laidByText := true, laidKinds := [.data, .data, .data, .data, .sentinel, .sentinel, .data, .pinned], laidTests := true, laidLooks := .later }
def AsmtextPrintsCardSaid : Prop := Claim7.holds Tryd.pinned (.plain (OpenSpec.ofChange asmtextPrintsSpec)) asmtextPrintsCard

/-- THE TIED CARD OF 'cotterlaw09.AsmtextBack'. -/
def asmtextBackCard : Claim7 := { stood := { row := asmtextBackRow, standIns := [], harness := (true, "90b867fd921f1af2664d8d4b43b762813c8a0b0cf1a59f54fc6014b41064387d"), looks := true }, kinds := [], alts := [], laidByText := true, laidKinds := [.data, .data, .data, .data, .sentinel, .sentinel, .data, .pinned], laidTests := true, laidLooks := .later }
def AsmtextBackCardSaid : Prop := Claim7.holds Tryd.pinned (.plain (OpenSpec.ofChange asmtextBackSpec)) asmtextBackCard

/-- THE TIED CARD OF 'cotterlaw09.AsmtextJoined'. -/
def asmtextJoinedCard : Claim7 := { stood := { row := asmtextJoinedRow, standIns := [], harness := (true, "90b867fd921f1af2664d8d4b43b762813c8a0b0cf1a59f54fc6014b41064387d"), looks := true }, kinds := [], alts := [], laidByText := true, laidKinds := [.data, .data, .data, .data, .sentinel, .sentinel, .data, .pinned], laidTests := true, laidLooks := .later }
def AsmtextJoinedCardSaid : Prop := Claim7.holds Tryd.pinned (.plain (OpenSpec.ofChange asmtextJoinedSpec)) asmtextJoinedCard

/-- THE TIED CARD OF 'cotterlaw09.AsmtextNotes'. -/
def asmtextNotesCard : Claim7 := { stood := { row := asmtextNotesRow, standIns := [], harness := (true, "90b867fd921f1af2664d8d4b43b762813c8a0b0cf1a59f54fc6014b41064387d"), looks := true }, kinds := [], alts := [], laidByText := true, laidKinds := [.data, .data, .data, .data, .sentinel, .sentinel, .data, .pinned], laidTests := true, laidLooks := .later }
def AsmtextNotesCardSaid : Prop := Claim7.holds Tryd.pinned (.plain (OpenSpec.ofChange asmtextNotesSpec)) asmtextNotesCard

/-- THE TIED CARD OF 'cotterlaw09.AsmtextApart'. -/
def asmtextApartCard : Claim7 := { stood := { row := asmtextApartRow, standIns := [], harness := (true, "90b867fd921f1af2664d8d4b43b762813c8a0b0cf1a59f54fc6014b41064387d"), looks := true }, kinds := [], alts := [], laidByText := true, laidKinds := [.data, .data, .data, .data, .sentinel, .sentinel, .data, .pinned], laidTests := true, laidLooks := .later }
def AsmtextApartCardSaid : Prop := Claim7.holds Tryd.pinned (.plain (OpenSpec.ofChange asmtextApartSpec)) asmtextApartCard

/-- THE TIED CARD OF 'cotterlaw10.AsmMay'. -/
def asmMayCard : Claim7 := { stood := { row := asmMayRow, standIns := [], harness := (true, "90b867fd921f1af2664d8d4b43b762813c8a0b0cf1a59f54fc6014b41064387d"), looks := true }, kinds := [], alts := [], laidByText := true, laidKinds := [.data, .data, .data, .data, .data, .sentinel, .sentinel, .data, .pinned], laidTests := true, laidLooks := .later }
def AsmMayCardSaid : Prop := Claim7.holds Tryd.pinned (.plain (OpenSpec.ofChange asmMaySpec)) asmMayCard

/-- THE TIED CARD OF 'cotterlaw10.AsmUnnamed'. -/
def asmUnnamedCard : Claim7 := { stood := { row := asmUnnamedRow, standIns := [], harness := (true, "90b867fd921f1af2664d8d4b43b762813c8a0b0cf1a59f54fc6014b41064387d"), looks := true }, kinds := [], alts := [], laidByText := true, laidKinds := [.data, .data, .data, .data, .data, .sentinel, .sentinel, .data, .pinned], laidTests := true, laidLooks := .later }
def AsmUnnamedCardSaid : Prop := Claim7.holds Tryd.pinned (.plain (OpenSpec.ofChange asmUnnamedSpec)) asmUnnamedCard

/-- THE TIED CARD OF 'cotterlaw10.AsmNames'. -/
def asmNamesCard : Claim7 := { stood := { row := asmNamesRow, standIns := [], harness := (true, "90b867fd921f1af2664d8d4b43b762813c8a0b0cf1a59f54fc6014b41064387d"), looks := true }, kinds := [], alts := [], laidByText := true, laidKinds := [.data, .data, .data, .data, .data, .sentinel, .sentinel, .data, .pinned], laidTests := true, laidLooks := .later }
def AsmNamesCardSaid : Prop := Claim7.holds Tryd.pinned (.plain (OpenSpec.ofChange asmNamesSpec)) asmNamesCard

/-- THE TIED CARD OF 'cotterlaw10.AsmShort'. -/
def asmShortCard : Claim7 := { stood := { row := asmShortRow, standIns := [], harness := (true, "90b867fd921f1af2664d8d4b43b762813c8a0b0cf1a59f54fc6014b41064387d"), looks := true }, kinds := [], alts := [], laidByText := true, laidKinds := [.data, .data, .data, .data, .data, .sentinel, .sentinel, .data, .pinned], laidTests := true, laidLooks := .later }
def AsmShortCardSaid : Prop := Claim7.holds Tryd.pinned (.plain (OpenSpec.ofChange asmShortSpec)) asmShortCard

/-- THE SECOND FORM's CARD OF 'cotterlaw09.AsmtextReads'. -/
def asmtextReadsUptoCard : Claim7 := { stood := { row := asmtextReadsUptoRow, standIns := [], harness := (true, "90b867fd921f1af2664d8d4b43b762813c8a0b0cf1a59f54fc6014b41064387d"), looks := true }, kinds := [], alts := [], laidByText := true, laidKinds := [.data, .data, .data, .data, .sentinel, .sentinel, .data, .pinned], laidTests := true, laidLooks := .later }
def AsmtextReadsUptoCardSaid : Prop := Claim7.holds Tryd.pinned (.plain (OpenSpec.upto asmtextReadsSpec)) asmtextReadsUptoCard

/-- THE SECOND FORM's CARD OF 'cotterlaw09.AsmtextPrints'. -/
def asmtextPrintsUptoCard : Claim7 := { stood := { row := asmtextPrintsUptoRow, standIns := [], harness := (true, "90b867fd921f1af2664d8d4b43b762813c8a0b0cf1a59f54fc6014b41064387d"), looks := true }, kinds := [], alts := [], laidByText := true, laidKinds := [.data, .data, .data, .data, .sentinel, .sentinel, .data, .pinned], laidTests := true, laidLooks := .later }
def AsmtextPrintsUptoCardSaid : Prop := Claim7.holds Tryd.pinned (.plain (OpenSpec.upto asmtextPrintsSpec)) asmtextPrintsUptoCard

/-- THE SECOND FORM's CARD OF 'cotterlaw09.AsmtextBack'. -/
def asmtextBackUptoCard : Claim7 := { stood := { row := asmtextBackUptoRow, standIns := [], harness := (true, "90b867fd921f1af2664d8d4b43b762813c8a0b0cf1a59f54fc6014b41064387d"), looks := true }, kinds := [], alts := [], laidByText := true, laidKinds := [.data, .data, .data, .data, .sentinel, .sentinel, .data, .pinned], laidTests := true, laidLooks := .later }
def AsmtextBackUptoCardSaid : Prop := Claim7.holds Tryd.pinned (.plain (OpenSpec.upto asmtextBackSpec)) asmtextBackUptoCard

/-- THE SECOND FORM's CARD OF 'cotterlaw09.AsmtextJoined'. -/
def asmtextJoinedUptoCard : Claim7 := { stood := { row := asmtextJoinedUptoRow, standIns := [], harness := (true, "90b867fd921f1af2664d8d4b43b762813c8a0b0cf1a59f54fc6014b41064387d"), looks := true }, kinds := [], alts := [], laidByText := true, laidKinds := [.data, .data, .data, .data, .sentinel, .sentinel, .data, .pinned], laidTests := true, laidLooks := .later }
def AsmtextJoinedUptoCardSaid : Prop := Claim7.holds Tryd.pinned (.plain (OpenSpec.upto asmtextJoinedSpec)) asmtextJoinedUptoCard

/-- THE SECOND FORM's CARD OF 'cotterlaw09.AsmtextNotes'. -/
def asmtextNotesUptoCard : Claim7 := { stood := { row := asmtextNotesUptoRow, standIns := [], harness := (true, "90b867fd921f1af2664d8d4b43b762813c8a0b0cf1a59f54fc6014b41064387d"), looks := true }, kinds := [], alts := [], laidByText := true, laidKinds := [.data, .data, .data, .data, .sentinel, .sentinel, .data, .pinned], laidTests := true, laidLooks := .later }
def AsmtextNotesUptoCardSaid : Prop := Claim7.holds Tryd.pinned (.plain (OpenSpec.upto asmtextNotesSpec)) asmtextNotesUptoCard

/-- THE SECOND FORM's CARD OF 'cotterlaw09.AsmtextApart'. -/
def asmtextApartUptoCard : Claim7 := { stood := { row := asmtextApartUptoRow, standIns := [], harness := (true, "90b867fd921f1af2664d8d4b43b762813c8a0b0cf1a59f54fc6014b41064387d"), looks := true }, kinds := [], alts := [], laidByText := true, laidKinds := [.data, .data, .data, .data, .sentinel, .sentinel, .data, .pinned], laidTests := true, laidLooks := .later }
def AsmtextApartUptoCardSaid : Prop := Claim7.holds Tryd.pinned (.plain (OpenSpec.upto asmtextApartSpec)) asmtextApartUptoCard

/-- THE SECOND FORM's CARD OF 'cotterlaw10.AsmMay'. -/
def asmMayUptoCard : Claim7 := { stood := { row := asmMayUptoRow, standIns := [], harness := (true, "90b867fd921f1af2664d8d4b43b762813c8a0b0cf1a59f54fc6014b41064387d"), looks := true }, kinds := [], alts := [], laidByText := true, laidKinds := [.data, .data, .data, .data, .data, .sentinel, .sentinel, .data, .pinned], laidTests := true, laidLooks := .later }
def AsmMayUptoCardSaid : Prop := Claim7.holds Tryd.pinned (.plain (OpenSpec.upto asmMaySpec)) asmMayUptoCard

/-- THE SECOND FORM's CARD OF 'cotterlaw10.AsmUnnamed'. -/
def asmUnnamedUptoCard : Claim7 := { stood := { row := asmUnnamedUptoRow, standIns := [], harness := (true, "90b867fd921f1af2664d8d4b43b762813c8a0b0cf1a59f54fc6014b41064387d"), looks := true }, kinds := [], alts := [], laidByText := true, laidKinds := [.data, .data, .data, .data, .data, .sentinel, .sentinel, .data, .pinned], laidTests := true, laidLooks := .later }
def AsmUnnamedUptoCardSaid : Prop := Claim7.holds Tryd.pinned (.plain (OpenSpec.upto asmUnnamedSpec)) asmUnnamedUptoCard

/-- THE SECOND FORM's CARD OF 'cotterlaw10.AsmNames'. -/
def asmNamesUptoCard : Claim7 := { stood := { row := asmNamesUptoRow, standIns := [], harness := (true, "90b867fd921f1af2664d8d4b43b762813c8a0b0cf1a59f54fc6014b41064387d"), looks := true }, kinds := [], alts := [], laidByText := true, laidKinds := [.data, .data, .data, .data, .data, .sentinel, .sentinel, .data, .pinned], laidTests := true, laidLooks := .later }
def AsmNamesUptoCardSaid : Prop := Claim7.holds Tryd.pinned (.plain (OpenSpec.upto asmNamesSpec)) asmNamesUptoCard

/-- THE SECOND FORM's CARD OF 'cotterlaw10.AsmShort'. -/
def asmShortUptoCard : Claim7 := { stood := { row := asmShortUptoRow, standIns := [], harness := (true, "90b867fd921f1af2664d8d4b43b762813c8a0b0cf1a59f54fc6014b41064387d"), looks := true }, kinds := [], alts := [], laidByText := true, laidKinds := [.data, .data, .data, .data, .data, .sentinel, .sentinel, .data, .pinned], laidTests := true, laidLooks := .later }
def AsmShortUptoCardSaid : Prop := Claim7.holds Tryd.pinned (.plain (OpenSpec.upto asmShortSpec)) asmShortUptoCard
end Rows
end Go.Proofs.YtbhinjhjjgcalaaDoor
