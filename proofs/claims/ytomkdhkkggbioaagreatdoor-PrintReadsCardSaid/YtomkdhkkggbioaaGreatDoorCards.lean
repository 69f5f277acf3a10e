/-
  DERIVED. GIVEN WITH THE SEED: THE CARDS: each row of YtomkdhkkggbioaaGreatDoorRows.lean that lists a variable, with what it lists TIED to the program's text (the seventh form; the later family's looks); each row that meets fmt, with fmt's text TOLD by the authors' own Lean function (tested against real Go, not proved from fmt's source: count such statements apart). THE CARD IS WHAT COUNTS. Prove the row's statement (the work); the ties are given (YtomkdhkkggbioaaGreatDoorTie.lean); close each card by the builder's one call (the guide's Derived/Test/ToyasCard.lean, 'card_holds'). Laid BY PROGRAM, IN A SANDBOX (cutbox-door.mjs). By AI agents, Wed Nov 11 2026. No macro, syntax, notation, axiom, sorry.
-/
import Derived.Test.YtomkdhkkggbioaaGreatDoorRows
import GoSem.ClaimSeven
namespace Go.Proofs.YtomkdhkkggbioaaGreatDoor
namespace Rows

/-- THE TIED CARD OF 'battledorelaw05.PrintTypes'. -/
def printTypesCard : Claim7 := { stood := { row := printTypesRow, standIns := [], harness := (true, "64992e859df6aeb8546bec979d033e1947e7c9159be6ea6f74cc8a1c61aca9f3"), looks := true }, kinds := [], alts := [], laidByText := true, laidKinds := [.data, .data, .data], laidTests := true, laidLooks := .later }
def PrintTypesCardSaid : Prop := Claim7.holds Tryz.pinned (.plain (OpenSpec.ofChange printTypesSpec)) printTypesCard

/-- THE TIED CARD OF 'battledorelaw05.PrintReads'. -/
def printReadsCard : Claim7 := { stood := { row := printReadsRow, standIns := [], harness := (true, "64992e859df6aeb8546bec979d033e1947e7c9159be6ea6f74cc8a1c61aca9f3"), looks := true }, kinds := [], alts := [], laidByText := true, laidKinds := [.data, .data, .data], laidTests := true, laidLooks := .later }
def PrintReadsCardSaid : Prop := Claim7.holds Tryz.pinned (.plain (OpenSpec.ofChange printReadsSpec)) printReadsCard

/-- THE TIED CARD OF 'battledorelaw05.PrintQuotes'. -/
def printQuotesCard : Claim7 := { stood := { row := printQuotesRow, standIns := [], harness := (true, "64992e859df6aeb8546bec979d033e1947e7c9159be6ea6f74cc8a1c61aca9f3"), looks := true }, kinds := [], alts := [], laidByText := true, laidKinds := [.data, .data, .data], laidTests := true, laidLooks := .later }
def PrintQuotesCardSaid : Prop := Claim7.holds Tryz.pinned (.plain (OpenSpec.ofChange printQuotesSpec)) printQuotesCard

/-- THE TIED CARD OF 'battledorelaw05.PrintVars'. -/
def printVarsCard : Claim7 := { stood := { row := printVarsRow, standIns := [], harness := (true, "64992e859df6aeb8546bec979d033e1947e7c9159be6ea6f74cc8a1c61aca9f3"), looks := true }, kinds := [], alts := [], laidByText := true, laidKinds := [.data, .data, .data], laidTests := true, laidLooks := .later }
def PrintVarsCardSaid : Prop := Claim7.holds Tryz.pinned (.plain (OpenSpec.ofChange printVarsSpec)) printVarsCard

/-- THE TIED CARD OF 'battledorelaw05.PrintNames'. -/
def printNamesCard : Claim7 := { stood := { row := printNamesRow, standIns := [], harness := (true, "64992e859df6aeb8546bec979d033e1947e7c9159be6ea6f74cc8a1c61aca9f3"), looks := true }, kinds := [], alts := [], laidByText := true, laidKinds := [.data, .data, .data], laidTests := true, laidLooks := .later }
def PrintNamesCardSaid : Prop := Claim7.holds Tryz.pinned (.plain (OpenSpec.ofChange printNamesSpec)) printNamesCard

/-- THE TIED CARD OF 'battledorelaw05.PrintCells'. -/
def printCellsCard : Claim7 := { stood := { row := printCellsRow, standIns := [], harness := (true, "64992e859df6aeb8546bec979d033e1947e7c9159be6ea6f74cc8a1c61aca9f3"), looks := true }, kinds := [], alts := [], laidByText := true, laidKinds := [.data, .data, .data], laidTests := true, laidLooks := .later }
def PrintCellsCardSaid : Prop := Claim7.holds Tryz.pinned (.plain (OpenSpec.ofChange printCellsSpec)) printCellsCard

/-- THE TIED CARD OF 'battledorelaw05.PrintBack'. -/
def printBackCard : Claim7 := { stood := { row := printBackRow, standIns := [], harness := (true, "64992e859df6aeb8546bec979d033e1947e7c9159be6ea6f74cc8a1c61aca9f3"), looks := true }, kinds := [], alts := [], laidByText := true, laidKinds := [.data, .data, .data], laidTests := true, laidLooks := .later }
def PrintBackCardSaid : Prop := Claim7.holds Tryz.pinned (.plain (OpenSpec.ofChange printBackSpec)) printBackCard

/-- THE TIED CARD OF 'battledorelaw05.PrintApart'. -/
def printApartCard : Claim7 := { stood := { row := printApartRow, standIns := [], harness := (true, "64992e859df6aeb8546bec979d033e1947e7c9159be6ea6f74cc8a1c61aca9f3"), looks := true }, kinds := [], alts := [], laidByText := true, laidKinds := [.data, .data, .data], laidTests := true, laidLooks := .later }
def PrintApartCardSaid : Prop := Claim7.holds Tryz.pinned (.plain (OpenSpec.ofChange printApartSpec)) printApartCard

/-- THE SECOND FORM's CARD OF 'battledorelaw05.PrintTypes'. -/
def printTypesUptoCard : Claim7 := { stood := { row := printTypesUptoRow, standIns := [], harness := (true, "64992e859df6aeb8546bec979d033e1947e7c9159be6ea6f74cc8a1c61aca9f3"), looks := true }, kinds := [], alts := [], laidByText := true, laidKinds := [.data, .data, .data], laidTests := true, laidLooks := .later }
def PrintTypesUptoCardSaid : Prop := Claim7.holds Tryz.pinned (.plain (OpenSpec.upto printTypesSpec)) printTypesUptoCard

/-- THE SECOND FORM's CARD OF 'battledorelaw05.PrintReads'. -/
def printReadsUptoCard : Claim7 := { stood := { row := printReadsUptoRow, standIns := [], harness := (true, "64992e859df6aeb8546bec979d033e1947e7c9159be6ea6f74cc8a1c61aca9f3"), looks := true }, kinds := [], alts := [], laidByText := true, laidKinds := [.data, .data, .data], laidTests := true, laidLooks := .later }
def PrintReadsUptoCardSaid : Prop := Claim7.holds Tryz.pinned (.plain (OpenSpec.upto printReadsSpec)) printReadsUptoCard

/-- THE SECOND FORM's CARD OF 'battledorelaw05.PrintQuotes'. -/
def printQuotesUptoCard : Claim7 := { stood := { row := printQuotesUptoRow, standIns := [], harness := (true, "64992e859df6aeb8546bec979d033e1947e7c9159be6ea6f74cc8a1c61aca9f3"), looks := true }, kinds := [], alts := [], laidByText := true, laidKinds := [.data, .data, .data], laidTests := true, laidLooks := .later }
def PrintQuotesUptoCardSaid : Prop := Claim7.holds Tryz.pinned (.plain (OpenSpec.upto printQuotesSpec)) printQuotesUptoCard

/-- THE SECOND FORM's CARD OF 'battledorelaw05.PrintVars'. -/
def printVarsUptoCard : Claim7 := { stood := { row := printVarsUptoRow, standIns := [], harness := (true, "64992e859df6aeb8546bec979d033e1947e7c9159be6ea6f74cc8a1c61aca9f3"), looks := true }, kinds := [], alts := [], laidByText := true, laidKinds := [.data, .data, .data], laidTests := true, laidLooks := .later }
def PrintVarsUptoCardSaid : Prop := Claim7.holds Tryz.pinned (.plain (OpenSpec.upto printVarsSpec)) printVarsUptoCard

/-- THE SECOND FORM's CARD OF 'battledorelaw05.PrintNames'. -/
def printNamesUptoCard : Claim7 := { stood := { row := printNamesUptoRow, standIns := [], harness := (true, "64992e859df6aeb8546bec979d033e1947e7c9159be6ea6f74cc8a1c61aca9f3"), looks := true }, kinds := [], alts := [], laidByText := true, laidKinds := [.data, .data, .data], laidTests := true, laidLooks := .later }
def PrintNamesUptoCardSaid : Prop := Claim7.holds Tryz.pinned (.plain (OpenSpec.upto printNamesSpec)) printNamesUptoCard

/-- THE SECOND FORM's CARD OF 'battledorelaw05.PrintCells'. -/
def printCellsUptoCard : Claim7 := { stood := { row := printCellsUptoRow, standIns := [], harness := (true, "64992e859df6aeb8546bec979d033e1947e7c9159be6ea6f74cc8a1c61aca9f3"), looks := true }, kinds := [], alts := [], laidByText := true, laidKinds := [.data, .data, .data], laidTests := true, laidLooks := .later }
def PrintCellsUptoCardSaid : Prop := Claim7.holds Tryz.pinned (.plain (OpenSpec.upto printCellsSpec)) printCellsUptoCard

/-- THE SECOND FORM's CARD OF 'battledorelaw05.PrintBack'. -/
def printBackUptoCard : Claim7 := { stood := { row := printBackUptoRow, standIns := [], harness := (true, "64992e859df6aeb8546bec979d033e1947e7c9159be6ea6f74cc8a1c61aca9f3"), looks := true }, kinds := [], alts := [], laidByText := true, laidKinds := [.data, .data, .data], laidTests := true, laidLooks := .later }
def PrintBackUptoCardSaid : Prop := Claim7.holds Tryz.pinned (.plain (OpenSpec.upto printBackSpec)) printBackUptoCard

/-- THE SECOND FORM's CARD OF 'battledorelaw05.PrintApart'. -/
def printApartUptoCard : Claim7 := { stood := { row := printApartUptoRow, standIns := [], harness := (true, "64992e859df6aeb8546bec979d033e1947e7c9159be6ea6f74cc8a1c61aca9f3"), looks := true }, kinds := [], alts := [], laidByText := true, laidKinds := [.data, .data, .data], laidTests := true, laidLooks := .later }
def PrintApartUptoCardSaid : Prop := Claim7.holds Tryz.pinned (.plain (OpenSpec.upto printApartSpec)) printApartUptoCard
end Rows
end Go.Proofs.YtomkdhkkggbioaaGreatDoor
