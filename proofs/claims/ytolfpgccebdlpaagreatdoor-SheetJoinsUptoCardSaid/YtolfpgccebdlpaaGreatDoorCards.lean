/-
  DERIVED. GIVEN WITH THE SEED: THE CARDS: each row of YtolfpgccebdlpaaGreatDoorRows.lean that lists a variable, with what it lists TIED to the program's text (the seventh form; the later family's looks); each row that meets fmt, with fmt's text TOLD by the authors' own Lean function (tested against real Go, not proved from fmt's source: count such statements apart). THE CARD IS WHAT COUNTS. Prove the row's statement (the work); the ties are given (YtolfpgccebdlpaaGreatDoorTie.lean); close each card by the builder's one call (the guide's Derived/Test/ToyasCard.lean, 'card_holds'). Laid BY PROGRAM, IN A SANDBOX (cutbox-door.mjs). By AI agents, Wed Nov 11 2026. No macro, syntax, notation, axiom, sorry.
-/
import Derived.Test.YtolfpgccebdlpaaGreatDoorRows
import GoSem.ClaimSeven
namespace Go.Proofs.YtolfpgccebdlpaaGreatDoor
namespace Rows

/-- THE TIED CARD OF 'scrimlaw09.SelectorTells'. -/
def selectorTellsCard : Claim7 := { stood := { row := selectorTellsRow, standIns := [], harness := (true, "8649703780ecf1891bc675577bdfa008207ddbb80c48400625260471ce5fee4b"), looks := true }, kinds := [], alts := [], laidByText := true, laidKinds := [.data, .pinned], laidTests := true, laidLooks := .later }
def SelectorTellsCardSaid : Prop := Claim7.holds Tryz.pinned (.plain (OpenSpec.ofChange selectorTellsSpec)) selectorTellsCard

/-- THE TIED CARD OF 'scrimlaw10.SheetTells'. -/
def sheetTellsCard : Claim7 := { stood := { row := sheetTellsRow, standIns := [], harness := (true, "8649703780ecf1891bc675577bdfa008207ddbb80c48400625260471ce5fee4b"), looks := true }, kinds := [], alts := [], laidByText := true, laidKinds := [.data, .data, .data, .data, .sentinel, .sentinel, .pinned], laidTests := true, laidLooks := .later }
def SheetTellsCardSaid : Prop := Claim7.holds Tryz.pinned (.plain (OpenSpec.ofChange sheetTellsSpec)) sheetTellsCard

/-- THE TIED CARD OF 'scrimlaw10.SheetBack'. -/
def sheetBackCard : Claim7 := { stood := { row := sheetBackRow, standIns := [], harness := (true, "8649703780ecf1891bc675577bdfa008207ddbb80c48400625260471ce5fee4b"), looks := true }, kinds := [], alts := [], laidByText := true, laidKinds := [.data, .data, .data, .data, .sentinel, .sentinel, .pinned], laidTests := true, laidLooks := .later }
def SheetBackCardSaid : Prop := Claim7.holds Tryz.pinned (.plain (OpenSpec.ofChange sheetBackSpec)) sheetBackCard

/-- THE TIED CARD OF 'scrimlaw10.SheetDrops'. -/
def sheetDropsCard : Claim7 := { stood := { row := sheetDropsRow, standIns := [], harness := (true, "8649703780ecf1891bc675577bdfa008207ddbb80c48400625260471ce5fee4b"), looks := true }, kinds := [], alts := [], laidByText := true, laidKinds := [.data, .data, .data, .data, .sentinel, .sentinel, .pinned], laidTests := true, laidLooks := .later }
def SheetDropsCardSaid : Prop := Claim7.holds Tryz.pinned (.plain (OpenSpec.ofChange sheetDropsSpec)) sheetDropsCard

/-- THE TIED CARD OF 'scrimlaw10.SheetSides'. -/
def sheetSidesCard : Claim7 := { stood := { row := sheetSidesRow, standIns := [], harness := (true, "8649703780ecf1891bc675577bdfa008207ddbb80c48400625260471ce5fee4b"), looks := true }, kinds := [], alts := [], laidByText := true, laidKinds := [.data, .data, .data, .data, .sentinel, .sentinel, .pinned], laidTests := true, laidLooks := .later }
def SheetSidesCardSaid : Prop := Claim7.holds Tryz.pinned (.plain (OpenSpec.ofChange sheetSidesSpec)) sheetSidesCard

/-- THE TIED CARD OF 'scrimlaw10.SheetJoins'. -/
def sheetJoinsCard : Claim7 := { stood := { row := sheetJoinsRow, standIns := [], harness := (true, "8649703780ecf1891bc675577bdfa008207ddbb80c48400625260471ce5fee4b"), looks := true }, kinds := [], alts := [], laidByText := true, laidKinds := [.data, .data, .data, .data, .sentinel, .sentinel, .pinned], laidTests := true, laidLooks := .later }
def SheetJoinsCardSaid : Prop := Claim7.holds Tryz.pinned (.plain (OpenSpec.ofChange sheetJoinsSpec)) sheetJoinsCard

/-- THE SECOND FORM's CARD OF 'scrimlaw09.SelectorTells'. -/
def selectorTellsUptoCard : Claim7 := { stood := { row := selectorTellsUptoRow, standIns := [], harness := (true, "8649703780ecf1891bc675577bdfa008207ddbb80c48400625260471ce5fee4b"), looks := true }, kinds := [], alts := [], laidByText := true, laidKinds := [.data, .pinned], laidTests := true, laidLooks := .later }
def SelectorTellsUptoCardSaid : Prop := Claim7.holds Tryz.pinned (.plain (OpenSpec.upto selectorTellsSpec)) selectorTellsUptoCard

/-- THE SECOND FORM's CARD OF 'scrimlaw10.SheetTells'. -/
def sheetTellsUptoCard : Claim7 := { stood := { row := sheetTellsUptoRow, standIns := [], harness := (true, "8649703780ecf1891bc675577bdfa008207ddbb80c48400625260471ce5fee4b"), looks := true }, kinds := [], alts := [], laidByText := true, laidKinds := [.data, .data, .data, .data, .sentinel, .sentinel, .pinned], laidTests := true, laidLooks := .later }
def SheetTellsUptoCardSaid : Prop := Claim7.holds Tryz.pinned (.plain (OpenSpec.upto sheetTellsSpec)) sheetTellsUptoCard

/-- THE SECOND FORM's CARD OF 'scrimlaw10.SheetBack'. -/
def sheetBackUptoCard : Claim7 := { stood := { row := sheetBackUptoRow, standIns := [], harness := (true, "8649703780ecf1891bc675577bdfa008207ddbb80c48400625260471ce5fee4b"), looks := true }, kinds := [], alts := [], laidByText := true, laidKinds := [.data, .data, .data, .data, .sentinel, .sentinel, .pinned], laidTests := true, laidLooks := .later }
def SheetBackUptoCardSaid : Prop := Claim7.holds Tryz.pinned (.plain (OpenSpec.upto sheetBackSpec)) sheetBackUptoCard

/-- THE SECOND FORM's CARD OF 'scrimlaw10.SheetDrops'. -/
def sheetDropsUptoCard : Claim7 := { stood := { row := sheetDropsUptoRow, standIns := [], harness := (true, "8649703780ecf1891bc675577bdfa008207ddbb80c48400625260471ce5fee4b"), looks := true }, kinds := [], alts := [], laidByText := true, laidKinds := [.data, .data, .data, .data, .sentinel, .sentinel, .pinned], laidTests := true, laidLooks := .later }
def SheetDropsUptoCardSaid : Prop := Claim7.holds Tryz.pinned (.plain (OpenSpec.upto sheetDropsSpec)) sheetDropsUptoCard

/-- THE SECOND FORM's CARD OF 'scrimlaw10.SheetSides'. -/
def sheetSidesUptoCard : Claim7 := { stood := { row := sheetSidesUptoRow, standIns := [], harness := (true, "8649703780ecf1891bc675577bdfa008207ddbb80c48400625260471ce5fee4b"), looks := true }, kinds := [], alts := [], laidByText := true, laidKinds := [.data, .data, .data, .data, .sentinel, .sentinel, .pinned], laidTests := true, laidLooks := .later }
def SheetSidesUptoCardSaid : Prop := Claim7.holds Tryz.pinned (.plain (OpenSpec.upto sheetSidesSpec)) sheetSidesUptoCard

/-- THE SECOND FORM's CARD OF 'scrimlaw10.SheetJoins'. -/
def sheetJoinsUptoCard : Claim7 := { stood := { row := sheetJoinsUptoRow, standIns := [], harness := (true, "8649703780ecf1891bc675577bdfa008207ddbb80c48400625260471ce5fee4b"), looks := true }, kinds := [], alts := [], laidByText := true, laidKinds := [.data, .data, .data, .data, .sentinel, .sentinel, .pinned], laidTests := true, laidLooks := .later }
def SheetJoinsUptoCardSaid : Prop := Claim7.holds Tryz.pinned (.plain (OpenSpec.upto sheetJoinsSpec)) sheetJoinsUptoCard
end Rows
end Go.Proofs.YtolfpgccebdlpaaGreatDoor
