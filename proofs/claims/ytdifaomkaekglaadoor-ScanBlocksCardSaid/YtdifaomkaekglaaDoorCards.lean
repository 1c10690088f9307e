/-
  DERIVED. GIVEN WITH THE SEED: THE CARDS: each row of YtdifaomkaekglaaDoorRows.lean that lists a variable, with what it lists TIED to the program's text (the seventh form; the later family's looks); each row that meets fmt, with fmt's text TOLD by the authors' own Lean function (tested against real Go, not proved from fmt's source: count such statements apart). THE CARD IS WHAT COUNTS. Prove the row's statement (the work); the ties are given (YtdifaomkaekglaaDoorTie.lean); close each card by the builder's one call (the guide's Derived/Test/ToyasCard.lean, 'card_holds'). Laid BY PROGRAM, IN A SANDBOX (cutbox-door.mjs). By AI agents, Wed Nov 11 2026. No macro, syntax, notation, axiom, sorry.
-/
import Derived.Test.YtdifaomkaekglaaDoorRows
import GoSem.ClaimSeven
namespace Go.Proofs.YtdifaomkaekglaaDoor
namespace Rows

/-- THE TIED CARD OF 'scrimlaw07.ScanTells'. -/
def scanTellsCard : Claim7 := { stood := { row := scanTellsRow, standIns := [], harness := (true, "b2700bdadca7e466fd4104c373aa153ed13038e61b4c93d0a4513e3fd5ff73d4"), looks := false }, kinds := [], alts := [], laidByText := true, laidKinds := [.data, .pinned], laidTests := true, laidLooks := .later }
def ScanTellsCardSaid : Prop := Claim7.holds Tryd.pinned (.plain (OpenSpec.ofChange scanTellsSpec)) scanTellsCard

/-- THE TIED CARD OF 'scrimlaw07.ScanStays'. -/
def scanStaysCard : Claim7 := { stood := { row := scanStaysRow, standIns := [], harness := (true, "b2700bdadca7e466fd4104c373aa153ed13038e61b4c93d0a4513e3fd5ff73d4"), looks := false }, kinds := [], alts := [], laidByText := true, laidKinds := [.data, .pinned], laidTests := true, laidLooks := .later }
def ScanStaysCardSaid : Prop := Claim7.holds Tryd.pinned (.plain (OpenSpec.ofChange scanStaysSpec)) scanStaysCard

/-- THE TIED CARD OF 'scrimlaw07.ScanWords'. -/
def scanWordsCard : Claim7 := { stood := { row := scanWordsRow, standIns := [], harness := (true, "b2700bdadca7e466fd4104c373aa153ed13038e61b4c93d0a4513e3fd5ff73d4"), looks := false }, kinds := [], alts := [], laidByText := true, laidKinds := [.data, .pinned], laidTests := true, laidLooks := .later }
def ScanWordsCardSaid : Prop := Claim7.holds Tryd.pinned (.plain (OpenSpec.ofChange scanWordsSpec)) scanWordsCard

/-- THE TIED CARD OF 'scrimlaw07.ScanBlocks'. -/
def scanBlocksCard : Claim7 := { stood := { row := scanBlocksRow, standIns := [], harness := (true, "b2700bdadca7e466fd4104c373aa153ed13038e61b4c93d0a4513e3fd5ff73d4"), looks := false }, kinds := [], alts := [], laidByText := true, laidKinds := [.data, .pinned], laidTests := true, laidLooks := .later }
def ScanBlocksCardSaid : Prop := Claim7.holds Tryd.pinned (.plain (OpenSpec.ofChange scanBlocksSpec)) scanBlocksCard

/-- THE SECOND FORM's CARD OF 'scrimlaw07.ScanTells'. -/
def scanTellsUptoCard : Claim7 := { stood := { row := scanTellsUptoRow, standIns := [], harness := (true, "b2700bdadca7e466fd4104c373aa153ed13038e61b4c93d0a4513e3fd5ff73d4"), looks := false }, kinds := [], alts := [], laidByText := true, laidKinds := [.data, .pinned], laidTests := true, laidLooks := .later }
def ScanTellsUptoCardSaid : Prop := Claim7.holds Tryd.pinned (.plain (OpenSpec.upto scanTellsSpec)) scanTellsUptoCard

/-- THE SECOND FORM's CARD OF 'scrimlaw07.ScanStays'. -/
def scanStaysUptoCard : Claim7 := { stood := { row := scanStaysUptoRow, standIns := [], harness := (true, "b2700bdadca7e466fd4104c373aa153ed13038e61b4c93d0a4513e3fd5ff73d4"), looks := false }, kinds := [], alts := [], laidByText := true, laidKinds := [.data, .pinned], laidTests := true, laidLooks := .later }
def ScanStaysUptoCardSaid : Prop := Claim7.holds Tryd.pinned (.plain (OpenSpec.upto scanStaysSpec)) scanStaysUptoCard

/-- THE SECOND FORM's CARD OF 'scrimlaw07.ScanWords'. -/
def scanWordsUptoCard : Claim7 := { stood := { row := scanWordsUptoRow, standIns := [], harness := (true, "b2700bdadca7e466fd4104c373aa153ed13038e61b4c93d0a4513e3fd5ff73d4"), looks := false }, kinds := [], alts := [], laidByText := true, laidKinds := [.data, .pinned], laidTests := true, laidLooks := .later }
def ScanWordsUptoCardSaid : Prop := Claim7.holds Tryd.pinned (.plain (OpenSpec.upto scanWordsSpec)) scanWordsUptoCard

/-- THE SECOND FORM's CARD OF 'scrimlaw07.ScanBlocks'. -/
def scanBlocksUptoCard : Claim7 := { stood := { row := scanBlocksUptoRow, standIns := [], harness := (true, "b2700bdadca7e466fd4104c373aa153ed13038e61b4c93d0a4513e3fd5ff73d4"), looks := false }, kinds := [], alts := [], laidByText := true, laidKinds := [.data, .pinned], laidTests := true, laidLooks := .later }
def ScanBlocksUptoCardSaid : Prop := Claim7.holds Tryd.pinned (.plain (OpenSpec.upto scanBlocksSpec)) scanBlocksUptoCard
end Rows
end Go.Proofs.YtdifaomkaekglaaDoor
