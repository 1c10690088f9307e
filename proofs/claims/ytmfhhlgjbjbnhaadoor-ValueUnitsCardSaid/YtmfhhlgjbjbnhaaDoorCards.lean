/-
  DERIVED. GIVEN WITH THE SEED: THE CARDS: each row of YtmfhhlgjbjbnhaaDoorRows.lean that lists a variable, with what it lists TIED to the program's text (the seventh form; the later family's looks); each row that meets fmt, with fmt's text TOLD by the authors' own Lean function (tested against real Go, not proved from fmt's source: count such statements apart). THE CARD IS WHAT COUNTS. Prove the row's statement (the work); the ties are given (YtmfhhlgjbjbnhaaDoorTie.lean); close each card by the builder's one call (the guide's Derived/Test/ToyasCard.lean, 'card_holds'). Laid BY PROGRAM, IN A SANDBOX (cutbox-door.mjs). By AI agents, Wed Nov 11 2026. No macro, syntax, notation, axiom, sorry.
-/
import Derived.Test.YtmfhhlgjbjbnhaaDoorRows
import GoSem.ClaimSeven
namespace Go.Proofs.YtmfhhlgjbjbnhaaDoor
namespace Rows

/-- THE TIED CARD OF 'scrimlaw17.BlockFills'. -/
def blockFillsCard : Claim7 := { stood := { row := blockFillsRow, standIns := [], harness := (true, "a28f45aac2945c8bd8d67bf230deb43fd068198ecde8e2f59547ab2c40ec0f08"), looks := true }, kinds := [], alts := [], laidByText := true, laidKinds := [.data, .data, .data, .data, .sentinel, .sentinel, .pinned], laidTests := true, laidLooks := .later }
def BlockFillsCardSaid : Prop := Claim7.holds Tryd.pinned (.plain (OpenSpec.ofChange blockFillsSpec)) blockFillsCard

/-- THE TIED CARD OF 'scrimlaw08.ValueBack'. -/
def valueBackCard : Claim7 := { stood := { row := valueBackRow, standIns := [], harness := (true, "a28f45aac2945c8bd8d67bf230deb43fd068198ecde8e2f59547ab2c40ec0f08"), looks := true }, kinds := [], alts := [], laidByText := true, laidKinds := [.data, .data, .data, .data, .sentinel, .sentinel, .pinned], laidTests := true, laidLooks := .later }
def ValueBackCardSaid : Prop := Claim7.holds Tryd.pinned (.plain (OpenSpec.ofChange valueBackSpec)) valueBackCard

/-- THE TIED CARD OF 'scrimlaw08.ValueNames'. -/
def valueNamesCard : Claim7 := { stood := { row := valueNamesRow, standIns := [], harness := (true, "a28f45aac2945c8bd8d67bf230deb43fd068198ecde8e2f59547ab2c40ec0f08"), looks := true }, kinds := [], alts := [], laidByText := true, laidKinds := [.data, .data, .data, .data, .sentinel, .sentinel, .pinned], laidTests := true, laidLooks := .later }
def ValueNamesCardSaid : Prop := Claim7.holds Tryd.pinned (.plain (OpenSpec.ofChange valueNamesSpec)) valueNamesCard

/-- THE TIED CARD OF 'scrimlaw08.ValueUnits'. -/
def valueUnitsCard : Claim7 := { stood := { row := valueUnitsRow, standIns := [], harness := (true, "a28f45aac2945c8bd8d67bf230deb43fd068198ecde8e2f59547ab2c40ec0f08"), looks := true }, kinds := [], alts := [], laidByText := true, laidKinds := [.data, .data, .data, .data, .sentinel, .sentinel, .pinned], laidTests := true, laidLooks := .later }
def ValueUnitsCardSaid : Prop := Claim7.holds Tryd.pinned (.plain (OpenSpec.ofChange valueUnitsSpec)) valueUnitsCard

/-- THE SECOND FORM's CARD OF 'scrimlaw17.BlockFills'. -/
def blockFillsUptoCard : Claim7 := { stood := { row := blockFillsUptoRow, standIns := [], harness := (true, "a28f45aac2945c8bd8d67bf230deb43fd068198ecde8e2f59547ab2c40ec0f08"), looks := true }, kinds := [], alts := [], laidByText := true, laidKinds := [.data, .data, .data, .data, .sentinel, .sentinel, .pinned], laidTests := true, laidLooks := .later }
def BlockFillsUptoCardSaid : Prop := Claim7.holds Tryd.pinned (.plain (OpenSpec.upto blockFillsSpec)) blockFillsUptoCard

/-- THE SECOND FORM's CARD OF 'scrimlaw08.ValueBack'. -/
def valueBackUptoCard : Claim7 := { stood := { row := valueBackUptoRow, standIns := [], harness := (true, "a28f45aac2945c8bd8d67bf230deb43fd068198ecde8e2f59547ab2c40ec0f08"), looks := true }, kinds := [], alts := [], laidByText := true, laidKinds := [.data, .data, .data, .data, .sentinel, .sentinel, .pinned], laidTests := true, laidLooks := .later }
def ValueBackUptoCardSaid : Prop := Claim7.holds Tryd.pinned (.plain (OpenSpec.upto valueBackSpec)) valueBackUptoCard

/-- THE SECOND FORM's CARD OF 'scrimlaw08.ValueNames'. -/
def valueNamesUptoCard : Claim7 := { stood := { row := valueNamesUptoRow, standIns := [], harness := (true, "a28f45aac2945c8bd8d67bf230deb43fd068198ecde8e2f59547ab2c40ec0f08"), looks := true }, kinds := [], alts := [], laidByText := true, laidKinds := [.data, .data, .data, .data, .sentinel, .sentinel, .pinned], laidTests := true, laidLooks := .later }
def ValueNamesUptoCardSaid : Prop := Claim7.holds Tryd.pinned (.plain (OpenSpec.upto valueNamesSpec)) valueNamesUptoCard

/-- THE SECOND FORM's CARD OF 'scrimlaw08.ValueUnits'. -/
def valueUnitsUptoCard : Claim7 := { stood := { row := valueUnitsUptoRow, standIns := [], harness := (true, "a28f45aac2945c8bd8d67bf230deb43fd068198ecde8e2f59547ab2c40ec0f08"), looks := true }, kinds := [], alts := [], laidByText := true, laidKinds := [.data, .data, .data, .data, .sentinel, .sentinel, .pinned], laidTests := true, laidLooks := .later }
def ValueUnitsUptoCardSaid : Prop := Claim7.holds Tryd.pinned (.plain (OpenSpec.upto valueUnitsSpec)) valueUnitsUptoCard
end Rows
end Go.Proofs.YtmfhhlgjbjbnhaaDoor
