/-
  DERIVED. GIVEN WITH THE SEED: THE CARDS: each row of YtdifaomkaekglabDoorRows.lean that lists a variable, with what it lists TIED to the program's text (the seventh form; the later family's looks); each row that meets fmt, with fmt's text TOLD by the authors' own Lean function (tested against real Go, not proved from fmt's source: count such statements apart). THE CARD IS WHAT COUNTS. Prove the row's statement (the work); the ties are given (YtdifaomkaekglabDoorTie.lean); close each card by the builder's one call (the guide's Derived/Test/ToyasCard.lean, 'card_holds'). Laid BY PROGRAM, IN A SANDBOX (cutbox-door.mjs). By AI agents, Wed Nov 11 2026. No macro, syntax, notation, axiom, sorry.
-/
import Derived.Test.YtdifaomkaekglabDoorRows
import GoSem.ClaimSeven
namespace Go.Proofs.YtdifaomkaekglabDoor
namespace Rows

/-- THE TIED CARD OF 'scrimlaw09.SelectorBack'. -/
def selectorBackCard : Claim7 := { stood := { row := selectorBackRow, standIns := [], harness := (true, "a3694a5b0d9b1082d9192b5554e6036c2f81159d5e34a466aec563a43d7b1c01"), looks := false }, kinds := [], alts := [], laidByText := true, laidKinds := [.data, .pinned], laidTests := true, laidLooks := .later }
def SelectorBackCardSaid : Prop := Claim7.holds Tryd.pinned (.plain (OpenSpec.ofChange selectorBackSpec)) selectorBackCard

/-- THE TIED CARD OF 'scrimlaw09.SelectorBlanks'. -/
def selectorBlanksCard : Claim7 := { stood := { row := selectorBlanksRow, standIns := [], harness := (true, "a3694a5b0d9b1082d9192b5554e6036c2f81159d5e34a466aec563a43d7b1c01"), looks := false }, kinds := [], alts := [], laidByText := true, laidKinds := [.data, .pinned], laidTests := true, laidLooks := .later }
def SelectorBlanksCardSaid : Prop := Claim7.holds Tryd.pinned (.plain (OpenSpec.ofChange selectorBlanksSpec)) selectorBlanksCard

/-- THE TIED CARD OF 'scrimlaw09.SelectorWeighs'. -/
def selectorWeighsCard : Claim7 := { stood := { row := selectorWeighsRow, standIns := [], harness := (true, "a3694a5b0d9b1082d9192b5554e6036c2f81159d5e34a466aec563a43d7b1c01"), looks := false }, kinds := [], alts := [], laidByText := true, laidKinds := [.data, .pinned], laidTests := true, laidLooks := .later }
def SelectorWeighsCardSaid : Prop := Claim7.holds Tryd.pinned (.plain (OpenSpec.ofChange selectorWeighsSpec)) selectorWeighsCard

/-- THE TIED CARD OF 'scrimlaw09.SelectorLists'. -/
def selectorListsCard : Claim7 := { stood := { row := selectorListsRow, standIns := [], harness := (true, "a3694a5b0d9b1082d9192b5554e6036c2f81159d5e34a466aec563a43d7b1c01"), looks := false }, kinds := [], alts := [], laidByText := true, laidKinds := [.data, .pinned], laidTests := true, laidLooks := .later }
def SelectorListsCardSaid : Prop := Claim7.holds Tryd.pinned (.plain (OpenSpec.ofChange selectorListsSpec)) selectorListsCard

/-- THE SECOND FORM's CARD OF 'scrimlaw09.SelectorBack'. -/
def selectorBackUptoCard : Claim7 := { stood := { row := selectorBackUptoRow, standIns := [], harness := (true, "a3694a5b0d9b1082d9192b5554e6036c2f81159d5e34a466aec563a43d7b1c01"), looks := false }, kinds := [], alts := [], laidByText := true, laidKinds := [.data, .pinned], laidTests := true, laidLooks := .later }
def SelectorBackUptoCardSaid : Prop := Claim7.holds Tryd.pinned (.plain (OpenSpec.upto selectorBackSpec)) selectorBackUptoCard

/-- THE SECOND FORM's CARD OF 'scrimlaw09.SelectorBlanks'. -/
def selectorBlanksUptoCard : Claim7 := { stood := { row := selectorBlanksUptoRow, standIns := [], harness := (true, "a3694a5b0d9b1082d9192b5554e6036c2f81159d5e34a466aec563a43d7b1c01"), looks := false }, kinds := [], alts := [], laidByText := true, laidKinds := [.data, .pinned], laidTests := true, laidLooks := .later }
def SelectorBlanksUptoCardSaid : Prop := Claim7.holds Tryd.pinned (.plain (OpenSpec.upto selectorBlanksSpec)) selectorBlanksUptoCard

/-- THE SECOND FORM's CARD OF 'scrimlaw09.SelectorWeighs'. -/
def selectorWeighsUptoCard : Claim7 := { stood := { row := selectorWeighsUptoRow, standIns := [], harness := (true, "a3694a5b0d9b1082d9192b5554e6036c2f81159d5e34a466aec563a43d7b1c01"), looks := false }, kinds := [], alts := [], laidByText := true, laidKinds := [.data, .pinned], laidTests := true, laidLooks := .later }
def SelectorWeighsUptoCardSaid : Prop := Claim7.holds Tryd.pinned (.plain (OpenSpec.upto selectorWeighsSpec)) selectorWeighsUptoCard

/-- THE SECOND FORM's CARD OF 'scrimlaw09.SelectorLists'. -/
def selectorListsUptoCard : Claim7 := { stood := { row := selectorListsUptoRow, standIns := [], harness := (true, "a3694a5b0d9b1082d9192b5554e6036c2f81159d5e34a466aec563a43d7b1c01"), looks := false }, kinds := [], alts := [], laidByText := true, laidKinds := [.data, .pinned], laidTests := true, laidLooks := .later }
def SelectorListsUptoCardSaid : Prop := Claim7.holds Tryd.pinned (.plain (OpenSpec.upto selectorListsSpec)) selectorListsUptoCard
end Rows
end Go.Proofs.YtdifaomkaekglabDoor
