/-
  DERIVED. GIVEN WITH THE SEED: THE CARDS: each row of YtjcminooghmpeaaGreatDoorRows.lean that lists a variable, with what it lists TIED to the program's text (the seventh form; the later family's looks); each row that meets fmt, with fmt's text TOLD by the authors' own Lean function (tested against real Go, not proved from fmt's source: count such statements apart). THE CARD IS WHAT COUNTS. Prove the row's statement (the work); the ties are given (YtjcminooghmpeaaGreatDoorTie.lean); close each card by the builder's one call (the guide's Derived/Test/ToyasCard.lean, 'card_holds'). Laid BY PROGRAM, IN A SANDBOX (cutbox-door.mjs). By AI agents, Wed Nov 11 2026. No macro, syntax, notation, axiom, sorry.
-/
import Derived.Test.YtjcminooghmpeaaGreatDoorRows
import GoSem.ClaimSeven
namespace Go.Proofs.YtjcminooghmpeaaGreatDoor
namespace Rows

/-- THE TIED CARD OF 'detentlaw15.OuterUndoes'. -/
def outerUndoesCard : Claim7 := { stood := { row := outerUndoesRow, standIns := [], harness := (true, "28dbe928f1be55a73db9b4819b2edd1f6a61a2d3f02bd33d225c0fc3560c3166"), looks := true }, kinds := [], alts := [], laidByText := true, laidKinds := [.handle, .sentinel], laidTests := true, laidLooks := .later }
def OuterUndoesCardSaid : Prop := Claim7.holds Tryz.pinned (.plain (OpenSpec.ofChange outerUndoesSpec)) outerUndoesCard

/-- THE TIED CARD OF 'detentlaw15.OuterParts'. -/
def outerPartsCard : Claim7 := { stood := { row := outerPartsRow, standIns := [], harness := (true, "28dbe928f1be55a73db9b4819b2edd1f6a61a2d3f02bd33d225c0fc3560c3166"), looks := true }, kinds := [], alts := [], laidByText := true, laidKinds := [.handle, .sentinel], laidTests := true, laidLooks := .later }
def OuterPartsCardSaid : Prop := Claim7.holds Tryz.pinned (.plain (OpenSpec.ofChange outerPartsSpec)) outerPartsCard

/-- THE TIED CARD OF 'detentlaw15.OuterNumbers'. -/
def outerNumbersCard : Claim7 := { stood := { row := outerNumbersRow, standIns := [], harness := (true, "28dbe928f1be55a73db9b4819b2edd1f6a61a2d3f02bd33d225c0fc3560c3166"), looks := true }, kinds := [], alts := [], laidByText := true, laidKinds := [.handle, .sentinel], laidTests := true, laidLooks := .later }
def OuterNumbersCardSaid : Prop := Claim7.holds Tryz.pinned (.plain (OpenSpec.ofChange outerNumbersSpec)) outerNumbersCard

/-- THE TIED CARD OF 'detentlaw15.OuterDefines'. -/
def outerDefinesCard : Claim7 := { stood := { row := outerDefinesRow, standIns := [], harness := (true, "28dbe928f1be55a73db9b4819b2edd1f6a61a2d3f02bd33d225c0fc3560c3166"), looks := true }, kinds := [], alts := [], laidByText := true, laidKinds := [.handle, .sentinel], laidTests := true, laidLooks := .later }
def OuterDefinesCardSaid : Prop := Claim7.holds Tryz.pinned (.plain (OpenSpec.ofChange outerDefinesSpec)) outerDefinesCard

/-- THE TIED CARD OF 'detentlaw15.OuterChooses'. -/
def outerChoosesCard : Claim7 := { stood := { row := outerChoosesRow, standIns := [], harness := (true, "28dbe928f1be55a73db9b4819b2edd1f6a61a2d3f02bd33d225c0fc3560c3166"), looks := true }, kinds := [], alts := [], laidByText := true, laidKinds := [.handle, .sentinel], laidTests := true, laidLooks := .later }
def OuterChoosesCardSaid : Prop := Claim7.holds Tryz.pinned (.plain (OpenSpec.ofChange outerChoosesSpec)) outerChoosesCard

/-- THE TIED CARD OF 'detentlaw15.OuterTexts'. -/
def outerTextsCard : Claim7 := { stood := { row := outerTextsRow, standIns := [], harness := (true, "28dbe928f1be55a73db9b4819b2edd1f6a61a2d3f02bd33d225c0fc3560c3166"), looks := true }, kinds := [], alts := [], laidByText := true, laidKinds := [.handle, .sentinel], laidTests := true, laidLooks := .later }
def OuterTextsCardSaid : Prop := Claim7.holds Tryz.pinned (.plain (OpenSpec.ofChange outerTextsSpec)) outerTextsCard

/-- THE SECOND FORM's CARD OF 'detentlaw15.OuterUndoes'. -/
def outerUndoesUptoCard : Claim7 := { stood := { row := outerUndoesUptoRow, standIns := [], harness := (true, "28dbe928f1be55a73db9b4819b2edd1f6a61a2d3f02bd33d225c0fc3560c3166"), looks := true }, kinds := [], alts := [], laidByText := true, laidKinds := [.handle, .sentinel], laidTests := true, laidLooks := .later }
def OuterUndoesUptoCardSaid : Prop := Claim7.holds Tryz.pinned (.plain (OpenSpec.upto outerUndoesSpec)) outerUndoesUptoCard

/-- THE SECOND FORM's CARD OF 'detentlaw15.OuterParts'. -/
def outerPartsUptoCard : Claim7 := { stood := { row := outerPartsUptoRow, standIns := [], harness := (true, "28dbe928f1be55a73db9b4819b2edd1f6a61a2d3f02bd33d225c0fc3560c3166"), looks := true }, kinds := [], alts := [], laidByText := true, laidKinds := [.handle, .sentinel], laidTests := true, laidLooks := .later }
def OuterPartsUptoCardSaid : Prop := Claim7.holds Tryz.pinned (.plain (OpenSpec.upto outerPartsSpec)) outerPartsUptoCard

/-- THE SECOND FORM's CARD OF 'detentlaw15.OuterNumbers'. -/
def outerNumbersUptoCard : Claim7 := { stood := { row := outerNumbersUptoRow, standIns := [], harness := (true, "28dbe928f1be55a73db9b4819b2edd1f6a61a2d3f02bd33d225c0fc3560c3166"), looks := true }, kinds := [], alts := [], laidByText := true, laidKinds := [.handle, .sentinel], laidTests := true, laidLooks := .later }
def OuterNumbersUptoCardSaid : Prop := Claim7.holds Tryz.pinned (.plain (OpenSpec.upto outerNumbersSpec)) outerNumbersUptoCard

/-- THE SECOND FORM's CARD OF 'detentlaw15.OuterDefines'. -/
def outerDefinesUptoCard : Claim7 := { stood := { row := outerDefinesUptoRow, standIns := [], harness := (true, "28dbe928f1be55a73db9b4819b2edd1f6a61a2d3f02bd33d225c0fc3560c3166"), looks := true }, kinds := [], alts := [], laidByText := true, laidKinds := [.handle, .sentinel], laidTests := true, laidLooks := .later }
def OuterDefinesUptoCardSaid : Prop := Claim7.holds Tryz.pinned (.plain (OpenSpec.upto outerDefinesSpec)) outerDefinesUptoCard

/-- THE SECOND FORM's CARD OF 'detentlaw15.OuterChooses'. -/
def outerChoosesUptoCard : Claim7 := { stood := { row := outerChoosesUptoRow, standIns := [], harness := (true, "28dbe928f1be55a73db9b4819b2edd1f6a61a2d3f02bd33d225c0fc3560c3166"), looks := true }, kinds := [], alts := [], laidByText := true, laidKinds := [.handle, .sentinel], laidTests := true, laidLooks := .later }
def OuterChoosesUptoCardSaid : Prop := Claim7.holds Tryz.pinned (.plain (OpenSpec.upto outerChoosesSpec)) outerChoosesUptoCard

/-- THE SECOND FORM's CARD OF 'detentlaw15.OuterTexts'. -/
def outerTextsUptoCard : Claim7 := { stood := { row := outerTextsUptoRow, standIns := [], harness := (true, "28dbe928f1be55a73db9b4819b2edd1f6a61a2d3f02bd33d225c0fc3560c3166"), looks := true }, kinds := [], alts := [], laidByText := true, laidKinds := [.handle, .sentinel], laidTests := true, laidLooks := .later }
def OuterTextsUptoCardSaid : Prop := Claim7.holds Tryz.pinned (.plain (OpenSpec.upto outerTextsSpec)) outerTextsUptoCard
end Rows
end Go.Proofs.YtjcminooghmpeaaGreatDoor
