/-
  DERIVED. GIVEN WITH THE SEED: THE CARDS: each row of YtobhnjnffnbbkaaGreatDoorRows.lean that lists a variable, with what it lists TIED to the program's text (the seventh form; the later family's looks); each row that meets fmt, with fmt's text TOLD by the authors' own Lean function (tested against real Go, not proved from fmt's source: count such statements apart). THE CARD IS WHAT COUNTS. Prove the row's statement (the work); the ties are given (YtobhnjnffnbbkaaGreatDoorTie.lean); close each card by the builder's one call (the guide's Derived/Test/ToyasCard.lean, 'card_holds'). Laid BY PROGRAM, IN A SANDBOX (cutbox-door.mjs). By AI agents, Wed Nov 11 2026. No macro, syntax, notation, axiom, sorry.
-/
import Derived.Test.YtobhnjnffnbbkaaGreatDoorRows
import GoSem.ClaimSeven
namespace Go.Proofs.YtobhnjnffnbbkaaGreatDoor
namespace Rows

/-- THE TIED CARD OF 'detentlaw12.InnerSteps'. -/
def innerStepsCard : Claim7 := { stood := { row := innerStepsRow, standIns := [], harness := (true, "61d8d3666c19c6511c2f7dc8b2980b9eb17bb83922193e80ee260bfa0b8b3e75"), looks := true }, kinds := [], alts := [], laidByText := true, laidKinds := [.handle, .sentinel], laidTests := true, laidLooks := .later }
def InnerStepsCardSaid : Prop := Claim7.holds Tryz.pinned (.plain (OpenSpec.ofChange innerStepsSpec)) innerStepsCard

/-- THE TIED CARD OF 'detentlaw12.InnerRuns'. -/
def innerRunsCard : Claim7 := { stood := { row := innerRunsRow, standIns := [], harness := (true, "61d8d3666c19c6511c2f7dc8b2980b9eb17bb83922193e80ee260bfa0b8b3e75"), looks := true }, kinds := [], alts := [], laidByText := true, laidKinds := [.handle, .sentinel], laidTests := true, laidLooks := .later }
def InnerRunsCardSaid : Prop := Claim7.holds Tryz.pinned (.plain (OpenSpec.ofChange innerRunsSpec)) innerRunsCard

/-- THE TIED CARD OF 'detentlaw12.InnerStays'. -/
def innerStaysCard : Claim7 := { stood := { row := innerStaysRow, standIns := [], harness := (true, "61d8d3666c19c6511c2f7dc8b2980b9eb17bb83922193e80ee260bfa0b8b3e75"), looks := true }, kinds := [], alts := [], laidByText := true, laidKinds := [.handle, .sentinel], laidTests := true, laidLooks := .later }
def InnerStaysCardSaid : Prop := Claim7.holds Tryz.pinned (.plain (OpenSpec.ofChange innerStaysSpec)) innerStaysCard

/-- THE TIED CARD OF 'detentlaw12.InnerMore'. -/
def innerMoreCard : Claim7 := { stood := { row := innerMoreRow, standIns := [], harness := (true, "61d8d3666c19c6511c2f7dc8b2980b9eb17bb83922193e80ee260bfa0b8b3e75"), looks := true }, kinds := [], alts := [], laidByText := true, laidKinds := [.handle, .sentinel], laidTests := true, laidLooks := .later }
def InnerMoreCardSaid : Prop := Claim7.holds Tryz.pinned (.plain (OpenSpec.ofChange innerMoreSpec)) innerMoreCard

/-- THE TIED CARD OF 'detentlaw12.InnerCatches'. -/
def innerCatchesCard : Claim7 := { stood := { row := innerCatchesRow, standIns := [], harness := (true, "61d8d3666c19c6511c2f7dc8b2980b9eb17bb83922193e80ee260bfa0b8b3e75"), looks := true }, kinds := [], alts := [], laidByText := true, laidKinds := [.handle, .sentinel], laidTests := true, laidLooks := .later }
def InnerCatchesCardSaid : Prop := Claim7.holds Tryz.pinned (.plain (OpenSpec.ofChange innerCatchesSpec)) innerCatchesCard

/-- THE TIED CARD OF 'detentlaw12.InnerLoops'. -/
def innerLoopsCard : Claim7 := { stood := { row := innerLoopsRow, standIns := [], harness := (true, "61d8d3666c19c6511c2f7dc8b2980b9eb17bb83922193e80ee260bfa0b8b3e75"), looks := true }, kinds := [], alts := [], laidByText := true, laidKinds := [.handle, .sentinel], laidTests := true, laidLooks := .later }
def InnerLoopsCardSaid : Prop := Claim7.holds Tryz.pinned (.plain (OpenSpec.ofChange innerLoopsSpec)) innerLoopsCard

/-- THE TIED CARD OF 'detentlaw12.InnerDoes'. -/
def innerDoesCard : Claim7 := { stood := { row := innerDoesRow, standIns := [], harness := (true, "61d8d3666c19c6511c2f7dc8b2980b9eb17bb83922193e80ee260bfa0b8b3e75"), looks := true }, kinds := [], alts := [], laidByText := true, laidKinds := [.handle, .sentinel], laidTests := true, laidLooks := .later }
def InnerDoesCardSaid : Prop := Claim7.holds Tryz.pinned (.plain (OpenSpec.ofChange innerDoesSpec)) innerDoesCard

/-- THE TIED CARD OF 'detentlaw12.InnerStates'. -/
def innerStatesCard : Claim7 := { stood := { row := innerStatesRow, standIns := [], harness := (true, "61d8d3666c19c6511c2f7dc8b2980b9eb17bb83922193e80ee260bfa0b8b3e75"), looks := true }, kinds := [], alts := [], laidByText := true, laidKinds := [.handle, .sentinel], laidTests := true, laidLooks := .later }
def InnerStatesCardSaid : Prop := Claim7.holds Tryz.pinned (.plain (OpenSpec.ofChange innerStatesSpec)) innerStatesCard

/-- THE SECOND FORM's CARD OF 'detentlaw12.InnerSteps'. -/
def innerStepsUptoCard : Claim7 := { stood := { row := innerStepsUptoRow, standIns := [], harness := (true, "61d8d3666c19c6511c2f7dc8b2980b9eb17bb83922193e80ee260bfa0b8b3e75"), looks := true }, kinds := [], alts := [], laidByText := true, laidKinds := [.handle, .sentinel], laidTests := true, laidLooks := .later }
def InnerStepsUptoCardSaid : Prop := Claim7.holds Tryz.pinned (.plain (OpenSpec.upto innerStepsSpec)) innerStepsUptoCard

/-- THE SECOND FORM's CARD OF 'detentlaw12.InnerRuns'. -/
def innerRunsUptoCard : Claim7 := { stood := { row := innerRunsUptoRow, standIns := [], harness := (true, "61d8d3666c19c6511c2f7dc8b2980b9eb17bb83922193e80ee260bfa0b8b3e75"), looks := true }, kinds := [], alts := [], laidByText := true, laidKinds := [.handle, .sentinel], laidTests := true, laidLooks := .later }
def InnerRunsUptoCardSaid : Prop := Claim7.holds Tryz.pinned (.plain (OpenSpec.upto innerRunsSpec)) innerRunsUptoCard

/-- THE SECOND FORM's CARD OF 'detentlaw12.InnerStays'. -/
def innerStaysUptoCard : Claim7 := { stood := { row := innerStaysUptoRow, standIns := [], harness := (true, "61d8d3666c19c6511c2f7dc8b2980b9eb17bb83922193e80ee260bfa0b8b3e75"), looks := true }, kinds := [], alts := [], laidByText := true, laidKinds := [.handle, .sentinel], laidTests := true, laidLooks := .later }
def InnerStaysUptoCardSaid : Prop := Claim7.holds Tryz.pinned (.plain (OpenSpec.upto innerStaysSpec)) innerStaysUptoCard

/-- THE SECOND FORM's CARD OF 'detentlaw12.InnerMore'. -/
def innerMoreUptoCard : Claim7 := { stood := { row := innerMoreUptoRow, standIns := [], harness := (true, "61d8d3666c19c6511c2f7dc8b2980b9eb17bb83922193e80ee260bfa0b8b3e75"), looks := true }, kinds := [], alts := [], laidByText := true, laidKinds := [.handle, .sentinel], laidTests := true, laidLooks := .later }
def InnerMoreUptoCardSaid : Prop := Claim7.holds Tryz.pinned (.plain (OpenSpec.upto innerMoreSpec)) innerMoreUptoCard

/-- THE SECOND FORM's CARD OF 'detentlaw12.InnerCatches'. -/
def innerCatchesUptoCard : Claim7 := { stood := { row := innerCatchesUptoRow, standIns := [], harness := (true, "61d8d3666c19c6511c2f7dc8b2980b9eb17bb83922193e80ee260bfa0b8b3e75"), looks := true }, kinds := [], alts := [], laidByText := true, laidKinds := [.handle, .sentinel], laidTests := true, laidLooks := .later }
def InnerCatchesUptoCardSaid : Prop := Claim7.holds Tryz.pinned (.plain (OpenSpec.upto innerCatchesSpec)) innerCatchesUptoCard

/-- THE SECOND FORM's CARD OF 'detentlaw12.InnerLoops'. -/
def innerLoopsUptoCard : Claim7 := { stood := { row := innerLoopsUptoRow, standIns := [], harness := (true, "61d8d3666c19c6511c2f7dc8b2980b9eb17bb83922193e80ee260bfa0b8b3e75"), looks := true }, kinds := [], alts := [], laidByText := true, laidKinds := [.handle, .sentinel], laidTests := true, laidLooks := .later }
def InnerLoopsUptoCardSaid : Prop := Claim7.holds Tryz.pinned (.plain (OpenSpec.upto innerLoopsSpec)) innerLoopsUptoCard

/-- THE SECOND FORM's CARD OF 'detentlaw12.InnerDoes'. -/
def innerDoesUptoCard : Claim7 := { stood := { row := innerDoesUptoRow, standIns := [], harness := (true, "61d8d3666c19c6511c2f7dc8b2980b9eb17bb83922193e80ee260bfa0b8b3e75"), looks := true }, kinds := [], alts := [], laidByText := true, laidKinds := [.handle, .sentinel], laidTests := true, laidLooks := .later }
def InnerDoesUptoCardSaid : Prop := Claim7.holds Tryz.pinned (.plain (OpenSpec.upto innerDoesSpec)) innerDoesUptoCard

/-- THE SECOND FORM's CARD OF 'detentlaw12.InnerStates'. -/
def innerStatesUptoCard : Claim7 := { stood := { row := innerStatesUptoRow, standIns := [], harness := (true, "61d8d3666c19c6511c2f7dc8b2980b9eb17bb83922193e80ee260bfa0b8b3e75"), looks := true }, kinds := [], alts := [], laidByText := true, laidKinds := [.handle, .sentinel], laidTests := true, laidLooks := .later }
def InnerStatesUptoCardSaid : Prop := Claim7.holds Tryz.pinned (.plain (OpenSpec.upto innerStatesSpec)) innerStatesUptoCard
end Rows
end Go.Proofs.YtobhnjnffnbbkaaGreatDoor
