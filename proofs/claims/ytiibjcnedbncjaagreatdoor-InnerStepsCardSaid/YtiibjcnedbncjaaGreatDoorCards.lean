/-
  DERIVED. GIVEN WITH THE SEED: THE CARDS: each row of YtiibjcnedbncjaaGreatDoorRows.lean that lists a variable, with what it lists TIED to the program's text (the seventh form; the later family's looks); each row that meets fmt, with fmt's text TOLD by the authors' own Lean function (tested against real Go, not proved from fmt's source: count such statements apart). THE CARD IS WHAT COUNTS. Prove the row's statement (the work); the ties are given (YtiibjcnedbncjaaGreatDoorTie.lean); close each card by the builder's one call (the guide's Derived/Test/ToyasCard.lean, 'card_holds'). Laid BY PROGRAM, IN A SANDBOX (cutbox-door.mjs). By AI agents, Wed Nov 11 2026. No macro, syntax, notation, axiom, sorry.
-/
import Derived.Test.YtiibjcnedbncjaaGreatDoorRows
import GoSem.ClaimSeven
namespace Go.Proofs.YtiibjcnedbncjaaGreatDoor
namespace Rows

/-- THE TIED CARD OF 'detentlaw12.InnerSteps'. -/
def innerStepsCard : Claim7 := { stood := { row := innerStepsRow, standIns := [], harness := (true, "6739edba5f7deed12cf70bb16cc9f52c921742cfdaf9644f29c84bb43a226288"), looks := true }, kinds := [], alts := [], laidByText := true, laidKinds := [.handle, .sentinel], laidTests := true, laidLooks := .later }
def InnerStepsCardSaid : Prop := Claim7.holds Tryz.pinned (.plain (OpenSpec.ofChange innerStepsSpec)) innerStepsCard

/-- THE TIED CARD OF 'detentlaw12.InnerRuns'. -/
def innerRunsCard : Claim7 := { stood := { row := innerRunsRow, standIns := [], harness := (true, "6739edba5f7deed12cf70bb16cc9f52c921742cfdaf9644f29c84bb43a226288"), looks := true }, kinds := [], alts := [], laidByText := true, laidKinds := [.handle, .sentinel], laidTests := true, laidLooks := .later }
def InnerRunsCardSaid : Prop := Claim7.holds Tryz.pinned (.plain (OpenSpec.ofChange innerRunsSpec)) innerRunsCard

/-- THE SECOND FORM's CARD OF 'detentlaw12.InnerSteps'. -/
def innerStepsUptoCard : Claim7 := { stood := { row := innerStepsUptoRow, standIns := [], harness := (true, "6739edba5f7deed12cf70bb16cc9f52c921742cfdaf9644f29c84bb43a226288"), looks := true }, kinds := [], alts := [], laidByText := true, laidKinds := [.handle, .sentinel], laidTests := true, laidLooks := .later }
def InnerStepsUptoCardSaid : Prop := Claim7.holds Tryz.pinned (.plain (OpenSpec.upto innerStepsSpec)) innerStepsUptoCard

/-- THE SECOND FORM's CARD OF 'detentlaw12.InnerRuns'. -/
def innerRunsUptoCard : Claim7 := { stood := { row := innerRunsUptoRow, standIns := [], harness := (true, "6739edba5f7deed12cf70bb16cc9f52c921742cfdaf9644f29c84bb43a226288"), looks := true }, kinds := [], alts := [], laidByText := true, laidKinds := [.handle, .sentinel], laidTests := true, laidLooks := .later }
def InnerRunsUptoCardSaid : Prop := Claim7.holds Tryz.pinned (.plain (OpenSpec.upto innerRunsSpec)) innerRunsUptoCard
end Rows
end Go.Proofs.YtiibjcnedbncjaaGreatDoor
