/-
  DERIVED. GIVEN WITH THE SEED: THE PROGRAM's TIES (one call each: nine closed facts by the kernel) AND EACH ROW's TIE, after the 31st guide's Derived/Test/Toyas{Tie, Card}.lean. No idea stands in it: it is a product of the set-up. Laid BY PROGRAM, IN A SANDBOX (cutbox-door.mjs). By AI agents, Wed Nov 11 2026. No macro, syntax, notation, axiom, sorry.
-/
import Derived.Test.YtjcminooghmpeaaGreatDoorRows
import Derived.LaidByTextLater
import Derived.SevenTiedAt
import Derived.LaidSub
import Derived.LaidOnce
namespace Go.Proofs.YtjcminooghmpeaaGreatDoor
open Go
set_option maxRecDepth 100000
theorem seatTie1 : Tryz.prog.laidByTextLater [("errors.errorType", Rows.laid_errors_errorType), ("detent/inner.errHalt", Rows.laid_detent_inner_errHalt)] [.handle, .sentinel] true :=
  Program.laidByTextLater_by_one 35 8 2 (by kernel_rfl) (by kernel_rfl) (by kernel_rfl) (by kernel_rfl) (by kernel_rfl) (by kernel_rfl) (fun _ _ => by kernel_rfl)
theorem noOwnUnsafe : Tryz.pinned.checked.prog.headLifts.contains "ownunsafe" = false := by kernel_rfl
theorem tie : Tryz.prog.laidByTextLater [("errors.errorType", Rows.laid_errors_errorType), ("detent/inner.errHalt", Rows.laid_detent_inner_errHalt)] [.handle, .sentinel] true :=
  Program.laidByTextLater.sub seatTie1 ["errors.errorType", "detent/inner.errHalt"] (by kernel_rfl) (by kernel_rfl)
theorem outerUndoes_row_tie : Rows.outerUndoesRow.laidByTextAt .later Tryz.pinned [.handle, .sentinel] true :=
  OpenClaim.laidByTextAt_later rfl rfl tie noOwnUnsafe
theorem outerParts_row_tie : Rows.outerPartsRow.laidByTextAt .later Tryz.pinned [.handle, .sentinel] true :=
  OpenClaim.laidByTextAt_later rfl rfl tie noOwnUnsafe
theorem outerNumbers_row_tie : Rows.outerNumbersRow.laidByTextAt .later Tryz.pinned [.handle, .sentinel] true :=
  OpenClaim.laidByTextAt_later rfl rfl tie noOwnUnsafe
theorem outerDefines_row_tie : Rows.outerDefinesRow.laidByTextAt .later Tryz.pinned [.handle, .sentinel] true :=
  OpenClaim.laidByTextAt_later rfl rfl tie noOwnUnsafe
theorem outerChooses_row_tie : Rows.outerChoosesRow.laidByTextAt .later Tryz.pinned [.handle, .sentinel] true :=
  OpenClaim.laidByTextAt_later rfl rfl tie noOwnUnsafe
theorem outerTexts_row_tie : Rows.outerTextsRow.laidByTextAt .later Tryz.pinned [.handle, .sentinel] true :=
  OpenClaim.laidByTextAt_later rfl rfl tie noOwnUnsafe
theorem outerUndoesUpto_row_tie : Rows.outerUndoesUptoRow.laidByTextAt .later Tryz.pinned [.handle, .sentinel] true :=
  OpenClaim.laidByTextAt_later rfl rfl tie noOwnUnsafe
theorem outerPartsUpto_row_tie : Rows.outerPartsUptoRow.laidByTextAt .later Tryz.pinned [.handle, .sentinel] true :=
  OpenClaim.laidByTextAt_later rfl rfl tie noOwnUnsafe
theorem outerNumbersUpto_row_tie : Rows.outerNumbersUptoRow.laidByTextAt .later Tryz.pinned [.handle, .sentinel] true :=
  OpenClaim.laidByTextAt_later rfl rfl tie noOwnUnsafe
theorem outerDefinesUpto_row_tie : Rows.outerDefinesUptoRow.laidByTextAt .later Tryz.pinned [.handle, .sentinel] true :=
  OpenClaim.laidByTextAt_later rfl rfl tie noOwnUnsafe
theorem outerChoosesUpto_row_tie : Rows.outerChoosesUptoRow.laidByTextAt .later Tryz.pinned [.handle, .sentinel] true :=
  OpenClaim.laidByTextAt_later rfl rfl tie noOwnUnsafe
theorem outerTextsUpto_row_tie : Rows.outerTextsUptoRow.laidByTextAt .later Tryz.pinned [.handle, .sentinel] true :=
  OpenClaim.laidByTextAt_later rfl rfl tie noOwnUnsafe
end Go.Proofs.YtjcminooghmpeaaGreatDoor
