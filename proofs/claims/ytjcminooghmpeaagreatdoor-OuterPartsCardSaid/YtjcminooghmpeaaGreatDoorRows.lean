/-
  NARROWER THAN 'FOR EVERY INPUT', by the rows' own cells (each row's printed sentence says how): OuterUndoes: laid · OuterParts: laid · OuterNumbers: laid · OuterDefines: laid · OuterChooses: laid · OuterTexts: laid.
  DERIVED. THE GIVEN ROWS OF THIS SEAT. 6 by the template 'for every input the law returns true; each argument reads behind the call as it read before'; 0 by the template 'total and deterministic' (their statements: YtjcminooghmpeaaGreatDoorTotals.lean).
  GIVEN WITH THE SEED: the statements are not yours to turn. If you find one false, say at which input.
  Laid BY PROGRAM, IN A SANDBOX (cutbox-rows.mjs): the forced cells as the released guide's own fill.sh prints them over the translation 39a83c3827e8cf4a… (all of the seat's roots in one cut). By AI agents, Wed Nov 11 2026. No macro, syntax, notation, axiom, sorry.
-/
import Derived.Test.YtjcminooghmpeaaGreatDoorChecked
import GoSem.Claim
import GoSem.ClaimJoined
import GoSem.ClaimMapViews
import Derived.JoinedTies
import Derived.KernelRfl
namespace Go.Proofs.YtjcminooghmpeaaGreatDoor
/- THE CELL 'sum', in the pinned program and in every row, IS THE sha256 OF THE DUMP (.gsa) THAT YtjcminooghmpeaaGreatDoorProg.lean LOADS. Nothing in Lean hashes anything: it is a label: what it is worth is what the hold of that sum in a sandbox is worth. -/
noncomputable def Tryz.pinned : Pinned := { name := "ytjcminooghmpeaagreatdoor", sum := "39a83c3827e8cf4acb62f7c5fd309cf48b462faecb36f4831090ac246215ce26", checked := Tryz.checked }
namespace Rows
def none {H : Type} : Left H := { results := [], args := [] }

/- WHAT THE LISTED PACKAGE-LEVEL VARIABLES READ AS WHEN THE CALL BEGINS. Each datum BY PROGRAM (the guide's laid-datum.mjs) off the statement by which the dump's own 'gosem.cut.vars' lays the variable. In a bare row this is a premise. The card (YtjcminooghmpeaaGreatDoorCards.lean) ties it to the program's text. -/
def laid_errors_errorType {H : Type} : DataW H := .iface "internal/reflectlite.rtype" (.agg [.ptr (.lit (.string [101, 114, 114, 111, 114]))])
def laid_detent_inner_errHalt {H : Type} : DataW H := .iface "*errors.errorString" (.ptr (.agg [.lit (.string [111, 118, 101, 114])]))

/-- 'detentlaw15.OuterUndoes': WHATEVER THE INPUT: true; the input reads as it did. -/
def outerUndoesSpec : ChangeSpec := { name := "outerUndoes", fn := fun _ => fun
  | [d1, d2] => { results := [.lit (.bool true)], args := [d1, d2] }
  | _ => none }
def outerUndoesRow : OpenClaim := { program := "ytjcminooghmpeaagreatdoor", sum := "39a83c3827e8cf4acb62f7c5fd309cf48b462faecb36f4831090ac246215ce26", func := "detent/detentlaw15.OuterUndoes", spec := "outerUndoes", inPlace := ["internal/bytealg.IndexByteString", "internal/reflectlite.ValueOf", "(internal/reflectlite.Value).Type", "(internal/reflectlite.Value).IsNil", "internal/reflectlite.TypeOf", "(internal/reflectlite.Value).Elem", "(internal/reflectlite.Value).Set", "math/bits.Add64", "internal/bytealg.MakeNoZero", "internal/abi.NoEscape"], unfollowed := true, recurses := true, named := ["errors.errorType", "detent/inner.errHalt", "math/bits.divideError", "math/bits.overflowError"], apart := false, laid := [("errors.errorType", laid_errors_errorType), ("detent/inner.errHalt", laid_detent_inner_errHalt)] }
def OuterUndoesSaid : Prop := outerUndoesRow.holds Tryz.pinned (OpenSpec.ofChange outerUndoesSpec)

/-- ITS FALSE NEIGHBOUR: 'it returns false'. Refute it at one input. -/
def outerUndoesWrong : ChangeSpec := { name := "outerUndoes", fn := fun _ => fun
  | [d1, d2] => { results := [.lit (.bool false)], args := [d1, d2] }
  | _ => none }
def OuterUndoesWrongFalsely : Prop := outerUndoesRow.holds Tryz.pinned (OpenSpec.ofChange outerUndoesWrong)

/-- 'detentlaw15.OuterParts': WHATEVER THE INPUT: true; the input reads as it did. -/
def outerPartsSpec : ChangeSpec := { name := "outerParts", fn := fun _ => fun
  | [d1, d2] => { results := [.lit (.bool true)], args := [d1, d2] }
  | _ => none }
def outerPartsRow : OpenClaim := { program := "ytjcminooghmpeaagreatdoor", sum := "39a83c3827e8cf4acb62f7c5fd309cf48b462faecb36f4831090ac246215ce26", func := "detent/detentlaw15.OuterParts", spec := "outerParts", inPlace := ["internal/bytealg.IndexByteString", "internal/reflectlite.ValueOf", "(internal/reflectlite.Value).Type", "(internal/reflectlite.Value).IsNil", "internal/reflectlite.TypeOf", "(internal/reflectlite.Value).Elem", "(internal/reflectlite.Value).Set", "math/bits.Add64", "internal/bytealg.MakeNoZero", "internal/abi.NoEscape"], unfollowed := true, recurses := true, named := ["errors.errorType", "detent/inner.errHalt", "math/bits.divideError", "math/bits.overflowError"], apart := false, laid := [("errors.errorType", laid_errors_errorType), ("detent/inner.errHalt", laid_detent_inner_errHalt)] }
def OuterPartsSaid : Prop := outerPartsRow.holds Tryz.pinned (OpenSpec.ofChange outerPartsSpec)

/-- ITS FALSE NEIGHBOUR: 'it returns false'. Refute it at one input. -/
def outerPartsWrong : ChangeSpec := { name := "outerParts", fn := fun _ => fun
  | [d1, d2] => { results := [.lit (.bool false)], args := [d1, d2] }
  | _ => none }
def OuterPartsWrongFalsely : Prop := outerPartsRow.holds Tryz.pinned (OpenSpec.ofChange outerPartsWrong)

/-- 'detentlaw15.OuterNumbers': WHATEVER THE INPUT: true; the input reads as it did. -/
def outerNumbersSpec : ChangeSpec := { name := "outerNumbers", fn := fun _ => fun
  | [d1, d2] => { results := [.lit (.bool true)], args := [d1, d2] }
  | _ => none }
def outerNumbersRow : OpenClaim := { program := "ytjcminooghmpeaagreatdoor", sum := "39a83c3827e8cf4acb62f7c5fd309cf48b462faecb36f4831090ac246215ce26", func := "detent/detentlaw15.OuterNumbers", spec := "outerNumbers", inPlace := ["internal/bytealg.IndexByteString", "internal/reflectlite.ValueOf", "(internal/reflectlite.Value).Type", "(internal/reflectlite.Value).IsNil", "internal/reflectlite.TypeOf", "(internal/reflectlite.Value).Elem", "(internal/reflectlite.Value).Set", "math/bits.Add64", "internal/bytealg.MakeNoZero", "internal/abi.NoEscape"], unfollowed := true, recurses := true, named := ["errors.errorType", "detent/inner.errHalt", "math/bits.divideError", "math/bits.overflowError"], apart := false, laid := [("errors.errorType", laid_errors_errorType), ("detent/inner.errHalt", laid_detent_inner_errHalt)] }
def OuterNumbersSaid : Prop := outerNumbersRow.holds Tryz.pinned (OpenSpec.ofChange outerNumbersSpec)

/-- ITS FALSE NEIGHBOUR: 'it returns false'. Refute it at one input. -/
def outerNumbersWrong : ChangeSpec := { name := "outerNumbers", fn := fun _ => fun
  | [d1, d2] => { results := [.lit (.bool false)], args := [d1, d2] }
  | _ => none }
def OuterNumbersWrongFalsely : Prop := outerNumbersRow.holds Tryz.pinned (OpenSpec.ofChange outerNumbersWrong)

/-- 'detentlaw15.OuterDefines': WHATEVER THE INPUT: true; the input reads as it did. -/
def outerDefinesSpec : ChangeSpec := { name := "outerDefines", fn := fun _ => fun
  | [d1, d2, d3] => { results := [.lit (.bool true)], args := [d1, d2, d3] }
  | _ => none }
def outerDefinesRow : OpenClaim := { program := "ytjcminooghmpeaagreatdoor", sum := "39a83c3827e8cf4acb62f7c5fd309cf48b462faecb36f4831090ac246215ce26", func := "detent/detentlaw15.OuterDefines", spec := "outerDefines", inPlace := ["internal/bytealg.IndexByteString", "internal/reflectlite.ValueOf", "(internal/reflectlite.Value).Type", "(internal/reflectlite.Value).IsNil", "internal/reflectlite.TypeOf", "(internal/reflectlite.Value).Elem", "(internal/reflectlite.Value).Set", "math/bits.Add64", "internal/bytealg.MakeNoZero", "internal/abi.NoEscape"], unfollowed := true, recurses := true, named := ["errors.errorType", "detent/inner.errHalt", "math/bits.divideError", "math/bits.overflowError"], apart := false, laid := [("errors.errorType", laid_errors_errorType), ("detent/inner.errHalt", laid_detent_inner_errHalt)] }
def OuterDefinesSaid : Prop := outerDefinesRow.holds Tryz.pinned (OpenSpec.ofChange outerDefinesSpec)

/-- ITS FALSE NEIGHBOUR: 'it returns false'. Refute it at one input. -/
def outerDefinesWrong : ChangeSpec := { name := "outerDefines", fn := fun _ => fun
  | [d1, d2, d3] => { results := [.lit (.bool false)], args := [d1, d2, d3] }
  | _ => none }
def OuterDefinesWrongFalsely : Prop := outerDefinesRow.holds Tryz.pinned (OpenSpec.ofChange outerDefinesWrong)

/-- 'detentlaw15.OuterChooses': WHATEVER THE INPUT: true; the input reads as it did. -/
def outerChoosesSpec : ChangeSpec := { name := "outerChooses", fn := fun _ => fun
  | [d1, d2] => { results := [.lit (.bool true)], args := [d1, d2] }
  | _ => none }
def outerChoosesRow : OpenClaim := { program := "ytjcminooghmpeaagreatdoor", sum := "39a83c3827e8cf4acb62f7c5fd309cf48b462faecb36f4831090ac246215ce26", func := "detent/detentlaw15.OuterChooses", spec := "outerChooses", inPlace := ["internal/bytealg.IndexByteString", "internal/reflectlite.ValueOf", "(internal/reflectlite.Value).Type", "(internal/reflectlite.Value).IsNil", "internal/reflectlite.TypeOf", "(internal/reflectlite.Value).Elem", "(internal/reflectlite.Value).Set", "math/bits.Add64", "internal/bytealg.MakeNoZero", "internal/abi.NoEscape"], unfollowed := true, recurses := true, named := ["errors.errorType", "detent/inner.errHalt", "math/bits.divideError", "math/bits.overflowError"], apart := false, laid := [("errors.errorType", laid_errors_errorType), ("detent/inner.errHalt", laid_detent_inner_errHalt)] }
def OuterChoosesSaid : Prop := outerChoosesRow.holds Tryz.pinned (OpenSpec.ofChange outerChoosesSpec)

/-- ITS FALSE NEIGHBOUR: 'it returns false'. Refute it at one input. -/
def outerChoosesWrong : ChangeSpec := { name := "outerChooses", fn := fun _ => fun
  | [d1, d2] => { results := [.lit (.bool false)], args := [d1, d2] }
  | _ => none }
def OuterChoosesWrongFalsely : Prop := outerChoosesRow.holds Tryz.pinned (OpenSpec.ofChange outerChoosesWrong)

/-- 'detentlaw15.OuterTexts': WHATEVER THE INPUT: true; the input reads as it did. -/
def outerTextsSpec : ChangeSpec := { name := "outerTexts", fn := fun _ => fun
  | [d] => { results := [.lit (.bool true)], args := [d] }
  | _ => none }
def outerTextsRow : OpenClaim := { program := "ytjcminooghmpeaagreatdoor", sum := "39a83c3827e8cf4acb62f7c5fd309cf48b462faecb36f4831090ac246215ce26", func := "detent/detentlaw15.OuterTexts", spec := "outerTexts", inPlace := ["internal/bytealg.IndexByteString", "internal/reflectlite.ValueOf", "(internal/reflectlite.Value).Type", "(internal/reflectlite.Value).IsNil", "internal/reflectlite.TypeOf", "(internal/reflectlite.Value).Elem", "(internal/reflectlite.Value).Set", "math/bits.Add64", "internal/bytealg.MakeNoZero", "internal/abi.NoEscape"], unfollowed := true, recurses := true, named := ["errors.errorType", "detent/inner.errHalt", "math/bits.divideError", "math/bits.overflowError"], apart := false, laid := [("errors.errorType", laid_errors_errorType), ("detent/inner.errHalt", laid_detent_inner_errHalt)] }
def OuterTextsSaid : Prop := outerTextsRow.holds Tryz.pinned (OpenSpec.ofChange outerTextsSpec)

/-- ITS FALSE NEIGHBOUR: 'it returns false'. Refute it at one input. -/
def outerTextsWrong : ChangeSpec := { name := "outerTexts", fn := fun _ => fun
  | [d] => { results := [.lit (.bool false)], args := [d] }
  | _ => none }
def OuterTextsWrongFalsely : Prop := outerTextsRow.holds Tryz.pinned (OpenSpec.ofChange outerTextsWrong)

/- THE SECOND FORM. 'bulk': how many values and letters a reading holds, each counted each time it is reached (what is shared counts as often as it is met; a slice's spare places count too). A statement '..UptoSaid' is the law's where the arguments, and the package variables that the reading takes, are together of bulk at most 1048576: NARROWER than '..Said'. Prove '..Said' where nothing that the law and all that it calls make is longer than what came in: it says more and counts as full. Else prove '..UptoSaid'. A law counts once. -/
mutual
def uptoBulk {H : Type} : DataW H → Nat
  | .lit (.string bytes) => bytes.length + 1
  | .lit _ => 1
  | .nil => 1
  | .ptr d => uptoBulk d + 1
  | .slice elems spare => uptoBulkAll elems + uptoBulkAll spare + 1
  | .agg parts => uptoBulkAll parts + 1
  | .iface _ d => uptoBulk d + 1
  | .map entries => uptoBulkEntries entries + 1
  | .held _ => 1
def uptoBulkAll {H : Type} : List (DataW H) → Nat
  | [] => 0
  | d :: r => uptoBulk d + uptoBulkAll r
def uptoBulkEntries {H : Type} : List (Lit × DataW H) → Nat
  | [] => 0
  | x :: r => uptoBulkEntry x + uptoBulkEntries r
def uptoBulkEntry {H : Type} : Lit × DataW H → Nat
  | (.string bytes, d) => bytes.length + uptoBulk d + 1
  | (_, d) => uptoBulk d + 1
 end
def uptoSmall : (H : Type) → List (DataW H) → Bool := fun _ ds => decide (uptoBulkAll ds ≤ 1048576)
def OpenSpec.upto (s : _root_.Go.ChangeSpec) : _root_.Go.OpenSpec := { _root_.Go.OpenSpec.ofChange s with cond := some uptoSmall }

/-- 'detentlaw15.OuterUndoes', WHERE WHAT IT READS IS OF BULK AT MOST 1048576: true; the input reads as it did. -/
def outerUndoesUptoRow : OpenClaim := { program := "ytjcminooghmpeaagreatdoor", sum := "39a83c3827e8cf4acb62f7c5fd309cf48b462faecb36f4831090ac246215ce26", func := "detent/detentlaw15.OuterUndoes", spec := "outerUndoes", inPlace := ["internal/bytealg.IndexByteString", "internal/reflectlite.ValueOf", "(internal/reflectlite.Value).Type", "(internal/reflectlite.Value).IsNil", "internal/reflectlite.TypeOf", "(internal/reflectlite.Value).Elem", "(internal/reflectlite.Value).Set", "math/bits.Add64", "internal/bytealg.MakeNoZero", "internal/abi.NoEscape"], unfollowed := true, recurses := true, named := ["errors.errorType", "detent/inner.errHalt", "math/bits.divideError", "math/bits.overflowError"], apart := false, laid := [("errors.errorType", laid_errors_errorType), ("detent/inner.errHalt", laid_detent_inner_errHalt)], narrowed := true }
def OuterUndoesUptoSaid : Prop := outerUndoesUptoRow.holds Tryz.pinned (OpenSpec.upto outerUndoesSpec)

/-- 'detentlaw15.OuterParts', WHERE WHAT IT READS IS OF BULK AT MOST 1048576: true; the input reads as it did. -/
def outerPartsUptoRow : OpenClaim := { program := "ytjcminooghmpeaagreatdoor", sum := "39a83c3827e8cf4acb62f7c5fd309cf48b462faecb36f4831090ac246215ce26", func := "detent/detentlaw15.OuterParts", spec := "outerParts", inPlace := ["internal/bytealg.IndexByteString", "internal/reflectlite.ValueOf", "(internal/reflectlite.Value).Type", "(internal/reflectlite.Value).IsNil", "internal/reflectlite.TypeOf", "(internal/reflectlite.Value).Elem", "(internal/reflectlite.Value).Set", "math/bits.Add64", "internal/bytealg.MakeNoZero", "internal/abi.NoEscape"], unfollowed := true, recurses := true, named := ["errors.errorType", "detent/inner.errHalt", "math/bits.divideError", "math/bits.overflowError"], apart := false, laid := [("errors.errorType", laid_errors_errorType), ("detent/inner.errHalt", laid_detent_inner_errHalt)], narrowed := true }
def OuterPartsUptoSaid : Prop := outerPartsUptoRow.holds Tryz.pinned (OpenSpec.upto outerPartsSpec)

/-- 'detentlaw15.OuterNumbers', WHERE WHAT IT READS IS OF BULK AT MOST 1048576: true; the input reads as it did. -/
def outerNumbersUptoRow : OpenClaim := { program := "ytjcminooghmpeaagreatdoor", sum := "39a83c3827e8cf4acb62f7c5fd309cf48b462faecb36f4831090ac246215ce26", func := "detent/detentlaw15.OuterNumbers", spec := "outerNumbers", inPlace := ["internal/bytealg.IndexByteString", "internal/reflectlite.ValueOf", "(internal/reflectlite.Value).Type", "(internal/reflectlite.Value).IsNil", "internal/reflectlite.TypeOf", "(internal/reflectlite.Value).Elem", "(internal/reflectlite.Value).Set", "math/bits.Add64", "internal/bytealg.MakeNoZero", "internal/abi.NoEscape"], unfollowed := true, recurses := true, named := ["errors.errorType", "detent/inner.errHalt", "math/bits.divideError", "math/bits.overflowError"], apart := false, laid := [("errors.errorType", laid_errors_errorType), ("detent/inner.errHalt", laid_detent_inner_errHalt)], narrowed := true }
def OuterNumbersUptoSaid : Prop := outerNumbersUptoRow.holds Tryz.pinned (OpenSpec.upto outerNumbersSpec)

/-- 'detentlaw15.OuterDefines', WHERE WHAT IT READS IS OF BULK AT MOST 1048576: true; the input reads as it did. -/
def outerDefinesUptoRow : OpenClaim := { program := "ytjcminooghmpeaagreatdoor", sum := "39a83c3827e8cf4acb62f7c5fd309cf48b462faecb36f4831090ac246215ce26", func := "detent/detentlaw15.OuterDefines", spec := "outerDefines", inPlace := ["internal/bytealg.IndexByteString", "internal/reflectlite.ValueOf", "(internal/reflectlite.Value).Type", "(internal/reflectlite.Value).IsNil", "internal/reflectlite.TypeOf", "(internal/reflectlite.Value).Elem", "(internal/reflectlite.Value).Set", "math/bits.Add64", "internal/bytealg.MakeNoZero", "internal/abi.NoEscape"], unfollowed := true, recurses := true, named := ["errors.errorType", "detent/inner.errHalt", "math/bits.divideError", "math/bits.overflowError"], apart := false, laid := [("errors.errorType", laid_errors_errorType), ("detent/inner.errHalt", laid_detent_inner_errHalt)], narrowed := true }
def OuterDefinesUptoSaid : Prop := outerDefinesUptoRow.holds Tryz.pinned (OpenSpec.upto outerDefinesSpec)

/-- 'detentlaw15.OuterChooses', WHERE WHAT IT READS IS OF BULK AT MOST 1048576: true; the input reads as it did. -/
def outerChoosesUptoRow : OpenClaim := { program := "ytjcminooghmpeaagreatdoor", sum := "39a83c3827e8cf4acb62f7c5fd309cf48b462faecb36f4831090ac246215ce26", func := "detent/detentlaw15.OuterChooses", spec := "outerChooses", inPlace := ["internal/bytealg.IndexByteString", "internal/reflectlite.ValueOf", "(internal/reflectlite.Value).Type", "(internal/reflectlite.Value).IsNil", "internal/reflectlite.TypeOf", "(internal/reflectlite.Value).Elem", "(internal/reflectlite.Value).Set", "math/bits.Add64", "internal/bytealg.MakeNoZero", "internal/abi.NoEscape"], unfollowed := true, recurses := true, named := ["errors.errorType", "detent/inner.errHalt", "math/bits.divideError", "math/bits.overflowError"], apart := false, laid := [("errors.errorType", laid_errors_errorType), ("detent/inner.errHalt", laid_detent_inner_errHalt)], narrowed := true }
def OuterChoosesUptoSaid : Prop := outerChoosesUptoRow.holds Tryz.pinned (OpenSpec.upto outerChoosesSpec)

/-- 'detentlaw15.OuterTexts', WHERE WHAT IT READS IS OF BULK AT MOST 1048576: true; the input reads as it did. -/
def outerTextsUptoRow : OpenClaim := { program := "ytjcminooghmpeaagreatdoor", sum := "39a83c3827e8cf4acb62f7c5fd309cf48b462faecb36f4831090ac246215ce26", func := "detent/detentlaw15.OuterTexts", spec := "outerTexts", inPlace := ["internal/bytealg.IndexByteString", "internal/reflectlite.ValueOf", "(internal/reflectlite.Value).Type", "(internal/reflectlite.Value).IsNil", "internal/reflectlite.TypeOf", "(internal/reflectlite.Value).Elem", "(internal/reflectlite.Value).Set", "math/bits.Add64", "internal/bytealg.MakeNoZero", "internal/abi.NoEscape"], unfollowed := true, recurses := true, named := ["errors.errorType", "detent/inner.errHalt", "math/bits.divideError", "math/bits.overflowError"], apart := false, laid := [("errors.errorType", laid_errors_errorType), ("detent/inner.errHalt", laid_detent_inner_errHalt)], narrowed := true }
def OuterTextsUptoSaid : Prop := outerTextsUptoRow.holds Tryz.pinned (OpenSpec.upto outerTextsSpec)

end Rows
end Go.Proofs.YtjcminooghmpeaaGreatDoor
