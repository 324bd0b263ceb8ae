/-
  No cell of these rows narrows 'for every input' (looked for: loops, veiled, ifaces, maps, wideKeys, modest, calm, conditions, laid).
  DERIVED. THE GIVEN ROWS OF THIS SEAT. 20 by the template 'for every input the law returns true; each argument reads behind the call as it read before'; 0 by the template 'total and deterministic' (their statements: YtpjhgokdkgnbdaaTotals.lean).
  GIVEN WITH THE SEED: the statements are not yours to turn. If you find one false, say at which input.
  Laid BY PROGRAM, IN A SANDBOX (cutbox-rows.mjs): the forced cells as the released guide's own fill.sh prints them over the translation 32a74c2db106a341… (all of the seat's roots in one cut). By AI agents, Wed Nov 11 2026. No macro, syntax, notation, axiom, sorry.
-/
import Derived.Test.YtpjhgokdkgnbdaaChecked
import GoSem.Claim
import GoSem.ClaimJoined
import GoSem.ClaimMapViews
import Derived.JoinedTies
import Derived.KernelRfl
namespace Go.Proofs.Ytpjhgokdkgnbdaa
/- THE CELL 'sum', in the pinned program and in every row, IS THE sha256 OF THE DUMP (.gsa) THAT YtpjhgokdkgnbdaaProg.lean LOADS. Nothing in Lean hashes anything: it is a label: what it is worth is what the hold of that sum in a sandbox is worth. -/
noncomputable def Try.pinned : Pinned := { name := "ytpjhgokdkgnbdaa", sum := "32a74c2db106a34154d223bcbb3d3ee1931bcdd6244922910328605a26036c20", checked := Try.checked }
namespace Rows
def none {H : Type} : Left H := { results := [], args := [] }

/-- 'detentlaw07.PicTells': WHATEVER THE INPUT: true; the input reads as it did. -/
def picTellsSpec : ChangeSpec := { name := "picTells", fn := fun _ => fun
  | [d1, d2] => { results := [.lit (.bool true)], args := [d1, d2] }
  | _ => none }
def picTellsRow : OpenClaim := { program := "ytpjhgokdkgnbdaa", sum := "32a74c2db106a34154d223bcbb3d3ee1931bcdd6244922910328605a26036c20", func := "detent/detentlaw07.PicTells", spec := "picTells", unfollowed := true, recurses := true, named := ["math/bits.divideError", "math/bits.overflowError"], apart := false }
def PicTellsSaid : Prop := picTellsRow.holds Try.pinned (OpenSpec.ofChange picTellsSpec)

/-- ITS FALSE NEIGHBOUR: 'it returns false'. Refute it at one input. -/
def picTellsWrong : ChangeSpec := { name := "picTells", fn := fun _ => fun
  | [d1, d2] => { results := [.lit (.bool false)], args := [d1, d2] }
  | _ => none }
def PicTellsWrongFalsely : Prop := picTellsRow.holds Try.pinned (OpenSpec.ofChange picTellsWrong)

/-- 'detentlaw07.PicLays': WHATEVER THE INPUT: true; the input reads as it did. -/
def picLaysSpec : ChangeSpec := { name := "picLays", fn := fun _ => fun
  | [d] => { results := [.lit (.bool true)], args := [d] }
  | _ => none }
def picLaysRow : OpenClaim := { program := "ytpjhgokdkgnbdaa", sum := "32a74c2db106a34154d223bcbb3d3ee1931bcdd6244922910328605a26036c20", func := "detent/detentlaw07.PicLays", spec := "picLays", unfollowed := true, recurses := true, named := ["math/bits.divideError", "math/bits.overflowError"], apart := false }
def PicLaysSaid : Prop := picLaysRow.holds Try.pinned (OpenSpec.ofChange picLaysSpec)

/-- ITS FALSE NEIGHBOUR: 'it returns false'. Refute it at one input. -/
def picLaysWrong : ChangeSpec := { name := "picLays", fn := fun _ => fun
  | [d] => { results := [.lit (.bool false)], args := [d] }
  | _ => none }
def PicLaysWrongFalsely : Prop := picLaysRow.holds Try.pinned (OpenSpec.ofChange picLaysWrong)

/-- 'detentlaw07.PicShows': WHATEVER THE INPUT: true; the input reads as it did. -/
def picShowsSpec : ChangeSpec := { name := "picShows", fn := fun _ => fun
  | [d1, d2] => { results := [.lit (.bool true)], args := [d1, d2] }
  | _ => none }
def picShowsRow : OpenClaim := { program := "ytpjhgokdkgnbdaa", sum := "32a74c2db106a34154d223bcbb3d3ee1931bcdd6244922910328605a26036c20", func := "detent/detentlaw07.PicShows", spec := "picShows", unfollowed := true, recurses := true, named := ["math/bits.divideError", "math/bits.overflowError"], apart := false }
def PicShowsSaid : Prop := picShowsRow.holds Try.pinned (OpenSpec.ofChange picShowsSpec)

/-- ITS FALSE NEIGHBOUR: 'it returns false'. Refute it at one input. -/
def picShowsWrong : ChangeSpec := { name := "picShows", fn := fun _ => fun
  | [d1, d2] => { results := [.lit (.bool false)], args := [d1, d2] }
  | _ => none }
def PicShowsWrongFalsely : Prop := picShowsRow.holds Try.pinned (OpenSpec.ofChange picShowsWrong)

/-- 'detentlaw07.PicDigits': WHATEVER THE INPUT: true; the input reads as it did. -/
def picDigitsSpec : ChangeSpec := { name := "picDigits", fn := fun _ => fun
  | [d1, d2, d3] => { results := [.lit (.bool true)], args := [d1, d2, d3] }
  | _ => none }
def picDigitsRow : OpenClaim := { program := "ytpjhgokdkgnbdaa", sum := "32a74c2db106a34154d223bcbb3d3ee1931bcdd6244922910328605a26036c20", func := "detent/detentlaw07.PicDigits", spec := "picDigits", unfollowed := true, recurses := true, named := ["math/bits.divideError", "math/bits.overflowError"], apart := false }
def PicDigitsSaid : Prop := picDigitsRow.holds Try.pinned (OpenSpec.ofChange picDigitsSpec)

/-- ITS FALSE NEIGHBOUR: 'it returns false'. Refute it at one input. -/
def picDigitsWrong : ChangeSpec := { name := "picDigits", fn := fun _ => fun
  | [d1, d2, d3] => { results := [.lit (.bool false)], args := [d1, d2, d3] }
  | _ => none }
def PicDigitsWrongFalsely : Prop := picDigitsRow.holds Try.pinned (OpenSpec.ofChange picDigitsWrong)

/-- 'detentlaw07.PicOrder': WHATEVER THE INPUT: true; the input reads as it did. -/
def picOrderSpec : ChangeSpec := { name := "picOrder", fn := fun _ => fun
  | [d1, d2] => { results := [.lit (.bool true)], args := [d1, d2] }
  | _ => none }
def picOrderRow : OpenClaim := { program := "ytpjhgokdkgnbdaa", sum := "32a74c2db106a34154d223bcbb3d3ee1931bcdd6244922910328605a26036c20", func := "detent/detentlaw07.PicOrder", spec := "picOrder", unfollowed := true, recurses := true, named := ["math/bits.divideError", "math/bits.overflowError"], apart := false }
def PicOrderSaid : Prop := picOrderRow.holds Try.pinned (OpenSpec.ofChange picOrderSpec)

/-- ITS FALSE NEIGHBOUR: 'it returns false'. Refute it at one input. -/
def picOrderWrong : ChangeSpec := { name := "picOrder", fn := fun _ => fun
  | [d1, d2] => { results := [.lit (.bool false)], args := [d1, d2] }
  | _ => none }
def PicOrderWrongFalsely : Prop := picOrderRow.holds Try.pinned (OpenSpec.ofChange picOrderWrong)

/-- 'detentlaw07.PicSteps': WHATEVER THE INPUT: true; the input reads as it did. -/
def picStepsSpec : ChangeSpec := { name := "picSteps", fn := fun _ => fun
  | [d] => { results := [.lit (.bool true)], args := [d] }
  | _ => none }
def picStepsRow : OpenClaim := { program := "ytpjhgokdkgnbdaa", sum := "32a74c2db106a34154d223bcbb3d3ee1931bcdd6244922910328605a26036c20", func := "detent/detentlaw07.PicSteps", spec := "picSteps", unfollowed := true, recurses := true, named := ["math/bits.divideError", "math/bits.overflowError"], apart := false }
def PicStepsSaid : Prop := picStepsRow.holds Try.pinned (OpenSpec.ofChange picStepsSpec)

/-- ITS FALSE NEIGHBOUR: 'it returns false'. Refute it at one input. -/
def picStepsWrong : ChangeSpec := { name := "picSteps", fn := fun _ => fun
  | [d] => { results := [.lit (.bool false)], args := [d] }
  | _ => none }
def PicStepsWrongFalsely : Prop := picStepsRow.holds Try.pinned (OpenSpec.ofChange picStepsWrong)

/-- 'detentlaw06.NumTells': WHATEVER THE INPUT: true; the input reads as it did. -/
def numTellsSpec : ChangeSpec := { name := "numTells", fn := fun _ => fun
  | [d] => { results := [.lit (.bool true)], args := [d] }
  | _ => none }
def numTellsRow : OpenClaim := { program := "ytpjhgokdkgnbdaa", sum := "32a74c2db106a34154d223bcbb3d3ee1931bcdd6244922910328605a26036c20", func := "detent/detentlaw06.NumTells", spec := "numTells", named := ["math/bits.divideError", "math/bits.overflowError"], apart := false }
def NumTellsSaid : Prop := numTellsRow.holds Try.pinned (OpenSpec.ofChange numTellsSpec)

/-- ITS FALSE NEIGHBOUR: 'it returns false'. Refute it at one input. -/
def numTellsWrong : ChangeSpec := { name := "numTells", fn := fun _ => fun
  | [d] => { results := [.lit (.bool false)], args := [d] }
  | _ => none }
def NumTellsWrongFalsely : Prop := numTellsRow.holds Try.pinned (OpenSpec.ofChange numTellsWrong)

/-- 'detentlaw06.NumBack': WHATEVER THE INPUT: true; the input reads as it did. -/
def numBackSpec : ChangeSpec := { name := "numBack", fn := fun _ => fun
  | [d] => { results := [.lit (.bool true)], args := [d] }
  | _ => none }
def numBackRow : OpenClaim := { program := "ytpjhgokdkgnbdaa", sum := "32a74c2db106a34154d223bcbb3d3ee1931bcdd6244922910328605a26036c20", func := "detent/detentlaw06.NumBack", spec := "numBack", named := ["math/bits.divideError", "math/bits.overflowError"], apart := false }
def NumBackSaid : Prop := numBackRow.holds Try.pinned (OpenSpec.ofChange numBackSpec)

/-- ITS FALSE NEIGHBOUR: 'it returns false'. Refute it at one input. -/
def numBackWrong : ChangeSpec := { name := "numBack", fn := fun _ => fun
  | [d] => { results := [.lit (.bool false)], args := [d] }
  | _ => none }
def NumBackWrongFalsely : Prop := numBackRow.holds Try.pinned (OpenSpec.ofChange numBackWrong)

/-- 'detentlaw06.NumForms': WHATEVER THE INPUT: true; the input reads as it did. -/
def numFormsSpec : ChangeSpec := { name := "numForms", fn := fun _ => fun
  | [d1, d2] => { results := [.lit (.bool true)], args := [d1, d2] }
  | _ => none }
def numFormsRow : OpenClaim := { program := "ytpjhgokdkgnbdaa", sum := "32a74c2db106a34154d223bcbb3d3ee1931bcdd6244922910328605a26036c20", func := "detent/detentlaw06.NumForms", spec := "numForms", named := ["math/bits.divideError", "math/bits.overflowError"], apart := false }
def NumFormsSaid : Prop := numFormsRow.holds Try.pinned (OpenSpec.ofChange numFormsSpec)

/-- ITS FALSE NEIGHBOUR: 'it returns false'. Refute it at one input. -/
def numFormsWrong : ChangeSpec := { name := "numForms", fn := fun _ => fun
  | [d1, d2] => { results := [.lit (.bool false)], args := [d1, d2] }
  | _ => none }
def NumFormsWrongFalsely : Prop := numFormsRow.holds Try.pinned (OpenSpec.ofChange numFormsWrong)

/-- 'detentlaw06.NumDigits': WHATEVER THE INPUT: true; the input reads as it did. -/
def numDigitsSpec : ChangeSpec := { name := "numDigits", fn := fun _ => fun
  | [d1, d2, d3] => { results := [.lit (.bool true)], args := [d1, d2, d3] }
  | _ => none }
def numDigitsRow : OpenClaim := { program := "ytpjhgokdkgnbdaa", sum := "32a74c2db106a34154d223bcbb3d3ee1931bcdd6244922910328605a26036c20", func := "detent/detentlaw06.NumDigits", spec := "numDigits", named := ["math/bits.divideError", "math/bits.overflowError"], apart := false }
def NumDigitsSaid : Prop := numDigitsRow.holds Try.pinned (OpenSpec.ofChange numDigitsSpec)

/-- ITS FALSE NEIGHBOUR: 'it returns false'. Refute it at one input. -/
def numDigitsWrong : ChangeSpec := { name := "numDigits", fn := fun _ => fun
  | [d1, d2, d3] => { results := [.lit (.bool false)], args := [d1, d2, d3] }
  | _ => none }
def NumDigitsWrongFalsely : Prop := numDigitsRow.holds Try.pinned (OpenSpec.ofChange numDigitsWrong)

/-- 'detentlaw06.NumLong': WHATEVER THE INPUT: true; the input reads as it did. -/
def numLongSpec : ChangeSpec := { name := "numLong", fn := fun _ => fun
  | [d1, d2] => { results := [.lit (.bool true)], args := [d1, d2] }
  | _ => none }
def numLongRow : OpenClaim := { program := "ytpjhgokdkgnbdaa", sum := "32a74c2db106a34154d223bcbb3d3ee1931bcdd6244922910328605a26036c20", func := "detent/detentlaw06.NumLong", spec := "numLong", named := ["math/bits.divideError", "math/bits.overflowError"], apart := false }
def NumLongSaid : Prop := numLongRow.holds Try.pinned (OpenSpec.ofChange numLongSpec)

/-- ITS FALSE NEIGHBOUR: 'it returns false'. Refute it at one input. -/
def numLongWrong : ChangeSpec := { name := "numLong", fn := fun _ => fun
  | [d1, d2] => { results := [.lit (.bool false)], args := [d1, d2] }
  | _ => none }
def NumLongWrongFalsely : Prop := numLongRow.holds Try.pinned (OpenSpec.ofChange numLongWrong)

/-- 'detentlaw01.CellBytes': WHATEVER THE INPUT: true; the input reads as it did. -/
def cellBytesSpec : ChangeSpec := { name := "cellBytes", fn := fun _ => fun
  | [d1, d2, d3] => { results := [.lit (.bool true)], args := [d1, d2, d3] }
  | _ => none }
def cellBytesRow : OpenClaim := { program := "ytpjhgokdkgnbdaa", sum := "32a74c2db106a34154d223bcbb3d3ee1931bcdd6244922910328605a26036c20", func := "detent/detentlaw01.CellBytes", spec := "cellBytes", inPlace := ["math/bits.Add64"], named := ["math/bits.divideError", "math/bits.overflowError"], apart := false }
def CellBytesSaid : Prop := cellBytesRow.holds Try.pinned (OpenSpec.ofChange cellBytesSpec)

/-- ITS FALSE NEIGHBOUR: 'it returns false'. Refute it at one input. -/
def cellBytesWrong : ChangeSpec := { name := "cellBytes", fn := fun _ => fun
  | [d1, d2, d3] => { results := [.lit (.bool false)], args := [d1, d2, d3] }
  | _ => none }
def CellBytesWrongFalsely : Prop := cellBytesRow.holds Try.pinned (OpenSpec.ofChange cellBytesWrong)

/-- 'detentlaw01.CellReckons': WHATEVER THE INPUT: true; the input reads as it did. -/
def cellReckonsSpec : ChangeSpec := { name := "cellReckons", fn := fun _ => fun
  | [d1, d2] => { results := [.lit (.bool true)], args := [d1, d2] }
  | _ => none }
def cellReckonsRow : OpenClaim := { program := "ytpjhgokdkgnbdaa", sum := "32a74c2db106a34154d223bcbb3d3ee1931bcdd6244922910328605a26036c20", func := "detent/detentlaw01.CellReckons", spec := "cellReckons", inPlace := ["math/bits.Add64"], named := ["math/bits.divideError", "math/bits.overflowError"], apart := false }
def CellReckonsSaid : Prop := cellReckonsRow.holds Try.pinned (OpenSpec.ofChange cellReckonsSpec)

/-- ITS FALSE NEIGHBOUR: 'it returns false'. Refute it at one input. -/
def cellReckonsWrong : ChangeSpec := { name := "cellReckons", fn := fun _ => fun
  | [d1, d2] => { results := [.lit (.bool false)], args := [d1, d2] }
  | _ => none }
def CellReckonsWrongFalsely : Prop := cellReckonsRow.holds Try.pinned (OpenSpec.ofChange cellReckonsWrong)

/-- 'detentlaw01.CellDivides': WHATEVER THE INPUT: true; the input reads as it did. -/
def cellDividesSpec : ChangeSpec := { name := "cellDivides", fn := fun _ => fun
  | [d1, d2, d3] => { results := [.lit (.bool true)], args := [d1, d2, d3] }
  | _ => none }
def cellDividesRow : OpenClaim := { program := "ytpjhgokdkgnbdaa", sum := "32a74c2db106a34154d223bcbb3d3ee1931bcdd6244922910328605a26036c20", func := "detent/detentlaw01.CellDivides", spec := "cellDivides", inPlace := ["math/bits.Add64"], named := ["math/bits.divideError", "math/bits.overflowError"], apart := false }
def CellDividesSaid : Prop := cellDividesRow.holds Try.pinned (OpenSpec.ofChange cellDividesSpec)

/-- ITS FALSE NEIGHBOUR: 'it returns false'. Refute it at one input. -/
def cellDividesWrong : ChangeSpec := { name := "cellDivides", fn := fun _ => fun
  | [d1, d2, d3] => { results := [.lit (.bool false)], args := [d1, d2, d3] }
  | _ => none }
def CellDividesWrongFalsely : Prop := cellDividesRow.holds Try.pinned (OpenSpec.ofChange cellDividesWrong)

/-- 'detentlaw01.CellBack': WHATEVER THE INPUT: true; the input reads as it did. -/
def cellBackSpec : ChangeSpec := { name := "cellBack", fn := fun _ => fun
  | [d1, d2, d3] => { results := [.lit (.bool true)], args := [d1, d2, d3] }
  | _ => none }
def cellBackRow : OpenClaim := { program := "ytpjhgokdkgnbdaa", sum := "32a74c2db106a34154d223bcbb3d3ee1931bcdd6244922910328605a26036c20", func := "detent/detentlaw01.CellBack", spec := "cellBack", inPlace := ["math/bits.Add64"], named := ["math/bits.divideError", "math/bits.overflowError"], apart := false }
def CellBackSaid : Prop := cellBackRow.holds Try.pinned (OpenSpec.ofChange cellBackSpec)

/-- ITS FALSE NEIGHBOUR: 'it returns false'. Refute it at one input. -/
def cellBackWrong : ChangeSpec := { name := "cellBack", fn := fun _ => fun
  | [d1, d2, d3] => { results := [.lit (.bool false)], args := [d1, d2, d3] }
  | _ => none }
def CellBackWrongFalsely : Prop := cellBackRow.holds Try.pinned (OpenSpec.ofChange cellBackWrong)

/-- 'detentlaw01.CellParts': WHATEVER THE INPUT: true; the input reads as it did. -/
def cellPartsSpec : ChangeSpec := { name := "cellParts", fn := fun _ => fun
  | [d1, d2] => { results := [.lit (.bool true)], args := [d1, d2] }
  | _ => none }
def cellPartsRow : OpenClaim := { program := "ytpjhgokdkgnbdaa", sum := "32a74c2db106a34154d223bcbb3d3ee1931bcdd6244922910328605a26036c20", func := "detent/detentlaw01.CellParts", spec := "cellParts", inPlace := ["math/bits.Add64"], named := ["math/bits.divideError", "math/bits.overflowError"], apart := false }
def CellPartsSaid : Prop := cellPartsRow.holds Try.pinned (OpenSpec.ofChange cellPartsSpec)

/-- ITS FALSE NEIGHBOUR: 'it returns false'. Refute it at one input. -/
def cellPartsWrong : ChangeSpec := { name := "cellParts", fn := fun _ => fun
  | [d1, d2] => { results := [.lit (.bool false)], args := [d1, d2] }
  | _ => none }
def CellPartsWrongFalsely : Prop := cellPartsRow.holds Try.pinned (OpenSpec.ofChange cellPartsWrong)

/-- 'detentlaw01.CellProducts': WHATEVER THE INPUT: true; the input reads as it did. -/
def cellProductsSpec : ChangeSpec := { name := "cellProducts", fn := fun _ => fun
  | [d1, d2, d3] => { results := [.lit (.bool true)], args := [d1, d2, d3] }
  | _ => none }
def cellProductsRow : OpenClaim := { program := "ytpjhgokdkgnbdaa", sum := "32a74c2db106a34154d223bcbb3d3ee1931bcdd6244922910328605a26036c20", func := "detent/detentlaw01.CellProducts", spec := "cellProducts", inPlace := ["math/bits.Add64"], named := ["math/bits.divideError", "math/bits.overflowError"], apart := false }
def CellProductsSaid : Prop := cellProductsRow.holds Try.pinned (OpenSpec.ofChange cellProductsSpec)

/-- ITS FALSE NEIGHBOUR: 'it returns false'. Refute it at one input. -/
def cellProductsWrong : ChangeSpec := { name := "cellProducts", fn := fun _ => fun
  | [d1, d2, d3] => { results := [.lit (.bool false)], args := [d1, d2, d3] }
  | _ => none }
def CellProductsWrongFalsely : Prop := cellProductsRow.holds Try.pinned (OpenSpec.ofChange cellProductsWrong)

/-- 'detentlaw01.CellSides': WHATEVER THE INPUT: true; the input reads as it did. -/
def cellSidesSpec : ChangeSpec := { name := "cellSides", fn := fun _ => fun
  | [d1, d2, d3] => { results := [.lit (.bool true)], args := [d1, d2, d3] }
  | _ => none }
def cellSidesRow : OpenClaim := { program := "ytpjhgokdkgnbdaa", sum := "32a74c2db106a34154d223bcbb3d3ee1931bcdd6244922910328605a26036c20", func := "detent/detentlaw01.CellSides", spec := "cellSides", inPlace := ["math/bits.Add64"], named := ["math/bits.divideError", "math/bits.overflowError"], apart := false }
def CellSidesSaid : Prop := cellSidesRow.holds Try.pinned (OpenSpec.ofChange cellSidesSpec)

/-- ITS FALSE NEIGHBOUR: 'it returns false'. Refute it at one input. -/
def cellSidesWrong : ChangeSpec := { name := "cellSides", fn := fun _ => fun
  | [d1, d2, d3] => { results := [.lit (.bool false)], args := [d1, d2, d3] }
  | _ => none }
def CellSidesWrongFalsely : Prop := cellSidesRow.holds Try.pinned (OpenSpec.ofChange cellSidesWrong)

/-- 'detentlaw01.CellOne': WHATEVER THE INPUT: true; the input reads as it did. -/
def cellOneSpec : ChangeSpec := { name := "cellOne", fn := fun _ => fun
  | [d1, d2] => { results := [.lit (.bool true)], args := [d1, d2] }
  | _ => none }
def cellOneRow : OpenClaim := { program := "ytpjhgokdkgnbdaa", sum := "32a74c2db106a34154d223bcbb3d3ee1931bcdd6244922910328605a26036c20", func := "detent/detentlaw01.CellOne", spec := "cellOne", inPlace := ["math/bits.Add64"], named := ["math/bits.divideError", "math/bits.overflowError"], apart := false }
def CellOneSaid : Prop := cellOneRow.holds Try.pinned (OpenSpec.ofChange cellOneSpec)

/-- ITS FALSE NEIGHBOUR: 'it returns false'. Refute it at one input. -/
def cellOneWrong : ChangeSpec := { name := "cellOne", fn := fun _ => fun
  | [d1, d2] => { results := [.lit (.bool false)], args := [d1, d2] }
  | _ => none }
def CellOneWrongFalsely : Prop := cellOneRow.holds Try.pinned (OpenSpec.ofChange cellOneWrong)

/-- 'detentlaw01.CellSigns': WHATEVER THE INPUT: true; the input reads as it did. -/
def cellSignsSpec : ChangeSpec := { name := "cellSigns", fn := fun _ => fun
  | [d1, d2] => { results := [.lit (.bool true)], args := [d1, d2] }
  | _ => none }
def cellSignsRow : OpenClaim := { program := "ytpjhgokdkgnbdaa", sum := "32a74c2db106a34154d223bcbb3d3ee1931bcdd6244922910328605a26036c20", func := "detent/detentlaw01.CellSigns", spec := "cellSigns", inPlace := ["math/bits.Add64"], named := ["math/bits.divideError", "math/bits.overflowError"], apart := false }
def CellSignsSaid : Prop := cellSignsRow.holds Try.pinned (OpenSpec.ofChange cellSignsSpec)

/-- ITS FALSE NEIGHBOUR: 'it returns false'. Refute it at one input. -/
def cellSignsWrong : ChangeSpec := { name := "cellSigns", fn := fun _ => fun
  | [d1, d2] => { results := [.lit (.bool false)], args := [d1, d2] }
  | _ => none }
def CellSignsWrongFalsely : Prop := cellSignsRow.holds Try.pinned (OpenSpec.ofChange cellSignsWrong)

/- THE SECOND FORM. 'bulk': how many values and letters a reading holds, each counted each time it is reached (what is shared counts as often as it is met; a slice's spare places count too). A statement '..UptoSaid' is the law's where the arguments, and the package variables that the reading takes, are together of bulk at most 1048576: NARROWER than '..Said'. Prove '..Said' where nothing that the law and all that it calls make is longer than what came in: it says more and counts as full. Else prove '..UptoSaid'. A law counts once. -/
mutual
def uptoBulk {H : Type} : DataW H → Nat
  | .lit (.string bytes) => bytes.length + 1
  | .lit _ => 1
  | .nil => 1
  | .ptr d => uptoBulk d + 1
  | .slice elems spare => uptoBulkAll elems + uptoBulkAll spare + 1
  | .agg parts => uptoBulkAll parts + 1
  | .iface _ d => uptoBulk d + 1
  | .map entries => uptoBulkEntries entries + 1
  | .held _ => 1
def uptoBulkAll {H : Type} : List (DataW H) → Nat
  | [] => 0
  | d :: r => uptoBulk d + uptoBulkAll r
def uptoBulkEntries {H : Type} : List (Lit × DataW H) → Nat
  | [] => 0
  | x :: r => uptoBulkEntry x + uptoBulkEntries r
def uptoBulkEntry {H : Type} : Lit × DataW H → Nat
  | (.string bytes, d) => bytes.length + uptoBulk d + 1
  | (_, d) => uptoBulk d + 1
 end
def uptoSmall : (H : Type) → List (DataW H) → Bool := fun _ ds => decide (uptoBulkAll ds ≤ 1048576)
def OpenSpec.upto (s : _root_.Go.ChangeSpec) : _root_.Go.OpenSpec := { _root_.Go.OpenSpec.ofChange s with cond := some uptoSmall }

/-- 'detentlaw07.PicTells', WHERE WHAT IT READS IS OF BULK AT MOST 1048576: true; the input reads as it did. -/
def picTellsUptoRow : OpenClaim := { program := "ytpjhgokdkgnbdaa", sum := "32a74c2db106a34154d223bcbb3d3ee1931bcdd6244922910328605a26036c20", func := "detent/detentlaw07.PicTells", spec := "picTells", unfollowed := true, recurses := true, named := ["math/bits.divideError", "math/bits.overflowError"], apart := false, narrowed := true }
def PicTellsUptoSaid : Prop := picTellsUptoRow.holds Try.pinned (OpenSpec.upto picTellsSpec)

/-- 'detentlaw07.PicLays', WHERE WHAT IT READS IS OF BULK AT MOST 1048576: true; the input reads as it did. -/
def picLaysUptoRow : OpenClaim := { program := "ytpjhgokdkgnbdaa", sum := "32a74c2db106a34154d223bcbb3d3ee1931bcdd6244922910328605a26036c20", func := "detent/detentlaw07.PicLays", spec := "picLays", unfollowed := true, recurses := true, named := ["math/bits.divideError", "math/bits.overflowError"], apart := false, narrowed := true }
def PicLaysUptoSaid : Prop := picLaysUptoRow.holds Try.pinned (OpenSpec.upto picLaysSpec)

/-- 'detentlaw07.PicShows', WHERE WHAT IT READS IS OF BULK AT MOST 1048576: true; the input reads as it did. -/
def picShowsUptoRow : OpenClaim := { program := "ytpjhgokdkgnbdaa", sum := "32a74c2db106a34154d223bcbb3d3ee1931bcdd6244922910328605a26036c20", func := "detent/detentlaw07.PicShows", spec := "picShows", unfollowed := true, recurses := true, named := ["math/bits.divideError", "math/bits.overflowError"], apart := false, narrowed := true }
def PicShowsUptoSaid : Prop := picShowsUptoRow.holds Try.pinned (OpenSpec.upto picShowsSpec)

/-- 'detentlaw07.PicDigits', WHERE WHAT IT READS IS OF BULK AT MOST 1048576: true; the input reads as it did. -/
def picDigitsUptoRow : OpenClaim := { program := "ytpjhgokdkgnbdaa", sum := "32a74c2db106a34154d223bcbb3d3ee1931bcdd6244922910328605a26036c20", func := "detent/detentlaw07.PicDigits", spec := "picDigits", unfollowed := true, recurses := true, named := ["math/bits.divideError", "math/bits.overflowError"], apart := false, narrowed := true }
def PicDigitsUptoSaid : Prop := picDigitsUptoRow.holds Try.pinned (OpenSpec.upto picDigitsSpec)

/-- 'detentlaw07.PicOrder', WHERE WHAT IT READS IS OF BULK AT MOST 1048576: true; the input reads as it did. -/
def picOrderUptoRow : OpenClaim := { program := "ytpjhgokdkgnbdaa", sum := "32a74c2db106a34154d223bcbb3d3ee1931bcdd6244922910328605a26036c20", func := "detent/detentlaw07.PicOrder", spec := "picOrder", unfollowed := true, recurses := true, named := ["math/bits.divideError", "math/bits.overflowError"], apart := false, narrowed := true }
def PicOrderUptoSaid : Prop := picOrderUptoRow.holds Try.pinned (OpenSpec.upto picOrderSpec)

/-- 'detentlaw07.PicSteps', WHERE WHAT IT READS IS OF BULK AT MOST 1048576: true; the input reads as it did. -/
def picStepsUptoRow : OpenClaim := { program := "ytpjhgokdkgnbdaa", sum := "32a74c2db106a34154d223bcbb3d3ee1931bcdd6244922910328605a26036c20", func := "detent/detentlaw07.PicSteps", spec := "picSteps", unfollowed := true, recurses := true, named := ["math/bits.divideError", "math/bits.overflowError"], apart := false, narrowed := true }
def PicStepsUptoSaid : Prop := picStepsUptoRow.holds Try.pinned (OpenSpec.upto picStepsSpec)

/-- 'detentlaw06.NumTells', WHERE WHAT IT READS IS OF BULK AT MOST 1048576: true; the input reads as it did. -/
def numTellsUptoRow : OpenClaim := { program := "ytpjhgokdkgnbdaa", sum := "32a74c2db106a34154d223bcbb3d3ee1931bcdd6244922910328605a26036c20", func := "detent/detentlaw06.NumTells", spec := "numTells", named := ["math/bits.divideError", "math/bits.overflowError"], apart := false, narrowed := true }
def NumTellsUptoSaid : Prop := numTellsUptoRow.holds Try.pinned (OpenSpec.upto numTellsSpec)

/-- 'detentlaw06.NumBack', WHERE WHAT IT READS IS OF BULK AT MOST 1048576: true; the input reads as it did. -/
def numBackUptoRow : OpenClaim := { program := "ytpjhgokdkgnbdaa", sum := "32a74c2db106a34154d223bcbb3d3ee1931bcdd6244922910328605a26036c20", func := "detent/detentlaw06.NumBack", spec := "numBack", named := ["math/bits.divideError", "math/bits.overflowError"], apart := false, narrowed := true }
def NumBackUptoSaid : Prop := numBackUptoRow.holds Try.pinned (OpenSpec.upto numBackSpec)

/-- 'detentlaw06.NumForms', WHERE WHAT IT READS IS OF BULK AT MOST 1048576: true; the input reads as it did. -/
def numFormsUptoRow : OpenClaim := { program := "ytpjhgokdkgnbdaa", sum := "32a74c2db106a34154d223bcbb3d3ee1931bcdd6244922910328605a26036c20", func := "detent/detentlaw06.NumForms", spec := "numForms", named := ["math/bits.divideError", "math/bits.overflowError"], apart := false, narrowed := true }
def NumFormsUptoSaid : Prop := numFormsUptoRow.holds Try.pinned (OpenSpec.upto numFormsSpec)

/-- 'detentlaw06.NumDigits', WHERE WHAT IT READS IS OF BULK AT MOST 1048576: true; the input reads as it did. -/
def numDigitsUptoRow : OpenClaim := { program := "ytpjhgokdkgnbdaa", sum := "32a74c2db106a34154d223bcbb3d3ee1931bcdd6244922910328605a26036c20", func := "detent/detentlaw06.NumDigits", spec := "numDigits", named := ["math/bits.divideError", "math/bits.overflowError"], apart := false, narrowed := true }
def NumDigitsUptoSaid : Prop := numDigitsUptoRow.holds Try.pinned (OpenSpec.upto numDigitsSpec)

/-- 'detentlaw06.NumLong', WHERE WHAT IT READS IS OF BULK AT MOST 1048576: true; the input reads as it did. -/
def numLongUptoRow : OpenClaim := { program := "ytpjhgokdkgnbdaa", sum := "32a74c2db106a34154d223bcbb3d3ee1931bcdd6244922910328605a26036c20", func := "detent/detentlaw06.NumLong", spec := "numLong", named := ["math/bits.divideError", "math/bits.overflowError"], apart := false, narrowed := true }
def NumLongUptoSaid : Prop := numLongUptoRow.holds Try.pinned (OpenSpec.upto numLongSpec)

/-- 'detentlaw01.CellBytes', WHERE WHAT IT READS IS OF BULK AT MOST 1048576: true; the input reads as it did. -/
def cellBytesUptoRow : OpenClaim := { program := "ytpjhgokdkgnbdaa", sum := "32a74c2db106a34154d223bcbb3d3ee1931bcdd6244922910328605a26036c20", func := "detent/detentlaw01.CellBytes", spec := "cellBytes", inPlace := ["math/bits.Add64"], named := ["math/bits.divideError", "math/bits.overflowError"], apart := false, narrowed := true }
def CellBytesUptoSaid : Prop := cellBytesUptoRow.holds Try.pinned (OpenSpec.upto cellBytesSpec)

/-- 'detentlaw01.CellReckons', WHERE WHAT IT READS IS OF BULK AT MOST 1048576: true; the input reads as it did. -/
def cellReckonsUptoRow : OpenClaim := { program := "ytpjhgokdkgnbdaa", sum := "32a74c2db106a34154d223bcbb3d3ee1931bcdd6244922910328605a26036c20", func := "detent/detentlaw01.CellReckons", spec := "cellReckons", inPlace := ["math/bits.Add64"], named := ["math/bits.divideError", "math/bits.overflowError"], apart := false, narrowed := true }
def CellReckonsUptoSaid : Prop := cellReckonsUptoRow.holds Try.pinned (OpenSpec.upto cellReckonsSpec)

/-- 'detentlaw01.CellDivides', WHERE WHAT IT READS IS OF BULK AT MOST 1048576: true; the input reads as it did. -/
def cellDividesUptoRow : OpenClaim := { program := "ytpjhgokdkgnbdaa", sum := "32a74c2db106a34154d223bcbb3d3ee1931bcdd6244922910328605a26036c20", func := "detent/detentlaw01.CellDivides", spec := "cellDivides", inPlace := ["math/bits.Add64"], named := ["math/bits.divideError", "math/bits.overflowError"], apart := false, narrowed := true }
def CellDividesUptoSaid : Prop := cellDividesUptoRow.holds Try.pinned (OpenSpec.upto cellDividesSpec)

/-- 'detentlaw01.CellBack', WHERE WHAT IT READS IS OF BULK AT MOST 1048576: true; the input reads as it did. -/
def cellBackUptoRow : OpenClaim := { program := "ytpjhgokdkgnbdaa", sum := "32a74c2db106a34154d223bcbb3d3ee1931bcdd6244922910328605a26036c20", func := "detent/detentlaw01.CellBack", spec := "cellBack", inPlace := ["math/bits.Add64"], named := ["math/bits.divideError", "math/bits.overflowError"], apart := false, narrowed := true }
def CellBackUptoSaid : Prop := cellBackUptoRow.holds Try.pinned (OpenSpec.upto cellBackSpec)

/-- 'detentlaw01.CellParts', WHERE WHAT IT READS IS OF BULK AT MOST 1048576: true; the input reads as it did. -/
def cellPartsUptoRow : OpenClaim := { program := "ytpjhgokdkgnbdaa", sum := "32a74c2db106a34154d223bcbb3d3ee1931bcdd6244922910328605a26036c20", func := "detent/detentlaw01.CellParts", spec := "cellParts", inPlace := ["math/bits.Add64"], named := ["math/bits.divideError", "math/bits.overflowError"], apart := false, narrowed := true }
def CellPartsUptoSaid : Prop := cellPartsUptoRow.holds Try.pinned (OpenSpec.upto cellPartsSpec)

/-- 'detentlaw01.CellProducts', WHERE WHAT IT READS IS OF BULK AT MOST 1048576: true; the input reads as it did. -/
def cellProductsUptoRow : OpenClaim := { program := "ytpjhgokdkgnbdaa", sum := "32a74c2db106a34154d223bcbb3d3ee1931bcdd6244922910328605a26036c20", func := "detent/detentlaw01.CellProducts", spec := "cellProducts", inPlace := ["math/bits.Add64"], named := ["math/bits.divideError", "math/bits.overflowError"], apart := false, narrowed := true }
def CellProductsUptoSaid : Prop := cellProductsUptoRow.holds Try.pinned (OpenSpec.upto cellProductsSpec)

/-- 'detentlaw01.CellSides', WHERE WHAT IT READS IS OF BULK AT MOST 1048576: true; the input reads as it did. -/
def cellSidesUptoRow : OpenClaim := { program := "ytpjhgokdkgnbdaa", sum := "32a74c2db106a34154d223bcbb3d3ee1931bcdd6244922910328605a26036c20", func := "detent/detentlaw01.CellSides", spec := "cellSides", inPlace := ["math/bits.Add64"], named := ["math/bits.divideError", "math/bits.overflowError"], apart := false, narrowed := true }
def CellSidesUptoSaid : Prop := cellSidesUptoRow.holds Try.pinned (OpenSpec.upto cellSidesSpec)

/-- 'detentlaw01.CellOne', WHERE WHAT IT READS IS OF BULK AT MOST 1048576: true; the input reads as it did. -/
def cellOneUptoRow : OpenClaim := { program := "ytpjhgokdkgnbdaa", sum := "32a74c2db106a34154d223bcbb3d3ee1931bcdd6244922910328605a26036c20", func := "detent/detentlaw01.CellOne", spec := "cellOne", inPlace := ["math/bits.Add64"], named := ["math/bits.divideError", "math/bits.overflowError"], apart := false, narrowed := true }
def CellOneUptoSaid : Prop := cellOneUptoRow.holds Try.pinned (OpenSpec.upto cellOneSpec)

/-- 'detentlaw01.CellSigns', WHERE WHAT IT READS IS OF BULK AT MOST 1048576: true; the input reads as it did. -/
def cellSignsUptoRow : OpenClaim := { program := "ytpjhgokdkgnbdaa", sum := "32a74c2db106a34154d223bcbb3d3ee1931bcdd6244922910328605a26036c20", func := "detent/detentlaw01.CellSigns", spec := "cellSigns", inPlace := ["math/bits.Add64"], named := ["math/bits.divideError", "math/bits.overflowError"], apart := false, narrowed := true }
def CellSignsUptoSaid : Prop := cellSignsUptoRow.holds Try.pinned (OpenSpec.upto cellSignsSpec)

end Rows
end Go.Proofs.Ytpjhgokdkgnbdaa
