/-
  No cell of these rows narrows 'for every input' (looked for: loops, veiled, ifaces, maps, wideKeys, modest, calm, conditions, laid).
  DERIVED. THE GIVEN ROWS OF THIS SEAT. 9 by the template 'for every input the law returns true; each argument reads behind the call as it read before'; 0 by the template 'total and deterministic' (their statements: YtphgdofmjpdhaaaGreatTotals.lean).
  GIVEN WITH THE SEED: the statements are not yours to turn. If you find one false, say at which input.
  Laid BY PROGRAM, IN A SANDBOX (cutbox-rows.mjs): the forced cells as the released guide's own fill.sh prints them over the translation 400a3589634d7f99… (all of the seat's roots in one cut). By AI agents, Wed Nov 11 2026. No macro, syntax, notation, axiom, sorry.
-/
import Derived.Test.YtphgdofmjpdhaaaGreatChecked
import GoSem.Claim
import GoSem.ClaimJoined
import GoSem.ClaimMapViews
import Derived.JoinedTies
import Derived.KernelRfl
namespace Go.Proofs.YtphgdofmjpdhaaaGreat
/- THE CELL 'sum', in the pinned program and in every row, IS THE sha256 OF THE DUMP (.gsa) THAT YtphgdofmjpdhaaaGreatProg.lean LOADS. Nothing in Lean hashes anything: it is a label: what it is worth is what the hold of that sum in a sandbox is worth. -/
noncomputable def Tryz.pinned : Pinned := { name := "ytphgdofmjpdhaaagreat", sum := "400a3589634d7f990656ad875047e64939a690a55db81dbc8acf69d85eede02e", checked := Tryz.checked }
namespace Rows
def none {H : Type} : Left H := { results := [], args := [] }

/-- 'detentlaw11.PrimTells': WHATEVER THE INPUT: true; the input reads as it did. -/
def primTellsSpec : ChangeSpec := { name := "primTells", fn := fun _ => fun
  | [d1, d2] => { results := [.lit (.bool true)], args := [d1, d2] }
  | _ => none }
def primTellsRow : OpenClaim := { program := "ytphgdofmjpdhaaagreat", sum := "400a3589634d7f990656ad875047e64939a690a55db81dbc8acf69d85eede02e", func := "detent/detentlaw11.PrimTells", spec := "primTells", inPlace := ["math/bits.Add64", "internal/bytealg.MakeNoZero", "internal/abi.NoEscape"], unfollowed := true, recurses := true, named := ["math/bits.divideError", "math/bits.overflowError"], apart := false }
def PrimTellsSaid : Prop := primTellsRow.holds Tryz.pinned (OpenSpec.ofChange primTellsSpec)

/-- ITS FALSE NEIGHBOUR: 'it returns false'. Refute it at one input. -/
def primTellsWrong : ChangeSpec := { name := "primTells", fn := fun _ => fun
  | [d1, d2] => { results := [.lit (.bool false)], args := [d1, d2] }
  | _ => none }
def PrimTellsWrongFalsely : Prop := primTellsRow.holds Tryz.pinned (OpenSpec.ofChange primTellsWrong)

/-- 'detentlaw11.PrimEach': WHATEVER THE INPUT: true; the input reads as it did. -/
def primEachSpec : ChangeSpec := { name := "primEach", fn := fun _ => fun
  | [d] => { results := [.lit (.bool true)], args := [d] }
  | _ => none }
def primEachRow : OpenClaim := { program := "ytphgdofmjpdhaaagreat", sum := "400a3589634d7f990656ad875047e64939a690a55db81dbc8acf69d85eede02e", func := "detent/detentlaw11.PrimEach", spec := "primEach", inPlace := ["math/bits.Add64", "internal/bytealg.MakeNoZero", "internal/abi.NoEscape"], unfollowed := true, recurses := true, named := ["math/bits.divideError", "math/bits.overflowError"], apart := false }
def PrimEachSaid : Prop := primEachRow.holds Tryz.pinned (OpenSpec.ofChange primEachSpec)

/-- ITS FALSE NEIGHBOUR: 'it returns false'. Refute it at one input. -/
def primEachWrong : ChangeSpec := { name := "primEach", fn := fun _ => fun
  | [d] => { results := [.lit (.bool false)], args := [d] }
  | _ => none }
def PrimEachWrongFalsely : Prop := primEachRow.holds Tryz.pinned (OpenSpec.ofChange primEachWrong)

/-- 'detentlaw11.PrimStays': WHATEVER THE INPUT: true; the input reads as it did. -/
def primStaysSpec : ChangeSpec := { name := "primStays", fn := fun _ => fun
  | [d1, d2] => { results := [.lit (.bool true)], args := [d1, d2] }
  | _ => none }
def primStaysRow : OpenClaim := { program := "ytphgdofmjpdhaaagreat", sum := "400a3589634d7f990656ad875047e64939a690a55db81dbc8acf69d85eede02e", func := "detent/detentlaw11.PrimStays", spec := "primStays", inPlace := ["math/bits.Add64", "internal/bytealg.MakeNoZero", "internal/abi.NoEscape"], unfollowed := true, recurses := true, named := ["math/bits.divideError", "math/bits.overflowError"], apart := false }
def PrimStaysSaid : Prop := primStaysRow.holds Tryz.pinned (OpenSpec.ofChange primStaysSpec)

/-- ITS FALSE NEIGHBOUR: 'it returns false'. Refute it at one input. -/
def primStaysWrong : ChangeSpec := { name := "primStays", fn := fun _ => fun
  | [d1, d2] => { results := [.lit (.bool false)], args := [d1, d2] }
  | _ => none }
def PrimStaysWrongFalsely : Prop := primStaysRow.holds Tryz.pinned (OpenSpec.ofChange primStaysWrong)

/-- 'detentlaw11.PrimDivides': WHATEVER THE INPUT: true; the input reads as it did. -/
def primDividesSpec : ChangeSpec := { name := "primDivides", fn := fun _ => fun
  | [d1, d2, d3] => { results := [.lit (.bool true)], args := [d1, d2, d3] }
  | _ => none }
def primDividesRow : OpenClaim := { program := "ytphgdofmjpdhaaagreat", sum := "400a3589634d7f990656ad875047e64939a690a55db81dbc8acf69d85eede02e", func := "detent/detentlaw11.PrimDivides", spec := "primDivides", inPlace := ["math/bits.Add64", "internal/bytealg.MakeNoZero", "internal/abi.NoEscape"], unfollowed := true, recurses := true, named := ["math/bits.divideError", "math/bits.overflowError"], apart := false }
def PrimDividesSaid : Prop := primDividesRow.holds Tryz.pinned (OpenSpec.ofChange primDividesSpec)

/-- ITS FALSE NEIGHBOUR: 'it returns false'. Refute it at one input. -/
def primDividesWrong : ChangeSpec := { name := "primDivides", fn := fun _ => fun
  | [d1, d2, d3] => { results := [.lit (.bool false)], args := [d1, d2, d3] }
  | _ => none }
def PrimDividesWrongFalsely : Prop := primDividesRow.holds Tryz.pinned (OpenSpec.ofChange primDividesWrong)

/-- 'detentlaw11.PrimHolds': WHATEVER THE INPUT: true; the input reads as it did. -/
def primHoldsSpec : ChangeSpec := { name := "primHolds", fn := fun _ => fun
  | [d1, d2, d3] => { results := [.lit (.bool true)], args := [d1, d2, d3] }
  | _ => none }
def primHoldsRow : OpenClaim := { program := "ytphgdofmjpdhaaagreat", sum := "400a3589634d7f990656ad875047e64939a690a55db81dbc8acf69d85eede02e", func := "detent/detentlaw11.PrimHolds", spec := "primHolds", inPlace := ["math/bits.Add64", "internal/bytealg.MakeNoZero", "internal/abi.NoEscape"], unfollowed := true, recurses := true, named := ["math/bits.divideError", "math/bits.overflowError"], apart := false }
def PrimHoldsSaid : Prop := primHoldsRow.holds Tryz.pinned (OpenSpec.ofChange primHoldsSpec)

/-- ITS FALSE NEIGHBOUR: 'it returns false'. Refute it at one input. -/
def primHoldsWrong : ChangeSpec := { name := "primHolds", fn := fun _ => fun
  | [d1, d2, d3] => { results := [.lit (.bool false)], args := [d1, d2, d3] }
  | _ => none }
def PrimHoldsWrongFalsely : Prop := primHoldsRow.holds Tryz.pinned (OpenSpec.ofChange primHoldsWrong)

/-- 'detentlaw11.PrimPrints': WHATEVER THE INPUT: true; the input reads as it did. -/
def primPrintsSpec : ChangeSpec := { name := "primPrints", fn := fun _ => fun
  | [d1, d2] => { results := [.lit (.bool true)], args := [d1, d2] }
  | _ => none }
def primPrintsRow : OpenClaim := { program := "ytphgdofmjpdhaaagreat", sum := "400a3589634d7f990656ad875047e64939a690a55db81dbc8acf69d85eede02e", func := "detent/detentlaw11.PrimPrints", spec := "primPrints", inPlace := ["math/bits.Add64", "internal/bytealg.MakeNoZero", "internal/abi.NoEscape"], unfollowed := true, recurses := true, named := ["math/bits.divideError", "math/bits.overflowError"], apart := false }
def PrimPrintsSaid : Prop := primPrintsRow.holds Tryz.pinned (OpenSpec.ofChange primPrintsSpec)

/-- ITS FALSE NEIGHBOUR: 'it returns false'. Refute it at one input. -/
def primPrintsWrong : ChangeSpec := { name := "primPrints", fn := fun _ => fun
  | [d1, d2] => { results := [.lit (.bool false)], args := [d1, d2] }
  | _ => none }
def PrimPrintsWrongFalsely : Prop := primPrintsRow.holds Tryz.pinned (OpenSpec.ofChange primPrintsWrong)

/-- 'detentlaw11.PrimAsks': WHATEVER THE INPUT: true; the input reads as it did. -/
def primAsksSpec : ChangeSpec := { name := "primAsks", fn := fun _ => fun
  | [d1, d2, d3] => { results := [.lit (.bool true)], args := [d1, d2, d3] }
  | _ => none }
def primAsksRow : OpenClaim := { program := "ytphgdofmjpdhaaagreat", sum := "400a3589634d7f990656ad875047e64939a690a55db81dbc8acf69d85eede02e", func := "detent/detentlaw11.PrimAsks", spec := "primAsks", inPlace := ["math/bits.Add64", "internal/bytealg.MakeNoZero", "internal/abi.NoEscape"], unfollowed := true, recurses := true, named := ["math/bits.divideError", "math/bits.overflowError"], apart := false }
def PrimAsksSaid : Prop := primAsksRow.holds Tryz.pinned (OpenSpec.ofChange primAsksSpec)

/-- ITS FALSE NEIGHBOUR: 'it returns false'. Refute it at one input. -/
def primAsksWrong : ChangeSpec := { name := "primAsks", fn := fun _ => fun
  | [d1, d2, d3] => { results := [.lit (.bool false)], args := [d1, d2, d3] }
  | _ => none }
def PrimAsksWrongFalsely : Prop := primAsksRow.holds Tryz.pinned (OpenSpec.ofChange primAsksWrong)

/-- 'detentlaw11.PrimStates': WHATEVER THE INPUT: true; the input reads as it did. -/
def primStatesSpec : ChangeSpec := { name := "primStates", fn := fun _ => fun
  | [d1, d2, d3] => { results := [.lit (.bool true)], args := [d1, d2, d3] }
  | _ => none }
def primStatesRow : OpenClaim := { program := "ytphgdofmjpdhaaagreat", sum := "400a3589634d7f990656ad875047e64939a690a55db81dbc8acf69d85eede02e", func := "detent/detentlaw11.PrimStates", spec := "primStates", inPlace := ["math/bits.Add64", "internal/bytealg.MakeNoZero", "internal/abi.NoEscape"], unfollowed := true, recurses := true, named := ["math/bits.divideError", "math/bits.overflowError"], apart := false }
def PrimStatesSaid : Prop := primStatesRow.holds Tryz.pinned (OpenSpec.ofChange primStatesSpec)

/-- ITS FALSE NEIGHBOUR: 'it returns false'. Refute it at one input. -/
def primStatesWrong : ChangeSpec := { name := "primStates", fn := fun _ => fun
  | [d1, d2, d3] => { results := [.lit (.bool false)], args := [d1, d2, d3] }
  | _ => none }
def PrimStatesWrongFalsely : Prop := primStatesRow.holds Tryz.pinned (OpenSpec.ofChange primStatesWrong)

/-- 'detentlaw11.PrimPairs': WHATEVER THE INPUT: true; the input reads as it did. -/
def primPairsSpec : ChangeSpec := { name := "primPairs", fn := fun _ => fun
  | [d] => { results := [.lit (.bool true)], args := [d] }
  | _ => none }
def primPairsRow : OpenClaim := { program := "ytphgdofmjpdhaaagreat", sum := "400a3589634d7f990656ad875047e64939a690a55db81dbc8acf69d85eede02e", func := "detent/detentlaw11.PrimPairs", spec := "primPairs", inPlace := ["math/bits.Add64", "internal/bytealg.MakeNoZero", "internal/abi.NoEscape"], unfollowed := true, recurses := true, named := ["math/bits.divideError", "math/bits.overflowError"], apart := false }
def PrimPairsSaid : Prop := primPairsRow.holds Tryz.pinned (OpenSpec.ofChange primPairsSpec)

/-- ITS FALSE NEIGHBOUR: 'it returns false'. Refute it at one input. -/
def primPairsWrong : ChangeSpec := { name := "primPairs", fn := fun _ => fun
  | [d] => { results := [.lit (.bool false)], args := [d] }
  | _ => none }
def PrimPairsWrongFalsely : Prop := primPairsRow.holds Tryz.pinned (OpenSpec.ofChange primPairsWrong)

/- THE SECOND FORM. 'bulk': how many values and letters a reading holds, each counted each time it is reached (what is shared counts as often as it is met; a slice's spare places count too). A statement '..UptoSaid' is the law's where the arguments, and the package variables that the reading takes, are together of bulk at most 1048576: NARROWER than '..Said'. Prove '..Said' where nothing that the law and all that it calls make is longer than what came in: it says more and counts as full. Else prove '..UptoSaid'. A law counts once. -/
mutual
def uptoBulk {H : Type} : DataW H → Nat
  | .lit (.string bytes) => bytes.length + 1
  | .lit _ => 1
  | .nil => 1
  | .ptr d => uptoBulk d + 1
  | .slice elems spare => uptoBulkAll elems + uptoBulkAll spare + 1
  | .agg parts => uptoBulkAll parts + 1
  | .iface _ d => uptoBulk d + 1
  | .map entries => uptoBulkEntries entries + 1
  | .held _ => 1
def uptoBulkAll {H : Type} : List (DataW H) → Nat
  | [] => 0
  | d :: r => uptoBulk d + uptoBulkAll r
def uptoBulkEntries {H : Type} : List (Lit × DataW H) → Nat
  | [] => 0
  | x :: r => uptoBulkEntry x + uptoBulkEntries r
def uptoBulkEntry {H : Type} : Lit × DataW H → Nat
  | (.string bytes, d) => bytes.length + uptoBulk d + 1
  | (_, d) => uptoBulk d + 1
 end
def uptoSmall : (H : Type) → List (DataW H) → Bool := fun _ ds => decide (uptoBulkAll ds ≤ 1048576)
def OpenSpec.upto (s : _root_.Go.ChangeSpec) : _root_.Go.OpenSpec := { _root_.Go.OpenSpec.ofChange s with cond := some uptoSmall }

/-- 'detentlaw11.PrimTells', WHERE WHAT IT READS IS OF BULK AT MOST 1048576: true; the input reads as it did. -/
def primTellsUptoRow : OpenClaim := { program := "ytphgdofmjpdhaaagreat", sum := "400a3589634d7f990656ad875047e64939a690a55db81dbc8acf69d85eede02e", func := "detent/detentlaw11.PrimTells", spec := "primTells", inPlace := ["math/bits.Add64", "internal/bytealg.MakeNoZero", "internal/abi.NoEscape"], unfollowed := true, recurses := true, named := ["math/bits.divideError", "math/bits.overflowError"], apart := false, narrowed := true }
def PrimTellsUptoSaid : Prop := primTellsUptoRow.holds Tryz.pinned (OpenSpec.upto primTellsSpec)

/-- 'detentlaw11.PrimEach', WHERE WHAT IT READS IS OF BULK AT MOST 1048576: true; the input reads as it did. -/
def primEachUptoRow : OpenClaim := { program := "ytphgdofmjpdhaaagreat", sum := "400a3589634d7f990656ad875047e64939a690a55db81dbc8acf69d85eede02e", func := "detent/detentlaw11.PrimEach", spec := "primEach", inPlace := ["math/bits.Add64", "internal/bytealg.MakeNoZero", "internal/abi.NoEscape"], unfollowed := true, recurses := true, named := ["math/bits.divideError", "math/bits.overflowError"], apart := false, narrowed := true }
def PrimEachUptoSaid : Prop := primEachUptoRow.holds Tryz.pinned (OpenSpec.upto primEachSpec)

/-- 'detentlaw11.PrimStays', WHERE WHAT IT READS IS OF BULK AT MOST 1048576: true; the input reads as it did. -/
def primStaysUptoRow : OpenClaim := { program := "ytphgdofmjpdhaaagreat", sum := "400a3589634d7f990656ad875047e64939a690a55db81dbc8acf69d85eede02e", func := "detent/detentlaw11.PrimStays", spec := "primStays", inPlace := ["math/bits.Add64", "internal/bytealg.MakeNoZero", "internal/abi.NoEscape"], unfollowed := true, recurses := true, named := ["math/bits.divideError", "math/bits.overflowError"], apart := false, narrowed := true }
def PrimStaysUptoSaid : Prop := primStaysUptoRow.holds Tryz.pinned (OpenSpec.upto primStaysSpec)

/-- 'detentlaw11.PrimDivides', WHERE WHAT IT READS IS OF BULK AT MOST 1048576: true; the input reads as it did. -/
def primDividesUptoRow : OpenClaim := { program := "ytphgdofmjpdhaaagreat", sum := "400a3589634d7f990656ad875047e64939a690a55db81dbc8acf69d85eede02e", func := "detent/detentlaw11.PrimDivides", spec := "primDivides", inPlace := ["math/bits.Add64", "internal/bytealg.MakeNoZero", "internal/abi.NoEscape"], unfollowed := true, recurses := true, named := ["math/bits.divideError", "math/bits.overflowError"], apart := false, narrowed := true }
def PrimDividesUptoSaid : Prop := primDividesUptoRow.holds Tryz.pinned (OpenSpec.upto primDividesSpec)

/-- 'detentlaw11.PrimHolds', WHERE WHAT IT READS IS OF BULK AT MOST 1048576: true; the input reads as it did. -/
def primHoldsUptoRow : OpenClaim := { program := "ytphgdofmjpdhaaagreat", sum := "400a3589634d7f990656ad875047e64939a690a55db81dbc8acf69d85eede02e", func := "detent/detentlaw11.PrimHolds", spec := "primHolds", inPlace := ["math/bits.Add64", "internal/bytealg.MakeNoZero", "internal/abi.NoEscape"], unfollowed := true, recurses := true, named := ["math/bits.divideError", "math/bits.overflowError"], apart := false, narrowed := true }
def PrimHoldsUptoSaid : Prop := primHoldsUptoRow.holds Tryz.pinned (OpenSpec.upto primHoldsSpec)

/-- 'detentlaw11.PrimPrints', WHERE WHAT IT READS IS OF BULK AT MOST 1048576: true; the input reads as it did. -/
def primPrintsUptoRow : OpenClaim := { program := "ytphgdofmjpdhaaagreat", sum := "400a3589634d7f990656ad875047e64939a690a55db81dbc8acf69d85eede02e", func := "detent/detentlaw11.PrimPrints", spec := "primPrints", inPlace := ["math/bits.Add64", "internal/bytealg.MakeNoZero", "internal/abi.NoEscape"], unfollowed := true, recurses := true, named := ["math/bits.divideError", "math/bits.overflowError"], apart := false, narrowed := true }
def PrimPrintsUptoSaid : Prop := primPrintsUptoRow.holds Tryz.pinned (OpenSpec.upto primPrintsSpec)

/-- 'detentlaw11.PrimAsks', WHERE WHAT IT READS IS OF BULK AT MOST 1048576: true; the input reads as it did. -/
def primAsksUptoRow : OpenClaim := { program := "ytphgdofmjpdhaaagreat", sum := "400a3589634d7f990656ad875047e64939a690a55db81dbc8acf69d85eede02e", func := "detent/detentlaw11.PrimAsks", spec := "primAsks", inPlace := ["math/bits.Add64", "internal/bytealg.MakeNoZero", "internal/abi.NoEscape"], unfollowed := true, recurses := true, named := ["math/bits.divideError", "math/bits.overflowError"], apart := false, narrowed := true }
def PrimAsksUptoSaid : Prop := primAsksUptoRow.holds Tryz.pinned (OpenSpec.upto primAsksSpec)

/-- 'detentlaw11.PrimStates', WHERE WHAT IT READS IS OF BULK AT MOST 1048576: true; the input reads as it did. -/
def primStatesUptoRow : OpenClaim := { program := "ytphgdofmjpdhaaagreat", sum := "400a3589634d7f990656ad875047e64939a690a55db81dbc8acf69d85eede02e", func := "detent/detentlaw11.PrimStates", spec := "primStates", inPlace := ["math/bits.Add64", "internal/bytealg.MakeNoZero", "internal/abi.NoEscape"], unfollowed := true, recurses := true, named := ["math/bits.divideError", "math/bits.overflowError"], apart := false, narrowed := true }
def PrimStatesUptoSaid : Prop := primStatesUptoRow.holds Tryz.pinned (OpenSpec.upto primStatesSpec)

/-- 'detentlaw11.PrimPairs', WHERE WHAT IT READS IS OF BULK AT MOST 1048576: true; the input reads as it did. -/
def primPairsUptoRow : OpenClaim := { program := "ytphgdofmjpdhaaagreat", sum := "400a3589634d7f990656ad875047e64939a690a55db81dbc8acf69d85eede02e", func := "detent/detentlaw11.PrimPairs", spec := "primPairs", inPlace := ["math/bits.Add64", "internal/bytealg.MakeNoZero", "internal/abi.NoEscape"], unfollowed := true, recurses := true, named := ["math/bits.divideError", "math/bits.overflowError"], apart := false, narrowed := true }
def PrimPairsUptoSaid : Prop := primPairsUptoRow.holds Tryz.pinned (OpenSpec.upto primPairsSpec)

end Rows
end Go.Proofs.YtphgdofmjpdhaaaGreat
