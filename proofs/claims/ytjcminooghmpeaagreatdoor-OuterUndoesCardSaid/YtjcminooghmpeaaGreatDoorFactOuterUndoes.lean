/- The statement OuterUndoes: what is reckoned once over the whole program. No condition. -/
import Derived.Test.YtjcminooghmpeaaGreatDoorRows
import Derived.Test.YtjcminooghmpeaaGreatDoorCards
import Derived.JoinedOf
import Derived.KernelRfl
namespace Go.Proofs.YtjcminooghmpeaaGreatDoor.factOuterUndoes
theorem and_t {a b : Bool} (ha : a = true) (hb : b = true) : (a && b) = true := by rw [ha, hb]; rfl
theorem a0 : (Rows.outerUndoesRow.wf (OpenSpec.ofChange Rows.outerUndoesSpec)) = true := by kernel_rfl
theorem a1 : (laidOutB Tryz.pinned.checked.prog) = true := by kernel_rfl
theorem a2 : (mapsRowed Tryz.pinned.checked.prog) = true := by kernel_rfl
theorem a3 : (Tryz.f3.params.all (Tryz.pinned.checked.prog.readableRec ·)) = true := by kernel_rfl
theorem a4 : (namedTie Tryz.pinned.checked.prog Rows.outerUndoesRow.named Rows.outerUndoesSpec.vars) = true := by kernel_rfl
theorem a5 : (Rows.outerUndoesRow.stops == []) = true := by kernel_rfl
theorem a6 : (Tryz.pinned.checked.prog.stops == []) = true := by kernel_rfl
theorem a7 : (Rows.outerUndoesRow.knobs == []) = true := by kernel_rfl
theorem a8 : (Tryz.pinned.checked.prog.stopKnobs == []) = true := by kernel_rfl
theorem a9 : (Rows.outerUndoesRow.inPlace == Tryz.pinned.checked.prog.inPlace 3) = true := by kernel_rfl
theorem a10 : (Rows.outerUndoesRow.unfollowed == Tryz.pinned.checked.prog.unfollowed 3) = true := by kernel_rfl
theorem a11 : (Rows.outerUndoesRow.recurses == Tryz.pinned.checked.prog.recurses 3) = true := by kernel_rfl
theorem a12 : (Rows.outerUndoesRow.named == Tryz.pinned.checked.prog.varsNamed 3) = true := by kernel_rfl
theorem a13 : (Rows.outerUndoesRow.maps == (Tryz.f3.params.toList ++ Rows.outerUndoesSpec.plain.varTypes Tryz.pinned.checked.prog).any (Tryz.pinned.checked.prog.mapsRec ·)) = true := by kernel_rfl
theorem a14 : (Rows.outerUndoesRow.ifaces == (Tryz.f3.params.toList ++ Rows.outerUndoesSpec.plain.varTypes Tryz.pinned.checked.prog).any (Tryz.pinned.checked.prog.ifacesRec ·)) = true := by kernel_rfl
theorem a15 : (Rows.outerUndoesRow.mapsOut == Tryz.pinned.checked.prog.mapsAmong Tryz.f3.resultTypes.toList) = true := by kernel_rfl
theorem a16 : (Rows.outerUndoesRow.loops == (Tryz.f3.params.toList ++ Rows.outerUndoesSpec.plain.varTypes Tryz.pinned.checked.prog).any (Tryz.pinned.checked.prog.loopsFrom ·)) = true := by kernel_rfl
theorem a17 : (Rows.outerUndoesRow.wideKeys == (Tryz.f3.params.toList ++ Rows.outerUndoesSpec.plain.varTypes Tryz.pinned.checked.prog ++ Tryz.f3.resultTypes.toList).any (Tryz.pinned.checked.prog.wideKeysFrom ·)) = true := by kernel_rfl
theorem a18 : (Rows.outerUndoesSpec.vars.all (Tryz.pinned.checked.prog.varReadable ·)) = true := by kernel_rfl
theorem a19 : (Tryz.f3.resultTypes.all (fun t => Tryz.pinned.checked.prog.readableRec t && decide (t < Tryz.pinned.checked.prog.types.size))) = true := by kernel_rfl
theorem a20 : (Rows.outerUndoesRow.ifacesOut == Tryz.f3.resultTypes.toList.any (Tryz.pinned.checked.prog.ifacesRec ·)) = true := by kernel_rfl
theorem a21 : (Rows.outerUndoesRow.loopsOut == Tryz.f3.resultTypes.toList.any (Tryz.pinned.checked.prog.loopsFrom ·)) = true := by kernel_rfl
theorem a22 : (Rows.outerUndoesRow.plainKeys == Tryz.pinned.checked.prog.plainKeys) = true := by kernel_rfl
theorem a23 : (Rows.outerUndoesRow.shortTexts.isNone) = true := by kernel_rfl
theorem a24 : (Tryz.pinned.checked.prog.stopsHeard) = true := by kernel_rfl
theorem a25 : (Tryz.pinned.checked.prog.mayEnter) = true := by kernel_rfl
theorem a26 : (Rows.outerUndoesRow.lifted == Tryz.pinned.checked.prog.liftsFinal) = true := by kernel_rfl
theorem a27 : (Tryz.pinned.checked.prog.make == some Rows.outerUndoesRow.make) = true := by kernel_rfl
theorem a28 : (Rows.outerUndoesRow.kinds == (if Rows.outerUndoesRow.domain.isEmpty then [] else Tryz.f3.params.toList.map fun t => match Tryz.pinned.checked.prog.underlying t with | some (.int k) => some k | _ => none)) = true := by kernel_rfl
theorem a29 : (Rows.outerUndoesRow.pinned == Rows.outerUndoesRow.pinnedBy) = true := by kernel_rfl
theorem a30 : (Rows.outerUndoesRow.veiled == (Tryz.f3.params.toList ++ Rows.outerUndoesSpec.plain.varTypes Tryz.pinned.checked.prog ++ Tryz.f3.resultTypes.toList).any (Tryz.pinned.checked.prog.veiledRec ·)) = true := by kernel_rfl
theorem a31 : (Rows.outerUndoesRow.veiledFits Tryz.pinned.checked.prog Tryz.f3.params.toList (Tryz.f3.params.toList ++ Rows.outerUndoesSpec.plain.varTypes Tryz.pinned.checked.prog ++ Tryz.f3.resultTypes.toList)) = true := by kernel_rfl
set_option maxRecDepth 100000 in
theorem facts : joinedFacts Tryz.pinned.checked.prog 3 Tryz.f3 Rows.outerUndoesSpec Rows.outerUndoesRow = true := by
  unfold joinedFacts
  exact (and_t (and_t (and_t (and_t (and_t (and_t (and_t (and_t (and_t (and_t (and_t (and_t (and_t (and_t (and_t (and_t (and_t (and_t (and_t (and_t (and_t (and_t (and_t (and_t (and_t (and_t (and_t (and_t (and_t (and_t (and_t a0 a1) a2) a3) a4) a5) a6) a7) a8) a9) a10) a11) a12) a13) a14) a15) a16) a17) a18) a19) a20) a21) a22) a23) a24) a25) a26) a27) a28) a29) a30) a31)
theorem named : Tryz.pinned.checked.prog.funcNamed Rows.outerUndoesRow.func = some 3 := by kernel_rfl
theorem wfText : Rows.outerUndoesRow.wfByText (OpenSpec.ofChange Rows.outerUndoesSpec) = true := by kernel_rfl
theorem mainIs : Tryz.pinned.checked.prog.mainIs = some (true, "28dbe928f1be55a73db9b4819b2edd1f6a61a2d3f02bd33d225c0fc3560c3166".toList) := by kernel_rfl
theorem looks : true = Tryz.pinned.checked.prog.looks [] := by kernel_rfl
theorem goes : false = Rows.outerUndoesRow.goesBy Tryz.pinned.checked.prog := by kernel_rfl
theorem wants22 : Tryz.pinned.checked.prog.wantsStandIn 22 = false := by kernel_rfl
theorem wants5 : Tryz.pinned.checked.prog.wantsStandIn 5 = false := by kernel_rfl
end Go.Proofs.YtjcminooghmpeaaGreatDoor.factOuterUndoes
