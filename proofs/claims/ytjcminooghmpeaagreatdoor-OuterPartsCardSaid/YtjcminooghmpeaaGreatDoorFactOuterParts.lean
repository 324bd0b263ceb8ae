/- The statement OuterParts: what is reckoned once over the whole program. No condition. -/
import Derived.Test.YtjcminooghmpeaaGreatDoorRows
import Derived.Test.YtjcminooghmpeaaGreatDoorCards
import Derived.JoinedOf
import Derived.KernelRfl
namespace Go.Proofs.YtjcminooghmpeaaGreatDoor.factOuterParts
theorem and_t {a b : Bool} (ha : a = true) (hb : b = true) : (a && b) = true := by rw [ha, hb]; rfl
theorem a0 : (Rows.outerPartsRow.wf (OpenSpec.ofChange Rows.outerPartsSpec)) = true := by kernel_rfl
theorem a1 : (laidOutB Tryz.pinned.checked.prog) = true := by kernel_rfl
theorem a2 : (mapsRowed Tryz.pinned.checked.prog) = true := by kernel_rfl
theorem a3 : (Tryz.f4.params.all (Tryz.pinned.checked.prog.readableRec ·)) = true := by kernel_rfl
theorem a4 : (namedTie Tryz.pinned.checked.prog Rows.outerPartsRow.named Rows.outerPartsSpec.vars) = true := by kernel_rfl
theorem a5 : (Rows.outerPartsRow.stops == []) = true := by kernel_rfl
theorem a6 : (Tryz.pinned.checked.prog.stops == []) = true := by kernel_rfl
theorem a7 : (Rows.outerPartsRow.knobs == []) = true := by kernel_rfl
theorem a8 : (Tryz.pinned.checked.prog.stopKnobs == []) = true := by kernel_rfl
theorem a9 : (Rows.outerPartsRow.inPlace == Tryz.pinned.checked.prog.inPlace 4) = true := by kernel_rfl
theorem a10 : (Rows.outerPartsRow.unfollowed == Tryz.pinned.checked.prog.unfollowed 4) = true := by kernel_rfl
theorem a11 : (Rows.outerPartsRow.recurses == Tryz.pinned.checked.prog.recurses 4) = true := by kernel_rfl
theorem a12 : (Rows.outerPartsRow.named == Tryz.pinned.checked.prog.varsNamed 4) = true := by kernel_rfl
theorem a13 : (Rows.outerPartsRow.maps == (Tryz.f4.params.toList ++ Rows.outerPartsSpec.plain.varTypes Tryz.pinned.checked.prog).any (Tryz.pinned.checked.prog.mapsRec ·)) = true := by kernel_rfl
theorem a14 : (Rows.outerPartsRow.ifaces == (Tryz.f4.params.toList ++ Rows.outerPartsSpec.plain.varTypes Tryz.pinned.checked.prog).any (Tryz.pinned.checked.prog.ifacesRec ·)) = true := by kernel_rfl
theorem a15 : (Rows.outerPartsRow.mapsOut == Tryz.pinned.checked.prog.mapsAmong Tryz.f4.resultTypes.toList) = true := by kernel_rfl
theorem a16 : (Rows.outerPartsRow.loops == (Tryz.f4.params.toList ++ Rows.outerPartsSpec.plain.varTypes Tryz.pinned.checked.prog).any (Tryz.pinned.checked.prog.loopsFrom ·)) = true := by kernel_rfl
theorem a17 : (Rows.outerPartsRow.wideKeys == (Tryz.f4.params.toList ++ Rows.outerPartsSpec.plain.varTypes Tryz.pinned.checked.prog ++ Tryz.f4.resultTypes.toList).any (Tryz.pinned.checked.prog.wideKeysFrom ·)) = true := by kernel_rfl
theorem a18 : (Rows.outerPartsSpec.vars.all (Tryz.pinned.checked.prog.varReadable ·)) = true := by kernel_rfl
theorem a19 : (Tryz.f4.resultTypes.all (fun t => Tryz.pinned.checked.prog.readableRec t && decide (t < Tryz.pinned.checked.prog.types.size))) = true := by kernel_rfl
theorem a20 : (Rows.outerPartsRow.ifacesOut == Tryz.f4.resultTypes.toList.any (Tryz.pinned.checked.prog.ifacesRec ·)) = true := by kernel_rfl
theorem a21 : (Rows.outerPartsRow.loopsOut == Tryz.f4.resultTypes.toList.any (Tryz.pinned.checked.prog.loopsFrom ·)) = true := by kernel_rfl
theorem a22 : (Rows.outerPartsRow.plainKeys == Tryz.pinned.checked.prog.plainKeys) = true := by kernel_rfl
theorem a23 : (Rows.outerPartsRow.shortTexts.isNone) = true := by kernel_rfl
theorem a24 : (Tryz.pinned.checked.prog.stopsHeard) = true := by kernel_rfl
theorem a25 : (Tryz.pinned.checked.prog.mayEnter) = true := by kernel_rfl
theorem a26 : (Rows.outerPartsRow.lifted == Tryz.pinned.checked.prog.liftsFinal) = true := by kernel_rfl
theorem a27 : (Tryz.pinned.checked.prog.make == some Rows.outerPartsRow.make) = true := by kernel_rfl
theorem a28 : (Rows.outerPartsRow.kinds == (if Rows.outerPartsRow.domain.isEmpty then [] else Tryz.f4.params.toList.map fun t => match Tryz.pinned.checked.prog.underlying t with | some (.int k) => some k | _ => none)) = true := by kernel_rfl
theorem a29 : (Rows.outerPartsRow.pinned == Rows.outerPartsRow.pinnedBy) = true := by kernel_rfl
theorem a30 : (Rows.outerPartsRow.veiled == (Tryz.f4.params.toList ++ Rows.outerPartsSpec.plain.varTypes Tryz.pinned.checked.prog ++ Tryz.f4.resultTypes.toList).any (Tryz.pinned.checked.prog.veiledRec ·)) = true := by kernel_rfl
theorem a31 : (Rows.outerPartsRow.veiledFits Tryz.pinned.checked.prog Tryz.f4.params.toList (Tryz.f4.params.toList ++ Rows.outerPartsSpec.plain.varTypes Tryz.pinned.checked.prog ++ Tryz.f4.resultTypes.toList)) = true := by kernel_rfl
set_option maxRecDepth 100000 in
theorem facts : joinedFacts Tryz.pinned.checked.prog 4 Tryz.f4 Rows.outerPartsSpec Rows.outerPartsRow = true := by
  unfold joinedFacts
  exact (and_t (and_t (and_t (and_t (and_t (and_t (and_t (and_t (and_t (and_t (and_t (and_t (and_t (and_t (and_t (and_t (and_t (and_t (and_t (and_t (and_t (and_t (and_t (and_t (and_t (and_t (and_t (and_t (and_t (and_t (and_t a0 a1) a2) a3) a4) a5) a6) a7) a8) a9) a10) a11) a12) a13) a14) a15) a16) a17) a18) a19) a20) a21) a22) a23) a24) a25) a26) a27) a28) a29) a30) a31)
theorem named : Tryz.pinned.checked.prog.funcNamed Rows.outerPartsRow.func = some 4 := by kernel_rfl
theorem wfText : Rows.outerPartsRow.wfByText (OpenSpec.ofChange Rows.outerPartsSpec) = true := by kernel_rfl
theorem mainIs : Tryz.pinned.checked.prog.mainIs = some (true, "28dbe928f1be55a73db9b4819b2edd1f6a61a2d3f02bd33d225c0fc3560c3166".toList) := by kernel_rfl
theorem looks : true = Tryz.pinned.checked.prog.looks [] := by kernel_rfl
theorem goes : false = Rows.outerPartsRow.goesBy Tryz.pinned.checked.prog := by kernel_rfl
theorem wants22 : Tryz.pinned.checked.prog.wantsStandIn 22 = false := by kernel_rfl
end Go.Proofs.YtjcminooghmpeaaGreatDoor.factOuterParts
