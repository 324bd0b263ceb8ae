/- The statement InnerCatches: what is reckoned once over the whole program. No condition. -/
import Derived.Test.YtobhnjnffnbbkaaGreatDoorRows
import Derived.Test.YtobhnjnffnbbkaaGreatDoorCards
import Derived.JoinedOf
import Derived.KernelRfl
namespace Go.Proofs.YtobhnjnffnbbkaaGreatDoor.factInnerCatches
theorem and_t {a b : Bool} (ha : a = true) (hb : b = true) : (a && b) = true := by rw [ha, hb]; rfl
theorem a0 : (Rows.innerCatchesRow.wf (OpenSpec.ofChange Rows.innerCatchesSpec)) = true := by kernel_rfl
theorem a1 : (laidOutB Tryz.pinned.checked.prog) = true := by kernel_rfl
theorem a2 : (mapsRowed Tryz.pinned.checked.prog) = true := by kernel_rfl
theorem a3 : (Tryz.f7.params.all (Tryz.pinned.checked.prog.readableRec ·)) = true := by kernel_rfl
theorem a4 : (namedTie Tryz.pinned.checked.prog Rows.innerCatchesRow.named Rows.innerCatchesSpec.vars) = true := by kernel_rfl
theorem a5 : (Rows.innerCatchesRow.stops == []) = true := by kernel_rfl
theorem a6 : (Tryz.pinned.checked.prog.stops == []) = true := by kernel_rfl
theorem a7 : (Rows.innerCatchesRow.knobs == []) = true := by kernel_rfl
theorem a8 : (Tryz.pinned.checked.prog.stopKnobs == []) = true := by kernel_rfl
theorem a9 : (Rows.innerCatchesRow.inPlace == Tryz.pinned.checked.prog.inPlace 7) = true := by kernel_rfl
theorem a10 : (Rows.innerCatchesRow.unfollowed == Tryz.pinned.checked.prog.unfollowed 7) = true := by kernel_rfl
theorem a11 : (Rows.innerCatchesRow.recurses == Tryz.pinned.checked.prog.recurses 7) = true := by kernel_rfl
theorem a12 : (Rows.innerCatchesRow.named == Tryz.pinned.checked.prog.varsNamed 7) = true := by kernel_rfl
theorem a13 : (Rows.innerCatchesRow.maps == (Tryz.f7.params.toList ++ Rows.innerCatchesSpec.plain.varTypes Tryz.pinned.checked.prog).any (Tryz.pinned.checked.prog.mapsRec ·)) = true := by kernel_rfl
theorem a14 : (Rows.innerCatchesRow.ifaces == (Tryz.f7.params.toList ++ Rows.innerCatchesSpec.plain.varTypes Tryz.pinned.checked.prog).any (Tryz.pinned.checked.prog.ifacesRec ·)) = true := by kernel_rfl
theorem a15 : (Rows.innerCatchesRow.mapsOut == Tryz.pinned.checked.prog.mapsAmong Tryz.f7.resultTypes.toList) = true := by kernel_rfl
theorem a16 : (Rows.innerCatchesRow.loops == (Tryz.f7.params.toList ++ Rows.innerCatchesSpec.plain.varTypes Tryz.pinned.checked.prog).any (Tryz.pinned.checked.prog.loopsFrom ·)) = true := by kernel_rfl
theorem a17 : (Rows.innerCatchesRow.wideKeys == (Tryz.f7.params.toList ++ Rows.innerCatchesSpec.plain.varTypes Tryz.pinned.checked.prog ++ Tryz.f7.resultTypes.toList).any (Tryz.pinned.checked.prog.wideKeysFrom ·)) = true := by kernel_rfl
theorem a18 : (Rows.innerCatchesSpec.vars.all (Tryz.pinned.checked.prog.varReadable ·)) = true := by kernel_rfl
theorem a19 : (Tryz.f7.resultTypes.all (fun t => Tryz.pinned.checked.prog.readableRec t && decide (t < Tryz.pinned.checked.prog.types.size))) = true := by kernel_rfl
theorem a20 : (Rows.innerCatchesRow.ifacesOut == Tryz.f7.resultTypes.toList.any (Tryz.pinned.checked.prog.ifacesRec ·)) = true := by kernel_rfl
theorem a21 : (Rows.innerCatchesRow.loopsOut == Tryz.f7.resultTypes.toList.any (Tryz.pinned.checked.prog.loopsFrom ·)) = true := by kernel_rfl
theorem a22 : (Rows.innerCatchesRow.plainKeys == Tryz.pinned.checked.prog.plainKeys) = true := by kernel_rfl
theorem a23 : (Rows.innerCatchesRow.shortTexts.isNone) = true := by kernel_rfl
theorem a24 : (Tryz.pinned.checked.prog.stopsHeard) = true := by kernel_rfl
theorem a25 : (Tryz.pinned.checked.prog.mayEnter) = true := by kernel_rfl
theorem a26 : (Rows.innerCatchesRow.lifted == Tryz.pinned.checked.prog.liftsFinal) = true := by kernel_rfl
theorem a27 : (Tryz.pinned.checked.prog.make == some Rows.innerCatchesRow.make) = true := by kernel_rfl
theorem a28 : (Rows.innerCatchesRow.kinds == (if Rows.innerCatchesRow.domain.isEmpty then [] else Tryz.f7.params.toList.map fun t => match Tryz.pinned.checked.prog.underlying t with | some (.int k) => some k | _ => none)) = true := by kernel_rfl
theorem a29 : (Rows.innerCatchesRow.pinned == Rows.innerCatchesRow.pinnedBy) = true := by kernel_rfl
theorem a30 : (Rows.innerCatchesRow.veiled == (Tryz.f7.params.toList ++ Rows.innerCatchesSpec.plain.varTypes Tryz.pinned.checked.prog ++ Tryz.f7.resultTypes.toList).any (Tryz.pinned.checked.prog.veiledRec ·)) = true := by kernel_rfl
theorem a31 : (Rows.innerCatchesRow.veiledFits Tryz.pinned.checked.prog Tryz.f7.params.toList (Tryz.f7.params.toList ++ Rows.innerCatchesSpec.plain.varTypes Tryz.pinned.checked.prog ++ Tryz.f7.resultTypes.toList)) = true := by kernel_rfl
set_option maxRecDepth 100000 in
theorem facts : joinedFacts Tryz.pinned.checked.prog 7 Tryz.f7 Rows.innerCatchesSpec Rows.innerCatchesRow = true := by
  unfold joinedFacts
  exact (and_t (and_t (and_t (and_t (and_t (and_t (and_t (and_t (and_t (and_t (and_t (and_t (and_t (and_t (and_t (and_t (and_t (and_t (and_t (and_t (and_t (and_t (and_t (and_t (and_t (and_t (and_t (and_t (and_t (and_t (and_t a0 a1) a2) a3) a4) a5) a6) a7) a8) a9) a10) a11) a12) a13) a14) a15) a16) a17) a18) a19) a20) a21) a22) a23) a24) a25) a26) a27) a28) a29) a30) a31)
theorem named : Tryz.pinned.checked.prog.funcNamed Rows.innerCatchesRow.func = some 7 := by kernel_rfl
theorem wfText : Rows.innerCatchesRow.wfByText (OpenSpec.ofChange Rows.innerCatchesSpec) = true := by kernel_rfl
theorem mainIs : Tryz.pinned.checked.prog.mainIs = some (true, "61d8d3666c19c6511c2f7dc8b2980b9eb17bb83922193e80ee260bfa0b8b3e75".toList) := by kernel_rfl
theorem looks : true = Tryz.pinned.checked.prog.looks [] := by kernel_rfl
theorem goes : false = Rows.innerCatchesRow.goesBy Tryz.pinned.checked.prog := by kernel_rfl
theorem wants28 : Tryz.pinned.checked.prog.wantsStandIn 28 = false := by kernel_rfl
theorem wants3 : Tryz.pinned.checked.prog.wantsStandIn 3 = false := by kernel_rfl
theorem wants5 : Tryz.pinned.checked.prog.wantsStandIn 5 = false := by kernel_rfl
end Go.Proofs.YtobhnjnffnbbkaaGreatDoor.factInnerCatches
