/- The statement InnerStates: what is reckoned once over the whole program. No condition. -/
import Derived.Test.YtobhnjnffnbbkaaGreatDoorRows
import Derived.Test.YtobhnjnffnbbkaaGreatDoorCards
import Derived.JoinedOf
import Derived.KernelRfl
namespace Go.Proofs.YtobhnjnffnbbkaaGreatDoor.factInnerStates
theorem and_t {a b : Bool} (ha : a = true) (hb : b = true) : (a && b) = true := by rw [ha, hb]; rfl
theorem a0 : (Rows.innerStatesRow.wf (OpenSpec.ofChange Rows.innerStatesSpec)) = true := by kernel_rfl
theorem a1 : (laidOutB Tryz.pinned.checked.prog) = true := by kernel_rfl
theorem a2 : (mapsRowed Tryz.pinned.checked.prog) = true := by kernel_rfl
theorem a3 : (Tryz.f10.params.all (Tryz.pinned.checked.prog.readableRec ·)) = true := by kernel_rfl
theorem a4 : (namedTie Tryz.pinned.checked.prog Rows.innerStatesRow.named Rows.innerStatesSpec.vars) = true := by kernel_rfl
theorem a5 : (Rows.innerStatesRow.stops == []) = true := by kernel_rfl
theorem a6 : (Tryz.pinned.checked.prog.stops == []) = true := by kernel_rfl
theorem a7 : (Rows.innerStatesRow.knobs == []) = true := by kernel_rfl
theorem a8 : (Tryz.pinned.checked.prog.stopKnobs == []) = true := by kernel_rfl
theorem a9 : (Rows.innerStatesRow.inPlace == Tryz.pinned.checked.prog.inPlace 10) = true := by kernel_rfl
theorem a10 : (Rows.innerStatesRow.unfollowed == Tryz.pinned.checked.prog.unfollowed 10) = true := by kernel_rfl
theorem a11 : (Rows.innerStatesRow.recurses == Tryz.pinned.checked.prog.recurses 10) = true := by kernel_rfl
theorem a12 : (Rows.innerStatesRow.named == Tryz.pinned.checked.prog.varsNamed 10) = true := by kernel_rfl
theorem a13 : (Rows.innerStatesRow.maps == (Tryz.f10.params.toList ++ Rows.innerStatesSpec.plain.varTypes Tryz.pinned.checked.prog).any (Tryz.pinned.checked.prog.mapsRec ·)) = true := by kernel_rfl
theorem a14 : (Rows.innerStatesRow.ifaces == (Tryz.f10.params.toList ++ Rows.innerStatesSpec.plain.varTypes Tryz.pinned.checked.prog).any (Tryz.pinned.checked.prog.ifacesRec ·)) = true := by kernel_rfl
theorem a15 : (Rows.innerStatesRow.mapsOut == Tryz.pinned.checked.prog.mapsAmong Tryz.f10.resultTypes.toList) = true := by kernel_rfl
theorem a16 : (Rows.innerStatesRow.loops == (Tryz.f10.params.toList ++ Rows.innerStatesSpec.plain.varTypes Tryz.pinned.checked.prog).any (Tryz.pinned.checked.prog.loopsFrom ·)) = true := by kernel_rfl
theorem a17 : (Rows.innerStatesRow.wideKeys == (Tryz.f10.params.toList ++ Rows.innerStatesSpec.plain.varTypes Tryz.pinned.checked.prog ++ Tryz.f10.resultTypes.toList).any (Tryz.pinned.checked.prog.wideKeysFrom ·)) = true := by kernel_rfl
theorem a18 : (Rows.innerStatesSpec.vars.all (Tryz.pinned.checked.prog.varReadable ·)) = true := by kernel_rfl
theorem a19 : (Tryz.f10.resultTypes.all (fun t => Tryz.pinned.checked.prog.readableRec t && decide (t < Tryz.pinned.checked.prog.types.size))) = true := by kernel_rfl
theorem a20 : (Rows.innerStatesRow.ifacesOut == Tryz.f10.resultTypes.toList.any (Tryz.pinned.checked.prog.ifacesRec ·)) = true := by kernel_rfl
theorem a21 : (Rows.innerStatesRow.loopsOut == Tryz.f10.resultTypes.toList.any (Tryz.pinned.checked.prog.loopsFrom ·)) = true := by kernel_rfl
theorem a22 : (Rows.innerStatesRow.plainKeys == Tryz.pinned.checked.prog.plainKeys) = true := by kernel_rfl
theorem a23 : (Rows.innerStatesRow.shortTexts.isNone) = true := by kernel_rfl
theorem a24 : (Tryz.pinned.checked.prog.stopsHeard) = true := by kernel_rfl
theorem a25 : (Tryz.pinned.checked.prog.mayEnter) = true := by kernel_rfl
theorem a26 : (Rows.innerStatesRow.lifted == Tryz.pinned.checked.prog.liftsFinal) = true := by kernel_rfl
theorem a27 : (Tryz.pinned.checked.prog.make == some Rows.innerStatesRow.make) = true := by kernel_rfl
theorem a28 : (Rows.innerStatesRow.kinds == (if Rows.innerStatesRow.domain.isEmpty then [] else Tryz.f10.params.toList.map fun t => match Tryz.pinned.checked.prog.underlying t with | some (.int k) => some k | _ => none)) = true := by kernel_rfl
theorem a29 : (Rows.innerStatesRow.pinned == Rows.innerStatesRow.pinnedBy) = true := by kernel_rfl
theorem a30 : (Rows.innerStatesRow.veiled == (Tryz.f10.params.toList ++ Rows.innerStatesSpec.plain.varTypes Tryz.pinned.checked.prog ++ Tryz.f10.resultTypes.toList).any (Tryz.pinned.checked.prog.veiledRec ·)) = true := by kernel_rfl
theorem a31 : (Rows.innerStatesRow.veiledFits Tryz.pinned.checked.prog Tryz.f10.params.toList (Tryz.f10.params.toList ++ Rows.innerStatesSpec.plain.varTypes Tryz.pinned.checked.prog ++ Tryz.f10.resultTypes.toList)) = true := by kernel_rfl
set_option maxRecDepth 100000 in
theorem facts : joinedFacts Tryz.pinned.checked.prog 10 Tryz.f10 Rows.innerStatesSpec Rows.innerStatesRow = true := by
  unfold joinedFacts
  exact (and_t (and_t (and_t (and_t (and_t (and_t (and_t (and_t (and_t (and_t (and_t (and_t (and_t (and_t (and_t (and_t (and_t (and_t (and_t (and_t (and_t (and_t (and_t (and_t (and_t (and_t (and_t (and_t (and_t (and_t (and_t a0 a1) a2) a3) a4) a5) a6) a7) a8) a9) a10) a11) a12) a13) a14) a15) a16) a17) a18) a19) a20) a21) a22) a23) a24) a25) a26) a27) a28) a29) a30) a31)
theorem named : Tryz.pinned.checked.prog.funcNamed Rows.innerStatesRow.func = some 10 := by kernel_rfl
theorem wfText : Rows.innerStatesRow.wfByText (OpenSpec.ofChange Rows.innerStatesSpec) = true := by kernel_rfl
theorem mainIs : Tryz.pinned.checked.prog.mainIs = some (true, "61d8d3666c19c6511c2f7dc8b2980b9eb17bb83922193e80ee260bfa0b8b3e75".toList) := by kernel_rfl
theorem looks : true = Tryz.pinned.checked.prog.looks [] := by kernel_rfl
theorem goes : false = Rows.innerStatesRow.goesBy Tryz.pinned.checked.prog := by kernel_rfl
theorem wants3 : Tryz.pinned.checked.prog.wantsStandIn 3 = false := by kernel_rfl
theorem wants5 : Tryz.pinned.checked.prog.wantsStandIn 5 = false := by kernel_rfl
end Go.Proofs.YtobhnjnffnbbkaaGreatDoor.factInnerStates
