/- The statement OuterParts is proved: whatever the input the Go function returns true, and its arguments read as before; and its tied card. No condition. -/
import Derived.Test.YtjcminooghmpeaaGreatDoorPk12
import Derived.Test.YtjcminooghmpeaaGreatDoorRows
import Derived.Test.YtjcminooghmpeaaGreatDoorCards
import Derived.Test.YtjcminooghmpeaaGreatDoorTie
import Derived.Test.YtjcminooghmpeaaGreatDoorFactOuterParts
import Derived.WalkKit
import Derived.ProofKit
import Derived.OpenShut
import Derived.ShutString
import Derived.ChangeOld
import Derived.Below
import Derived.ChangeSame
import Derived.ChangeVars
import Derived.JoinedOf
import Derived.LaidLaws
import Derived.LaidHandle
import Derived.Stop.Joined
import Derived.Stop.LaidErr
namespace Go.Proofs.YtjcminooghmpeaaGreatDoor.lawOuterParts
open Go.ChangeShapes Go.WideShapes Go.ChangeAt Go.RowKit Go.Proofs.Tryz
set_option linter.all false
theorem own : ownKnob prog.godebug = none := by kernel_rfl
theorem lO : laidOutB prog = true := by kernel_rfl
theorem et : prog.globalNamed "errors.errorType" = some 0 := by kernel_rfl
theorem eh : prog.globalNamed "detent/inner.errHalt" = some 1 := by kernel_rfl
theorem eht : (prog.globals[1]?).map (·.type) = some 87 := by kernel_rfl
theorem rt : (prog.cutTypes.find? (·.1 == "internal/reflectlite.rtype")).map (·.2) = some 221 := by kernel_rfl
theorem oR : ((List.range 413).filter fun t => prog.rowNamed t [101, 114, 114, 111, 114]) = [87] := by kernel_rfl
theorem size : prog.types.size = 413 := by kernel_rfl
theorem star : "*" ++ "errors.errorString" = "*errors.errorString" := by decide
theorem rP (u : TypeId) (h : prog.typeName? 3 u = some "*errors.errorString") : u = 383 :=
  typeName_ptr_named (nm := "errors.errorString") (by rw [star]; kernel_rfl) (by kernel_rfl) (by decide) u (by rw [star]; exact h)
abbrev LH : List (String × DataW Unit) := [("errors.errorType", Rows.laid_errors_errorType), ("detent/inner.errHalt", Rows.laid_detent_inner_errHalt)]
theorem lP {W : World} (h : laidMetH prog LH W) : laidMet prog [("detent/inner.errHalt", .iface "*errors.errorString" (.ptr (.agg [.lit (.string [111, 118, 101, 114])])))] W ∧ handlesMet prog [("errors.errorType", Rows.laid_errors_errorType)] W := by
  have q := laidMetH_iff.1 h
  have e1 : (LH : List (String × DataW Unit)).filter (fun x => x.2.handleName?.isNone) = [("detent/inner.errHalt", Rows.laid_detent_inner_errHalt)] := by kernel_rfl
  have e2 : (LH : List (String × DataW Unit)).filter (fun x => x.2.handleName?.isSome) = [("errors.errorType", Rows.laid_errors_errorType)] := by kernel_rfl
  rw [e1, e2] at q
  exact q
theorem hL0 {W : World} (h : laidMetH prog LH W) : W.cell? ⟨0, 0, none⟩ = some etV := by
  obtain ⟨name, u, ty, e1, e2, e3, e4, e5⟩ := (lP h).2 _ (List.mem_singleton.2 rfl)
  have en : name = [101, 114, 114, 111, 114] := (Option.some.inj e1).symm
  subst en
  obtain rfl := Option.some.inj (rt.symm.trans e2)
  have hm : ty ∈ (List.range 413).filter fun t => prog.rowNamed t [101, 114, 114, 111, 114] := List.mem_filter.2 ⟨List.mem_range.2 (by rw [← size]; exact e3), e4⟩
  rw [oR] at hm
  obtain rfl := List.mem_singleton.1 hm
  have hh : typeHandle prog 87 = .pointer (some ⟨5, 87, none⟩) := by kernel_rfl
  rw [hh] at e5
  simpa [etV] using World.var?_cell et e5 0
theorem hH0 {W : World} (h : laidMetH prog LH W) : ∃ a, W.cell? ⟨1, 0, none⟩ = some (haltV a) := by
  obtain ⟨a, s, hv, _⟩ := laid_sentinel (lP h).1 eh eht underlying87 rP underlying383 underlying401 rfl rfl underlying9 (by kernel_rfl) (by kernel_rfl)
  exact ⟨a, by simpa [haltV] using World.var?_cell eh hv 0⟩
abbrev oT : ByteArray := { data := #[111, 118, 101, 114] }
noncomputable def low : Nat := (World.holding prog default ⟨#[], #[], []⟩).heap.size
noncomputable def lW (os : Os) : World :=
  let w0 := World.holding prog os ⟨#[.cells #[.string oT] 401], #[], []⟩
  { w0 with heap := (w0.heap.modify 0 fun
      | .cells _ t frozen => .cells #[.iface 221 (.agg #[.pointer (some ⟨5, 87, none⟩)])] t frozen
      | o => o).modify 1 fun
      | .cells _ t frozen => .cells #[.iface 383 (.pointer (some ⟨low, 0, none⟩))] t frozen
      | o => o }
theorem lM (os : Os) (args : Array Value) : laidMetH prog LH ((lW os).forCall (fun _ _ => 0) ⟨#[], args, []⟩).memory :=
  laidMetH_of_parts (laidMet_of_run (ps := [.cell 1 0, .cell low 0]) 8 (by kernel_rfl) (by kernel_rfl) (by kernel_rfl)) (by kernel_rfl)
set_option maxRecDepth 100000 in
theorem lf (os : Os) (started : os.Started) (H : Type) (enc : TypeId × Value → H) :
    ReturnsInHanded {} checked os 4 .any (fun w args => (Rows.outerPartsSpec.pre enc prog f4 [] false w args ∧ laidMetH prog LH w) ∧ sizedMet enc prog f4 (OpenSpec.ofChange Rows.outerPartsSpec) false w args)
      (Rows.outerPartsSpec.post enc prog f4 false true false false) := by
  refine returnsInHanded_of_change_and (C := checked) (X := fun w _ => laidMetH prog LH w) (fun _ _ _ hh h => h.of_heap hh) own started (by kernel_rfl) func4
    (ChangeSpec.witness_at (enc := enc) (C := checked) (os := os) (X := fun w _ => laidMetH prog LH w) false (lW os) #[.slice none 0 0, .slice none 0 0] 8 rfl (by kernel_rfl) (by kernel_rfl) (by kernel_rfl) (by kernel_rfl) (by kernel_rfl) (lM os _)) ?_
  intro W base args ds gs before hval0 hW _ _ hL _
  have hval : ∀ (j : Nat) t v, f4.params[j]? = some t → args[j]? = some v → Value.okWide prog W .any base t v := hval0
  have hW' := hW
  obtain ⟨p, q, hA0, hV, rfl, hfz, hnd⟩ := hW
  have hA : DataW.TrodAll enc prog W 0 (fun _ => true) true f4.params.toList args.toList ds p := hA0
  rw [params4] at hA hval
  obtain ⟨v0, vs0, d0, ds0, p0, q0, hargs, rfl, rfl, h0, r0⟩ := trodAll_cons hA
  obtain ⟨v1, vs1, d1, ds1, p1, q1, rfl, rfl, rfl, h1, r1⟩ := trodAll_cons r0
  obtain ⟨rfl, rfl, rfl⟩ := trodAll_nil r1
  obtain rfl : args = #[v0, v1] := by cases args; simp_all
  obtain ⟨rfl, rfl⟩ := trodVars_none hV
  have lt0 : ∀ x ∈ p0, x.block < W.heap.size := by obtain ⟨m, hm⟩ := h0; exact DataW.trod_lt m _ _ _ hm
  have lt1 : ∀ x ∈ p1, x.block < W.heap.size := by obtain ⟨m, hm⟩ := h1; exact DataW.trod_lt m _ _ _ hm
  obtain ⟨a, hh⟩ := hH0 hL
  have R := walk_OuterParts a v0 v1 W hh (hL0 hL) ⟨H, enc, d0, p0, base, hval 0 _ v0 rfl rfl, h0⟩ ⟨H, enc, d1, p1, base, hval 1 _ v1 rfl rfl, h1⟩
  clear hA0 hval0
  refine R.mono fun e W' ⟨he, bel⟩ => ?_
  subst he
  exact ⟨_, rfl, _, _, _, [], _, [], hW', trodAll_mk1 (shut_bool underlying4 _), (trodAll_cons_mk (Below.trod lO (by kernel_rfl) (of_decide_eq_true (by kernel_rfl)) h0 bel lt0) (trodAll_cons_mk (Below.trod lO (by kernel_rfl) (of_decide_eq_true (by kernel_rfl)) h1 bel lt1) trodAll_mk0)), rfl, bel.frame _, fun h => by cases h⟩
theorem over : Rows.outerPartsRow.holds Tryz.pinned (OpenSpec.ofChange Rows.outerPartsSpec) :=
  OpenClaim.holds_of_wide 4 f4 rfl rfl rfl rfl rfl rfl rfl ⟨rfl, rfl, rfl, rfl, rfl⟩ rfl rfl rfl rfl rfl factOuterParts.named func4 factOuterParts.facts
    (of_decide_eq_true (by kernel_rfl)) (by unfold Func.isWrapper; first | (rw [if_pos (by decide +kernel)]; kernel_rfl) | (rw [if_neg (by decide +kernel)]; exact ⟨rfl, rfl⟩))
    (fun os started H enc _ => lf os started H enc)
theorem rowProved : Rows.OuterPartsSaid := over
/-- The statement. -/
theorem proved : Rows.OuterPartsCardSaid :=
  Claim7.holds_tied_plain_at .later [] [.handle, .sentinel] true (true, "28dbe928f1be55a73db9b4819b2edd1f6a61a2d3f02bd33d225c0fc3560c3166") true
    over (fun _ h => by cases h) factOuterParts.wfText (fun _ h => by cases h) outerParts_row_tie rfl ⟨rfl, rfl⟩ factOuterParts.mainIs rfl
    (fun f fn hf hfn => by
      obtain rfl : f = 4 := Option.some.inj (factOuterParts.named.symm.trans hf) |>.symm
      obtain rfl : fn = f4 := (Option.some.inj (func4.symm.trans hfn)).symm
      exact ⟨factOuterParts.looks, fun j t ht => by
        rw [params4] at ht
        match j, ht with
        | 0, ht =>
          obtain rfl : 22 = t := by simpa using ht
          exact factOuterParts.wants22
        | 1, ht =>
          obtain rfl : 22 = t := by simpa using ht
          exact factOuterParts.wants22
        | j + 2, ht => simp at ht⟩)
    factOuterParts.goes
#print axioms proved
end Go.Proofs.YtjcminooghmpeaaGreatDoor.lawOuterParts
