import Derived.Test.YtphgdofmjpdhaaaGreatPk10
set_option linter.unusedVariables false
set_option linter.unusedSimpArgs false
namespace Go.Proofs.YtphgdofmjpdhaaaGreat
open Go.RowKit
open Go.WideShapes
set_option maxRecDepth 100000
set_option maxHeartbeats 4000000
theorem law_each_of (hsh : PureC Tryz.prog 12 [] (boo true)) (v : VVm) (R : Int → VVm) (r : Int → Int) (hv : VIn2 v) (hp : may10 v = true → ∀ n, PureC Tryz.prog 14 [eVm v, i64 n] (tVm (R n, r n))) (hq : may10 v = true → ∀ n, PureC Tryz.prog 15 [eVm v, i64 n] (tVm (R n, r n)))
  (hs : may10 v = true → ∀ n, PureC Tryz.prog 18 [eVm (R n), eVm (R n)] (boo true)) : PureC Tryz.prog 4 [eVm v] (boo true) := by
 refine pW tG (rs := [.tmp 2]) Tryz.func4 rfl rfl rfl (by simp) (by simp) (fun B => ?_)
 refine zu2 ?_
 refine z8 ?_
 refine Wc rfl rfl (dC rfl Tryz.func12 rfl rfl ((hsh) _)) ?_
 refine zs1 ?_
 refine Ws ?_
 refine zp1 ?_
 refine Wc rfl rfl (dC rfl Tryz.func13 rfl rfl ((ref_May10 v hv) _)) ?_
 refine zs1 ?_
 refine Wi rfl (fun hi1 => ?_) (fun hi1 => ?_)
 ·refine zu2 ?_
  refine zR ?_
  rfl
 ·have hm : may10 v = true := not_f hi1
  refine Wj ?_
  refine Ws ?_
  refine zu1 ?_
  refine Wl ?_
  show W _ _ _ _ _ _ _
  refine W_loopS (fun (k : Nat) => [(1, .ptr 0 0), (3, boo true), (4, i64 (k : Int))]) (fun (k : Nat) => [.cells (cVm v) 36]) (fun (k : Nat) => []) (fun (k : Nat) => k ≤ 131) (fun (k : Nat) => 131 - k) (0) (by omega) [] ?_ ?_
  ·exact fitT
  ·intro k hk
   refine Ws ?_
   refine zu2 ?_
   refine Wi rfl (fun hi2 => ?_) (fun hi2 => ?_)
   ·have hlt : k ≤ 130 := by have := oT hi2; omega
    refine Wj ?_
    refine Ws ?_
    refine Wl ?_
    refine zp2 ?_
    refine Wc rfl rfl (dC rfl Tryz.func14 rfl rfl ((hp hm k) _)) ?_
    refine zy5 ?_
    refine zs1 ?_
    refine zp2 ?_
    refine Wc rfl rfl (dC rfl Tryz.func15 rfl rfl ((hq hm k) _)) ?_
    refine zy5 ?_
    refine zs1 ?_
    refine zp2 ?_
    refine Wc rfl rfl (dC rfl Tryz.func18 rfl rfl ((hs hm k) _)) ?_
    refine zy2 ?_
    refine WO_false 34 rfl (by rfl) ?_
    refine zs4 ?_
    refine Wf rfl (by simp) ?_
    refine Wj ?_
    refine W_region rfl ?_
    refine zs3 ?_
    exact ⟨k + 1, [], (by omega), (by omega), fitT⟩
   ·refine W_exit ?_
    refine zu2 ?_
    refine zR ?_
    rfl
theorem law_each (v : VVm) (hv : OkVm v) : PureC Tryz.prog 4 [eVm v] (boo true) :=
 law_each_of law_shown v (fun n => (doS v n).1) (fun n => (doS v n).2) (okVm_in hv) (fun hm n => (tell_ok hv hm n).1) (fun hm n => (tell_ok hv hm n).2.1) (fun hm n => (tell_ok hv hm n).2.2)
theorem walk_PrimEach (v0 : Value) (w : World) (h0 : Reads w 36 v0) :
  Calls Tryz.prog 4 #[v0] w fun e w' => e = .returned (.bool true) ∧ Below w.heap.size w w' := by
 obtain ⟨x, hx, hr⟩ := reads_vm h0
 exact law_calls (args := [eVm x]) (law_each x hx) (repL_cons.2 ⟨hr, repL_nil.2 rfl⟩)
end Go.Proofs.YtphgdofmjpdhaaaGreat
