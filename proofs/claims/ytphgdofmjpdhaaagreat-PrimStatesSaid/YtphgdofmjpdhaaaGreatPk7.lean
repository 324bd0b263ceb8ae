import Derived.Test.YtphgdofmjpdhaaaGreatPk6
set_option linter.unusedVariables false
set_option linter.unusedSimpArgs false
namespace Go.Proofs.YtphgdofmjpdhaaaGreat
open Go.RowKit
set_option linter.unusedVariables false
set_option maxRecDepth 100000
set_option maxHeartbeats 4000000
@[simp] theorem flat_fn {f : Fn} {a b : List PV} : Flat (.fn f a b) ↔ FlatL a ∧ FlatL b := by rw [Flat]
@[simp] theorem flat_row {a : List PV} : Flat (.row a) ↔ FlatL a := by rw [Flat]
abbrev fnP (g : FuncId) (cap : List PV) : PV := .fn (.func g) [] cap
abbrev deedP (k : Int) (f : FuncId) (cap : List PV) : PV := .agg [i64 k, fnP f cap]
abbrev CallP (g : FuncId) (args : List PV) (res : PV) : Prop := ∀ H, Callable Tryz.prog g args H res H
theorem prim_told (l : List Int) : PureC Tryz.prog 55 [sq cInt l] (tLv (l, 0)) := by
 refine pW tG (rs := [.tmp 2, .tmp 3]) Tryz.func55 rfl rfl rfl (by simp) (by simp) (fun B => ?_)
 refine Ws ?_
 refine W_region rfl ?_
 iterate 2 refine We tG rfl rfl rfl trivial ?_
 refine Wn ?_
 refine Ws ?_
 refine W_region rfl ?_
 iterate 3 refine We tG rfl rfl rfl trivial ?_
 refine Wn ?_
 refine Wq ?_
 refine lP rfl ?_
 rfl
theorem prim_flag (b : Bool) : PureC Tryz.prog 101 [boo b] (i64 (flagS b)) := by
 refine pW tG (rs := [.tmp 2]) Tryz.func101 rfl rfl rfl (by simp) (by simp) (fun B => ?_)
 refine Ws ?_
 refine W_region rfl ?_
 refine We tG rfl rfl rfl trivial ?_
 refine Wn ?_
 iterate 2 refine Ws ?_
 refine W_region rfl ?_
 refine We tG rfl rfl rfl trivial ?_
 refine Wn ?_
 refine Wi rfl (fun hi1 => ?_) (fun hi1 => ?_)
 ·refine Ws ?_
  refine W_region rfl ?_
  refine We tG rfl rfl rfl trivial ?_
  refine Wn ?_
  refine Wq ?_
  refine lP rfl ?_
  rw [hi1]; rfl
 ·refine Wj ?_
  refine Ws ?_
  refine W_region rfl ?_
  refine We tG rfl rfl rfl trivial ?_
  refine Wn ?_
  refine Wq ?_
  refine lP rfl ?_
  rw [hi1]; rfl
theorem mk_pure (k : Int) (g : FuncId) (cap : List PV) (hc : FlatL cap) : PureC Tryz.prog 50 [i64 k, fnP g cap] (deedP k 80 [.row [fnP g cap]]) := by
 refine pW tG (rs := [.cell 4 75]) Tryz.func50 rfl rfl rfl (by simp [hc]) (by simp [hc]) (fun B => ?_)
 refine Ws ?_
 refine W_region rfl ?_
 refine We tG rfl rfl rfl trivial ?_
 refine WO_freezeP 3 _ rfl rfl rfl ?_
 refine We tG rfl rfl rfl trivial ?_
 refine Wn ?_
 refine Ws ?_
 refine W_region rfl ?_
 iterate 4 refine We tG rfl rfl rfl trivial ?_
 refine Wn ?_
 refine Wq ?_
 refine lP rfl ?_
 rfl
theorem d_pure (g : FuncId) (cap : List PV) (v : VVm) (x : List Int) (r : List Int × Int) (hc : FlatL cap) (hg : CallP g ([sq cInt x] ++ cap) (tLv r)) :
  ∀ (H : List Ob) (i : Nat), H[i]? = some (.cells (cVm v) 36) → HC Tryz.prog 80 (.ptr i 0 :: [sq cInt x, .row [fnP g cap]]) H (tLv r) (H.set i (.cells (cVm v) 36)) := by
 refine mut_of_W tG (rs := [.tmp 5, .tmp 6]) Tryz.func80 rfl rfl rfl (by simp [hc]) (by simp [hc]) (by simp [hc]) (by simp [hc]) (fun B => ?_)
 refine Ws ?_
 refine W_region rfl ?_
 iterate 2 refine We tG rfl rfl rfl trivial ?_
 refine Wn ?_
 refine Ws ?_
 refine W_region rfl ?_
 iterate 2 refine We tG rfl rfl rfl trivial ?_
 refine Wc rfl rfl (doesCWs rfl rfl (hg _)) ?_
 iterate 4 refine We tG rfl rfl rfl trivial ?_
 refine Wn ?_
 refine Wq ?_
 first | refine leafM rfl rfl ?_ ?_ | refine leafMs rfl rfl ?_ ?_
 ·rfl
 ·first | rfl | (simp_all; done) | (simp_all; omega)
theorem mk_shown (g : FuncId) (cap : List PV) (hc : FlatL cap) : PureC Tryz.prog 124 [fnP g cap] (deedP 0 223 [.row [fnP g cap]]) := by
 refine pW tG (rs := [.cell 2 75]) Tryz.func124 rfl rfl rfl (by simp [hc]) (by simp [hc]) (fun B => ?_)
 refine Ws ?_
 refine W_region rfl ?_
 refine We tG rfl rfl rfl trivial ?_
 refine WO_freezeP 1 _ rfl rfl rfl ?_
 refine We tG rfl rfl rfl trivial ?_
 refine Wn ?_
 refine Ws ?_
 refine W_region rfl ?_
 iterate 3 refine We tG rfl rfl rfl trivial ?_
 refine Wn ?_
 refine Wq ?_
 refine lP rfl ?_
 rfl
theorem d_shown (g : FuncId) (cap : List PV) (v : VVm) (x : List Int) (n : Int) (hc : FlatL cap) (hg : CallP g ([eVm v] ++ cap) (i64 n)) :
  ∀ (H : List Ob) (i : Nat), H[i]? = some (.cells (cVm v) 36) → HC Tryz.prog 223 (.ptr i 0 :: [sq cInt x, .row [fnP g cap]]) H (tLv ([n], 0)) (H.set i (.cells (cVm v) 36)) := by
 refine mut_of_W tG (rs := [.tmp 5, .tmp 6]) Tryz.func223 rfl rfl rfl (by simp [hc]) (by simp [hc]) (by simp [hc]) (by simp [hc]) (fun B => ?_)
 refine Ws ?_
 refine W_region rfl ?_
 iterate 2 refine We tG rfl rfl rfl trivial ?_
 refine Wn ?_
 refine Ws ?_
 refine W_drawU [1, 0, 0, 1, 0, 0, 0, 0, 0, 0, 0] [0, 1, 2, 3, 4, 5, 6, 7, 8, 9, 10] mG rfl (by kernel_rfl) ?_
 refine Xf tG rfl rfl rfl rfl (fun _ => rfl) trivial ?_
 refine Xe tG rfl rfl rfl rfl (fun _ => rfl) trivial ?_
 refine Xe tG rfl rfl rfl rfl (fun _ => rfl) trivial ?_
 refine Xf tG rfl rfl rfl rfl (fun _ => rfl) trivial ?_
 refine Xc rfl rfl rfl rfl (fun _ => doesCWs rfl rfl (hg _)) ?_
 refine Xe tG rfl rfl rfl rfl (fun _ => rfl) trivial ?_
 first | refine Xa 12 rfl (bsL cInt [_] rfl rfl) ?_ | skip
 refine Xc rfl rfl rfl rfl (fun _ => dC rfl Tryz.func55 rfl rfl ((prim_told [n]) _)) ?_
 refine Xe tG rfl rfl rfl rfl (fun _ => rfl) trivial ?_
 refine Xe tG rfl rfl rfl rfl (fun _ => rfl) trivial ?_
 refine Xe tG rfl rfl rfl rfl (fun _ => rfl) trivial ?_
 refine Xe tG rfl rfl rfl rfl (fun _ => rfl) trivial ?_
 refine WU_nil ?_
 refine Wq ?_
 first | refine leafM rfl rfl ?_ ?_ | refine leafMs rfl rfl ?_ ?_
 ·rfl
 ·first | rfl | (simp_all; done) | (simp_all; omega)
theorem mk_fetches (g : FuncId) (cap : List PV) (hc : FlatL cap) : PureC Tryz.prog 104 [fnP g cap] (deedP 1 216 [.row [fnP g cap]]) := by
 refine pW tG (rs := [.cell 2 75]) Tryz.func104 rfl rfl rfl (by simp [hc]) (by simp [hc]) (fun B => ?_)
 refine Ws ?_
 refine W_region rfl ?_
 refine We tG rfl rfl rfl trivial ?_
 refine WO_freezeP 1 _ rfl rfl rfl ?_
 refine We tG rfl rfl rfl trivial ?_
 refine Wn ?_
 refine Ws ?_
 refine W_region rfl ?_
 iterate 3 refine We tG rfl rfl rfl trivial ?_
 refine Wn ?_
 refine Wq ?_
 refine lP rfl ?_
 rfl
theorem d_fetches (g : FuncId) (cap : List PV) (v : VVm) (x : List Int) (r : Int × Int) (hx : 1 ≤ x.length) (hc : FlatL cap) (hg : CallP g ([eMem v.mem, i64 (xat x 0)] ++ cap) (tFetch r)) :
  ∀ (H : List Ob) (i : Nat), H[i]? = some (.cells (cVm v) 36) → HC Tryz.prog 216 (.ptr i 0 :: [sq cInt x, .row [fnP g cap]]) H (tLv ([r.1], r.2)) (H.set i (.cells (cVm v) 36)) := by
 refine mut_of_W tG (rs := [.tmp 5, .tmp 6]) Tryz.func216 rfl rfl rfl (by simp [hc]) (by simp [hc]) (by simp [hc]) (by simp [hc]) (fun B => ?_)
 refine Ws ?_
 refine W_region rfl ?_
 iterate 2 refine We tG rfl rfl rfl trivial ?_
 refine Wn ?_
 refine Ws ?_
 refine W_drawU [1, 0, 0, 0, 1, 0, 0, 1, 0, 0, 0, 0, 0, 0] [0, 1, 2, 3, 4, 5, 6, 7, 8, 9, 10, 11, 12, 13] mG rfl (by kernel_rfl) ?_
 refine Xf tG rfl rfl rfl rfl (fun _ => rfl) trivial ?_
 refine Xe tG rfl rfl rfl rfl (fun _ => rfl) trivial ?_
 refine Xe tG rfl rfl rfl rfl (fun _ => rfl) trivial ?_
 refine Xe tG rfl rfl rfl rfl (fun _ => rfl) trivial ?_
 refine Xf tG rfl rfl rfl rfl (fun _ => rfl) trivial ?_
 refine Xe tG rfl rfl rfl rfl (fun _ => rfl) trivial ?_
 first | refine Xi tG rfl rfl rfl rfl (fun _ => rfl) (by first | exact trivial | omega | (simp only [dnL] at *; omega) | (simp_all; done) | (simp_all; omega)) (iN cInt 1 (fun _ => rfl) 0 (by first | exact trivial | omega | (simp only [dnL] at *; omega) | (simp_all; done) | (simp_all; omega))) ?_ | refine Xi tG rfl rfl rfl rfl (fun _ => rfl) (by first | exact trivial | omega | (simp only [dnL] at *; omega) | (simp_all; done) | (simp_all; omega)) (iR cInt 1 (fun _ => rfl) 0 (by first | exact trivial | omega | (simp only [dnL] at *; omega) | (simp_all; done) | (simp_all; omega))) ?_
 refine Xf tG rfl rfl rfl rfl (fun _ => rfl) trivial ?_
 refine Xc rfl rfl rfl rfl (fun _ => doesCWs rfl rfl (hg _)) ?_
 refine Xe tG rfl rfl rfl rfl (fun _ => rfl) trivial ?_
 refine Xe tG rfl rfl rfl rfl (fun _ => rfl) trivial ?_
 refine Xe tG rfl rfl rfl rfl (fun _ => rfl) trivial ?_
 refine Xe tG rfl rfl rfl rfl (fun _ => rfl) trivial ?_
 refine Xe tG rfl rfl rfl rfl (fun _ => rfl) trivial ?_
 refine WU_nil ?_
 refine Ws ?_
 refine W_region rfl ?_
 iterate 2 refine We tG rfl rfl rfl trivial ?_
 first | refine Wa 22 rfl (bsL cInt [_] rfl rfl) ?_ | skip
 iterate 3 refine We tG rfl rfl rfl trivial ?_
 refine Wn ?_
 refine Wq ?_
 first | refine leafM rfl rfl ?_ ?_ | refine leafMs rfl rfl ?_ ?_
 ·rfl
 ·first | rfl | (simp_all; done) | (simp_all; omega)
theorem mk_changes (k : Int) (g : FuncId) (cap : List PV) (hc : FlatL cap) : PureC Tryz.prog 107 [i64 k, fnP g cap] (deedP k 220 [.row [fnP g cap]]) := by
 refine pW tG (rs := [.cell 4 75]) Tryz.func107 rfl rfl rfl (by simp [hc]) (by simp [hc]) (fun B => ?_)
 refine Ws ?_
 refine W_region rfl ?_
 refine We tG rfl rfl rfl trivial ?_
 refine WO_freezeP 3 _ rfl rfl rfl ?_
 refine We tG rfl rfl rfl trivial ?_
 refine Wn ?_
 refine Ws ?_
 refine W_region rfl ?_
 iterate 4 refine We tG rfl rfl rfl trivial ?_
 refine Wn ?_
 refine Wq ?_
 refine lP rfl ?_
 rfl
theorem d_changes (g : FuncId) (cap : List PV) (v : VVm) (x : List Int) (r : VMem × Int) (hc : FlatL cap) (hg : CallP g ([eMem v.mem, sq cInt x] ++ cap) (tMem r)) :
  ∀ (H : List Ob) (i : Nat), H[i]? = some (.cells (cVm v) 36) → HC Tryz.prog 220 (.ptr i 0 :: [sq cInt x, .row [fnP g cap]]) H (tLv ([], r.2)) (H.set i (.cells (cVm (withM v r.1)) 36)) := by
 refine mut_of_W tG (rs := [.tmp 5, .tmp 6]) Tryz.func220 rfl rfl rfl (by simp [hc]) (by simp [hc]) (by simp [hc]) (by simp [hc]) (fun B => ?_)
 refine Ws ?_
 refine W_region rfl ?_
 iterate 2 refine We tG rfl rfl rfl trivial ?_
 refine Wn ?_
 refine Ws ?_
 refine W_drawU [1, 0, 0, 0, 1, 0, 0, 0, 0, 0, 2, 3, 0] [0, 1, 2, 3, 4, 5, 6, 7, 8, 9, 10, 11, 12] mG rfl (by kernel_rfl) ?_
 refine Xf tG rfl rfl rfl rfl (fun _ => rfl) trivial ?_
 refine Xe tG rfl rfl rfl rfl (fun _ => rfl) trivial ?_
 refine Xe tG rfl rfl rfl rfl (fun _ => rfl) trivial ?_
 refine Xe tG rfl rfl rfl rfl (fun _ => rfl) trivial ?_
 refine Xf tG rfl rfl rfl rfl (fun _ => rfl) trivial ?_
 refine Xe tG rfl rfl rfl rfl (fun _ => rfl) trivial ?_
 refine Xc rfl rfl rfl rfl (fun _ => doesCWs rfl rfl (hg _)) ?_
 refine Xe tG rfl rfl rfl rfl (fun _ => rfl) trivial ?_
 refine Xe tG rfl rfl rfl rfl (fun _ => rfl) trivial ?_
 refine Xe tG rfl rfl rfl rfl (fun _ => rfl) trivial ?_
 refine WU_ev2 tG rfl rfl rfl rfl rfl trivial rfl ?_
 refine WU_ev3 tG rfl rfl rfl rfl rfl trivial ?_
 refine Xe tG rfl rfl rfl rfl (fun _ => rfl) trivial ?_
 refine WU_nil ?_
 refine Ws ?_
 refine W_region rfl ?_
 iterate 5 refine We tG rfl rfl rfl trivial ?_
 refine Wn ?_
 refine Ws ?_
 refine W_region rfl ?_
 iterate 3 refine We tG rfl rfl rfl trivial ?_
 refine Wn ?_
 refine Wq ?_
 first | refine leafM rfl rfl ?_ ?_ | refine leafMs rfl rfl ?_ ?_
 ·rfl
 ·first | rfl | (simp_all; done) | (simp_all; omega)
theorem mk_lays (k : Int) (g : FuncId) (cap : List PV) (hc : FlatL cap) : PureC Tryz.prog 127 [i64 k, fnP g cap] (deedP k 224 [.row [fnP g cap]]) := by
 refine pW tG (rs := [.cell 4 75]) Tryz.func127 rfl rfl rfl (by simp [hc]) (by simp [hc]) (fun B => ?_)
 refine Ws ?_
 refine W_region rfl ?_
 refine We tG rfl rfl rfl trivial ?_
 refine WO_freezeP 3 _ rfl rfl rfl ?_
 refine We tG rfl rfl rfl trivial ?_
 refine Wn ?_
 refine Ws ?_
 refine W_region rfl ?_
 iterate 4 refine We tG rfl rfl rfl trivial ?_
 refine Wn ?_
 refine Wq ?_
 refine lP rfl ?_
 rfl
theorem d_lays (g : FuncId) (cap : List PV) (v : VVm) (x : List Int) (r : VMem × Int × Int) (hc : FlatL cap) (hg : CallP g ([eMem v.mem, i64 v.here, sq cInt x] ++ cap) (tLay r)) :
  ∀ (H : List Ob) (i : Nat), H[i]? = some (.cells (cVm v) 36) → HC Tryz.prog 224 (.ptr i 0 :: [sq cInt x, .row [fnP g cap]]) H (tLv ([], r.2.2)) (H.set i (.cells (cVm (pLay v r).1) 36)) := by
 refine mut_of_W tG (rs := [.tmp 5, .tmp 6]) Tryz.func224 rfl rfl rfl (by simp [hc]) (by simp [hc]) (by simp [hc]) (by simp [hc]) (fun B => ?_)
 refine Ws ?_
 refine W_region rfl ?_
 iterate 2 refine We tG rfl rfl rfl trivial ?_
 refine Wn ?_
 refine Ws ?_
 refine W_drawU [1, 0, 0, 0, 1, 0, 0, 0, 1, 0, 0, 0, 0, 0, 0, 2, 3, 0, 0] [0, 1, 2, 3, 4, 5, 6, 7, 8, 9, 10, 11, 12, 13, 14, 15, 16, 17, 18] mG rfl (by kernel_rfl) ?_
 refine Xf tG rfl rfl rfl rfl (fun _ => rfl) trivial ?_
 refine Xe tG rfl rfl rfl rfl (fun _ => rfl) trivial ?_
 refine Xe tG rfl rfl rfl rfl (fun _ => rfl) trivial ?_
 refine Xe tG rfl rfl rfl rfl (fun _ => rfl) trivial ?_
 refine Xf tG rfl rfl rfl rfl (fun _ => rfl) trivial ?_
 refine Xe tG rfl rfl rfl rfl (fun _ => rfl) trivial ?_
 refine Xe tG rfl rfl rfl rfl (fun _ => rfl) trivial ?_
 refine Xe tG rfl rfl rfl rfl (fun _ => rfl) trivial ?_
 refine Xf tG rfl rfl rfl rfl (fun _ => rfl) trivial ?_
 refine Xe tG rfl rfl rfl rfl (fun _ => rfl) trivial ?_
 refine Xc rfl rfl rfl rfl (fun _ => doesCWs rfl rfl (hg _)) ?_
 refine Xe tG rfl rfl rfl rfl (fun _ => rfl) trivial ?_
 refine Xe tG rfl rfl rfl rfl (fun _ => rfl) trivial ?_
 refine Xe tG rfl rfl rfl rfl (fun _ => rfl) trivial ?_
 refine Xe tG rfl rfl rfl rfl (fun _ => rfl) trivial ?_
 refine WU_ev2 tG rfl rfl rfl rfl rfl trivial rfl ?_
 refine WU_ev3 tG rfl rfl rfl rfl rfl trivial ?_
 refine Xe tG rfl rfl rfl rfl (fun _ => rfl) trivial ?_
 refine Xe tG rfl rfl rfl rfl (fun _ => rfl) trivial ?_
 refine WU_nil ?_
 refine Ws ?_
 refine W_region rfl ?_
 iterate 10 refine We tG rfl rfl rfl trivial ?_
 refine Wn ?_
 refine Ws ?_
 refine W_region rfl ?_
 iterate 3 refine We tG rfl rfl rfl trivial ?_
 refine Wn ?_
 refine Wq ?_
 first | refine leafM rfl rfl ?_ ?_ | refine leafMs rfl rfl ?_ ?_
 ·rfl
 ·first | rfl | (simp_all; done) | (simp_all; omega)
theorem mk_puts (k : Int) (g : FuncId) (cap : List PV) (hc : FlatL cap) : PureC Tryz.prog 138 [i64 k, fnP g cap] (deedP k 227 [.row [fnP g cap]]) := by
 refine pW tG (rs := [.cell 4 75]) Tryz.func138 rfl rfl rfl (by simp [hc]) (by simp [hc]) (fun B => ?_)
 refine Ws ?_
 refine W_region rfl ?_
 refine We tG rfl rfl rfl trivial ?_
 refine WO_freezeP 3 _ rfl rfl rfl ?_
 refine We tG rfl rfl rfl trivial ?_
 refine Wn ?_
 refine Ws ?_
 refine W_region rfl ?_
 iterate 4 refine We tG rfl rfl rfl trivial ?_
 refine Wn ?_
 refine Wq ?_
 refine lP rfl ?_
 rfl
theorem d_puts (g : FuncId) (cap : List PV) (v : VVm) (x : List Int) (r : Str × Int) (ho : 0 ≤ v.conf.out ∧ v.conf.out ≤ 1000000) (hl : v.out.length ≤ 1000000) (hr : r.1.length ≤ 140737488355328) (hc : FlatL cap) (hg : CallP g ([eVm v, sq cInt x] ++ cap) (tShow r)) :
  ∀ (H : List Ob) (i : Nat), H[i]? = some (.cells (cVm v) 36) → HC Tryz.prog 227 (.ptr i 0 :: [sq cInt x, .row [fnP g cap]]) H (tLv (pPrint v r).2) (H.set i (.cells (cVm (pPrint v r).1) 36)) := by
 refine mut_of_W tG (rs := [.tmp 5, .tmp 6]) Tryz.func227 rfl rfl rfl (by simp [hc]) (by simp [hc]) (by simp [hc]) (by simp [hc]) (fun B => ?_)
 refine Ws ?_
 refine W_region rfl ?_
 iterate 2 refine We tG rfl rfl rfl trivial ?_
 refine Wn ?_
 refine Ws ?_
 refine W_drawU [1, 0, 0, 1, 0, 0, 0, 0, 0, 0, 0] [0, 1, 2, 3, 4, 5, 6, 7, 8, 9, 10] mG rfl (by kernel_rfl) ?_
 refine Xf tG rfl rfl rfl rfl (fun _ => rfl) trivial ?_
 refine Xe tG rfl rfl rfl rfl (fun _ => rfl) trivial ?_
 refine Xe tG rfl rfl rfl rfl (fun _ => rfl) trivial ?_
 refine Xf tG rfl rfl rfl rfl (fun _ => rfl) trivial ?_
 refine Xe tG rfl rfl rfl rfl (fun _ => rfl) trivial ?_
 refine Xc rfl rfl rfl rfl (fun _ => doesCWs rfl rfl (hg _)) ?_
 refine Xe tG rfl rfl rfl rfl (fun _ => rfl) trivial ?_
 refine Xe tG rfl rfl rfl rfl (fun _ => rfl) trivial ?_
 refine Xe tG rfl rfl rfl rfl (fun _ => rfl) trivial ?_
 refine Xe tG rfl rfl rfl rfl (fun _ => rfl) trivial ?_
 refine Xe tG rfl rfl rfl rfl (fun _ => rfl) trivial ?_
 refine WU_nil ?_
 iterate 2 refine Ws ?_
 refine W_region rfl ?_
 iterate 2 refine We tG rfl rfl rfl trivial ?_
 refine Wn ?_
 refine Wi rfl (fun hi1 => ?_) (fun hi1 => ?_)
 ·have h0 : ¬ r.2 = 0 := by simpa using hi1
  refine Ws ?_
  refine W_region rfl ?_
  iterate 3 refine We tG rfl rfl rfl trivial ?_
  refine Wn ?_
  refine Wq ?_
  first | refine leafM rfl rfl ?_ ?_ | refine leafMs rfl rfl ?_ ?_
  ·rw [pPrint, if_neg h0]; rfl
  ·rw [pPrint, if_neg h0]; rfl
 ·have h0 : r.2 = 0 := by simpa using hi1
  refine Wj ?_
  refine Ws ?_
  refine W_region rfl ?_
  iterate 4 refine We tG rfl rfl rfl trivial ?_
  refine Wc rfl rfl (dC rfl Tryz.func228 rfl rfl ((vm_Print v r.1 ho hl hr) _)) ?_
  iterate 6 refine We tG rfl rfl rfl trivial ?_
  refine Wn ?_
  refine Ws ?_
  refine W_region rfl ?_
  iterate 4 refine We tG rfl rfl rfl trivial ?_
  refine Wn ?_
  refine Ws ?_
  refine W_region rfl ?_
  iterate 3 refine We tG rfl rfl rfl trivial ?_
  refine Wn ?_
  refine Wq ?_
  first | refine leafM rfl rfl ?_ ?_ | refine leafMs rfl rfl ?_ ?_
  ·rw [pPrint, if_pos h0]; rfl
  ·rw [pPrint, if_pos h0]; rfl
theorem prim_base (v : VVm) (hm : v.mem.b.length ≤ 140737488355328) : PureC Tryz.prog 140 [eVm v] (i64 (baseS v)) := by
 refine pW tG (rs := [.tmp 2]) Tryz.func140 rfl rfl rfl (by simp) (by simp) (fun B => ?_)
 refine Ws ?_
 refine W_region rfl ?_
 iterate 2 refine We tG rfl rfl rfl trivial ?_
 refine Wn ?_
 refine Ws ?_
 refine W_region rfl ?_
 iterate 2 refine We tG rfl rfl rfl trivial ?_
 refine Wc rfl rfl (dC rfl Tryz.func105 rfl rfl ((mem_Fetch v.mem 0 hm (by unfold Fit64; omega)) _)) ?_
 iterate 5 refine We tG rfl rfl rfl trivial ?_
 refine Wn ?_
 refine Ws ?_
 refine W_region rfl ?_
 iterate 2 refine We tG rfl rfl rfl trivial ?_
 refine Wn ?_
 refine Wq ?_
 refine lP rfl ?_
 rfl
theorem mk_number (g : FuncId) (cap : List PV) (hc : FlatL cap) : PureC Tryz.prog 137 [fnP g cap] (deedP 1 227 [.row [fnP 139 [.row [fnP g cap]]]]) := by
 refine pW tG (rs := [.cell 2 75]) Tryz.func137 rfl rfl rfl (by simp [hc]) (by simp [hc]) (fun B => ?_)
 refine Ws ?_
 refine W_region rfl ?_
 refine We tG rfl rfl rfl trivial ?_
 refine WO_freezeP 1 _ rfl rfl rfl ?_
 refine We tG rfl rfl rfl trivial ?_
 refine Wn ?_
 refine Ws ?_
 refine W_region rfl ?_
 refine We tG rfl rfl rfl trivial ?_
 refine Wc rfl rfl (dC rfl Tryz.func138 rfl rfl ((mk_puts 1 139 [.row [fnP g cap]] (by simp [hc])) _)) ?_
 refine We tG rfl rfl rfl trivial ?_
 refine Wn ?_
 refine Wq ?_
 refine lP rfl ?_
 rfl
theorem d_number (g : FuncId) (cap : List PV) (v : VVm) (x : List Int) (r : Str × Int) (hx : 1 ≤ x.length) (hm : v.mem.b.length ≤ 140737488355328) (hr : r.1.length ≤ 140737488355328) (hc : FlatL cap) (hg : CallP g ([i64 (xat x 0), i64 (baseS v)] ++ cap) (tShow r)) :
  PureC Tryz.prog 139 [eVm v, sq cInt x, .row [fnP g cap]] (tShow (pDot r)) := by
 refine pW tG (rs := [.tmp 5, .tmp 6]) Tryz.func139 rfl rfl rfl (by simp [hc]) (by simp [hc]) (fun B => ?_)
 refine Ws ?_
 refine W_region rfl ?_
 iterate 3 refine We tG rfl rfl rfl trivial ?_
 refine Wn ?_
 refine Ws ?_
 refine W_drawU [1, 0, 0, 1, 1, 0, 0, 0, 0, 0, 0, 0] [0, 1, 2, 3, 4, 5, 6, 7, 8, 9, 10, 11] mG rfl (by kernel_rfl) ?_
 refine Xf tG rfl rfl rfl rfl (fun _ => rfl) trivial ?_
 refine Xe tG rfl rfl rfl rfl (fun _ => rfl) trivial ?_
 first | refine Xi tG rfl rfl rfl rfl (fun _ => rfl) (by first | exact trivial | omega | (simp only [dnL] at *; omega) | (simp_all; done) | (simp_all; omega)) (iN cInt 1 (fun _ => rfl) 0 (by first | exact trivial | omega | (simp only [dnL] at *; omega) | (simp_all; done) | (simp_all; omega))) ?_ | refine Xi tG rfl rfl rfl rfl (fun _ => rfl) (by first | exact trivial | omega | (simp only [dnL] at *; omega) | (simp_all; done) | (simp_all; omega)) (iR cInt 1 (fun _ => rfl) 0 (by first | exact trivial | omega | (simp only [dnL] at *; omega) | (simp_all; done) | (simp_all; omega))) ?_
 refine Xf tG rfl rfl rfl rfl (fun _ => rfl) trivial ?_
 refine Xf tG rfl rfl rfl rfl (fun _ => rfl) trivial ?_
 refine Xc rfl rfl rfl rfl (fun _ => dC rfl Tryz.func140 rfl rfl ((prim_base v hm) _)) ?_
 refine Xc rfl rfl rfl rfl (fun _ => doesCWs rfl rfl (hg _)) ?_
 refine Xe tG rfl rfl rfl rfl (fun _ => rfl) trivial ?_
 refine Xe tG rfl rfl rfl rfl (fun _ => rfl) trivial ?_
 refine Xe tG rfl rfl rfl rfl (fun _ => rfl) trivial ?_
 refine Xe tG rfl rfl rfl rfl (fun _ => rfl) trivial ?_
 refine Xe tG rfl rfl rfl rfl (fun _ => rfl) trivial ?_
 refine WU_nil ?_
 refine Ws ?_
 refine W_region rfl ?_
 refine We tG rfl rfl rfl trivial ?_
 refine We tG rfl rfl rfl (by simp only [str_size]; first | exact trivial | omega | (simp only [dnL] at *; omega) | (simp_all; done) | (simp_all; omega)) ?_
 refine Wa 20 rfl (str_append _ _) ?_
 iterate 3 refine We tG rfl rfl rfl trivial ?_
 refine Wn ?_
 refine Wq ?_
 refine lP rfl ?_
 rfl
theorem mk_text (s : Str) : PureC Tryz.prog 141 [str s] (deedP 0 227 [.row [fnP 142 [.row [str s]]]]) := by
 refine pW tG (rs := [.cell 2 75]) Tryz.func141 rfl rfl rfl (by simp) (by simp) (fun B => ?_)
 refine Ws ?_
 refine W_region rfl ?_
 refine We tG rfl rfl rfl trivial ?_
 refine WO_freezeP 1 _ rfl rfl rfl ?_
 refine We tG rfl rfl rfl trivial ?_
 refine Wn ?_
 refine Ws ?_
 refine W_region rfl ?_
 refine We tG rfl rfl rfl trivial ?_
 refine Wc rfl rfl (dC rfl Tryz.func138 rfl rfl ((mk_puts 0 142 [.row [str s]] (by simp)) _)) ?_
 refine We tG rfl rfl rfl trivial ?_
 refine Wn ?_
 refine Wq ?_
 refine lP rfl ?_
 rfl
theorem d_text (s : Str) (v : VVm) (x : List Int) : PureC Tryz.prog 142 [eVm v, sq cInt x, .row [str s]] (tShow (s, 0)) := by
 refine pW tG (rs := [.tmp 5, .tmp 6]) Tryz.func142 rfl rfl rfl (by simp) (by simp) (fun B => ?_)
 refine Ws ?_
 refine W_region rfl ?_
 iterate 3 refine We tG rfl rfl rfl trivial ?_
 refine Wn ?_
 refine Ws ?_
 refine W_region rfl ?_
 iterate 3 refine We tG rfl rfl rfl trivial ?_
 refine Wn ?_
 refine Wq ?_
 refine lP rfl ?_
 rfl
theorem mk_lay (g : FuncId) (cap : List PV) (hc : FlatL cap) : PureC Tryz.prog 150 [fnP g cap] (deedP 1 151 [.row [fnP g cap]]) := by
 refine pW tG (rs := [.cell 2 75]) Tryz.func150 rfl rfl rfl (by simp [hc]) (by simp [hc]) (fun B => ?_)
 refine Ws ?_
 refine W_region rfl ?_
 refine We tG rfl rfl rfl trivial ?_
 refine WO_freezeP 1 _ rfl rfl rfl ?_
 refine We tG rfl rfl rfl trivial ?_
 refine Wn ?_
 refine Ws ?_
 refine W_region rfl ?_
 iterate 3 refine We tG rfl rfl rfl trivial ?_
 refine Wn ?_
 refine Wq ?_
 refine lP rfl ?_
 rfl
theorem d_lay (g : FuncId) (cap : List PV) (v : VVm) (x : List Int) (r : VPic × Int) (hx : 1 ≤ x.length) (hc : FlatL cap) (hg : CallP g ([ePic v.pic, i64 (xat x 0)] ++ cap) (tPic r)) :
  ∀ (H : List Ob) (i : Nat), H[i]? = some (.cells (cVm v) 36) → HC Tryz.prog 151 (.ptr i 0 :: [sq cInt x, .row [fnP g cap]]) H (tLv ([], r.2)) (H.set i (.cells (cVm (withP v r.1)) 36)) := by
 refine mut_of_W tG (rs := [.tmp 5, .tmp 6]) Tryz.func151 rfl rfl rfl (by simp [hc]) (by simp [hc]) (by simp [hc]) (by simp [hc]) (fun B => ?_)
 refine Ws ?_
 refine W_region rfl ?_
 iterate 2 refine We tG rfl rfl rfl trivial ?_
 refine Wn ?_
 refine Ws ?_
 refine W_drawU [1, 0, 0, 0, 1, 0, 0, 1, 0, 0, 0, 0, 2, 3, 0] [0, 1, 2, 3, 4, 5, 6, 7, 8, 9, 10, 11, 12, 13, 14] mG rfl (by kernel_rfl) ?_
 refine Xf tG rfl rfl rfl rfl (fun _ => rfl) trivial ?_
 refine Xe tG rfl rfl rfl rfl (fun _ => rfl) trivial ?_
 refine Xe tG rfl rfl rfl rfl (fun _ => rfl) trivial ?_
 refine Xe tG rfl rfl rfl rfl (fun _ => rfl) trivial ?_
 refine Xf tG rfl rfl rfl rfl (fun _ => rfl) trivial ?_
 refine Xe tG rfl rfl rfl rfl (fun _ => rfl) trivial ?_
 first | refine Xi tG rfl rfl rfl rfl (fun _ => rfl) (by first | exact trivial | omega | (simp only [dnL] at *; omega) | (simp_all; done) | (simp_all; omega)) (iN cInt 1 (fun _ => rfl) 0 (by first | exact trivial | omega | (simp only [dnL] at *; omega) | (simp_all; done) | (simp_all; omega))) ?_ | refine Xi tG rfl rfl rfl rfl (fun _ => rfl) (by first | exact trivial | omega | (simp only [dnL] at *; omega) | (simp_all; done) | (simp_all; omega)) (iR cInt 1 (fun _ => rfl) 0 (by first | exact trivial | omega | (simp only [dnL] at *; omega) | (simp_all; done) | (simp_all; omega))) ?_
 refine Xf tG rfl rfl rfl rfl (fun _ => rfl) trivial ?_
 refine Xc rfl rfl rfl rfl (fun _ => doesCWs rfl rfl (hg _)) ?_
 refine Xe tG rfl rfl rfl rfl (fun _ => rfl) trivial ?_
 refine Xe tG rfl rfl rfl rfl (fun _ => rfl) trivial ?_
 refine Xe tG rfl rfl rfl rfl (fun _ => rfl) trivial ?_
 refine WU_ev2 tG rfl rfl rfl rfl rfl trivial rfl ?_
 refine WU_ev3 tG rfl rfl rfl rfl rfl trivial ?_
 refine Xe tG rfl rfl rfl rfl (fun _ => rfl) trivial ?_
 refine WU_nil ?_
 refine Ws ?_
 refine W_region rfl ?_
 iterate 5 refine We tG rfl rfl rfl trivial ?_
 refine Wn ?_
 refine Ws ?_
 refine W_region rfl ?_
 iterate 3 refine We tG rfl rfl rfl trivial ?_
 refine Wn ?_
 refine Wq ?_
 first | refine leafM rfl rfl ?_ ?_ | refine leafMs rfl rfl ?_ ?_
 ·rfl
 ·first | rfl | (simp_all; done) | (simp_all; omega)
theorem prim_store (v : VVm) (a n : Int) (hm : MemOk v.mem) (ha : Fit64 a) : ∀ (H : List Ob) (i : Nat), H[i]? = some (.cells (cVm v) 36) → HC Tryz.prog 122 (.ptr i 0 :: [i64 a, i64 n]) H (i64 (memStore v.mem a n).2) (H.set i (.cells (cVm (withM v (memStore v.mem a n).1)) 36)) := by
 refine mut_of_W tG (rs := [.tmp 6]) Tryz.func122 rfl rfl rfl (by simp) (by simp) (by simp) (by simp) (fun B => ?_)
 refine Ws ?_
 refine W_region rfl ?_
 refine We tG rfl rfl rfl trivial ?_
 refine Wn ?_
 refine Ws ?_
 refine W_region rfl ?_
 iterate 6 refine We tG rfl rfl rfl trivial ?_
 refine Wc rfl rfl (dC rfl Tryz.func109 rfl rfl ((mem_Store v.mem a n hm ha) _)) ?_
 iterate 6 refine We tG rfl rfl rfl trivial ?_
 refine Wn ?_
 refine Ws ?_
 refine W_region rfl ?_
 iterate 5 refine We tG rfl rfl rfl trivial ?_
 refine Wn ?_
 refine Ws ?_
 refine W_region rfl ?_
 iterate 2 refine We tG rfl rfl rfl trivial ?_
 refine Wn ?_
 refine Wq ?_
 first | refine leafM rfl rfl ?_ ?_ | refine leafMs rfl rfl ?_ ?_
 ·rfl
 ·first | rfl | (simp_all; done) | (simp_all; omega)
theorem mk_base (n : Int) : PureC Tryz.prog 120 [i64 n] (deedP 0 121 [.row [i64 n]]) := by
 refine pW tG (rs := [.cell 2 75]) Tryz.func120 rfl rfl rfl (by simp) (by simp) (fun B => ?_)
 refine Ws ?_
 refine W_region rfl ?_
 refine We tG rfl rfl rfl trivial ?_
 refine WO_freezeP 1 _ rfl rfl rfl ?_
 refine We tG rfl rfl rfl trivial ?_
 refine Wn ?_
 refine Ws ?_
 refine W_region rfl ?_
 iterate 3 refine We tG rfl rfl rfl trivial ?_
 refine Wn ?_
 refine Wq ?_
 refine lP rfl ?_
 rfl
theorem d_base (v : VVm) (x : List Int) (n : Int) (hm : MemOk v.mem) : ∀ (H : List Ob) (i : Nat), H[i]? = some (.cells (cVm v) 36) → HC Tryz.prog 121 (.ptr i 0 :: [sq cInt x, .row [i64 n]]) H (tLv (pPut v (memStore v.mem 0 n)).2) (H.set i (.cells (cVm (pPut v (memStore v.mem 0 n)).1) 36)) := by
 refine mut_of_W tG (rs := [.tmp 5, .tmp 6]) Tryz.func121 rfl rfl rfl (by simp) (by simp) (by simp) (by simp) (fun B => ?_)
 refine Ws ?_
 refine W_region rfl ?_
 iterate 2 refine We tG rfl rfl rfl trivial ?_
 refine Wn ?_
 refine Ws ?_
 refine W_region rfl ?_
 iterate 2 refine We tG rfl rfl rfl trivial ?_
 refine Wc rfl rfl (dC rfl Tryz.func122 rfl rfl ((prim_store v 0 n hm (by unfold Fit64; omega)) _ _ rfl)) ?_
 iterate 2 refine We tG rfl rfl rfl trivial ?_
 refine Wn ?_
 refine Wq ?_
 first | refine leafM rfl rfl ?_ ?_ | refine leafMs rfl rfl ?_ ?_
 ·rfl
 ·first | rfl | (simp_all; done) | (simp_all; omega)
theorem mk_always (n : Int) : PureC Tryz.prog 123 [i64 n] (deedP 0 223 [.row [fnP 125 [.row [i64 n]]]]) := by
 refine pW tG (rs := [.cell 2 75]) Tryz.func123 rfl rfl rfl (by simp) (by simp) (fun B => ?_)
 refine Ws ?_
 refine W_region rfl ?_
 refine We tG rfl rfl rfl trivial ?_
 refine WO_freezeP 1 _ rfl rfl rfl ?_
 refine We tG rfl rfl rfl trivial ?_
 refine Wn ?_
 refine Ws ?_
 refine W_region rfl ?_
 refine We tG rfl rfl rfl trivial ?_
 refine Wc rfl rfl (dC rfl Tryz.func124 rfl rfl ((mk_shown 125 [.row [i64 n]] (by simp)) _)) ?_
 refine We tG rfl rfl rfl trivial ?_
 refine Wn ?_
 refine Wq ?_
 refine lP rfl ?_
 rfl
theorem d_always (v : VVm) (n : Int) : PureC Tryz.prog 125 [eVm v, .row [i64 n]] (i64 n) := by
 refine pW tG (rs := [.tmp 3]) Tryz.func125 rfl rfl rfl (by simp) (by simp) (fun B => ?_)
 refine Ws ?_
 refine W_region rfl ?_
 iterate 2 refine We tG rfl rfl rfl trivial ?_
 refine Wn ?_
 refine Ws ?_
 refine W_region rfl ?_
 iterate 2 refine We tG rfl rfl rfl trivial ?_
 refine Wn ?_
 refine Wq ?_
 refine lP rfl ?_
 rfl
theorem prim_stated (v : VVm) (s b : Int) (hm : v.mem.b.length ≤ 140737488355328) (hs : Fit64 s) : ∀ (H : List Ob) (i : Nat), H[i]? = some (.cells (cVm v) 36) → HC Tryz.prog 171 (.ptr i 0 :: [i64 s, i64 b]) H (i64 (stated v s b)) (H.set i (.cells (cVm v) 36)) := by
 have hb : Fit64 (W64 (b + 8)) := by unfold Fit64 W64; rw [i64w]; unfold wrap64; omega
 refine mut_of_W tG (rs := [.tmp 6]) Tryz.func171 rfl rfl rfl (by simp) (by simp) (by simp) (by simp) (fun B => ?_)
 refine Ws ?_
 refine W_region rfl ?_
 refine We tG rfl rfl rfl trivial ?_
 refine Wn ?_
 refine Ws ?_
 refine W_region rfl ?_
 iterate 6 refine We tG rfl rfl rfl trivial ?_
 refine Wc rfl rfl (dC rfl Tryz.func105 rfl rfl ((mem_Fetch v.mem _ hm hb) _)) ?_
 iterate 5 refine We tG rfl rfl rfl trivial ?_
 refine Wn ?_
 iterate 2 refine Ws ?_
 refine W_region rfl ?_
 iterate 3 refine We tG rfl rfl rfl trivial ?_
 refine Wb 21 rfl (fun hg1 => ?_) (fun hg1 => ?_)
 ·have h0 : (memFetch v.mem (W64 (b + 8))).2 = 0 := by simpa using hg1
  iterate 3 refine We tG rfl rfl rfl trivial ?_
  refine Wb 24 rfl (fun hg2 => ?_) (fun hg2 => ?_)
  ·have h1 : s < 0 := by simpa using hg2
   iterate 3 refine Wk rfl rfl ?_
   iterate 2 refine We tG rfl rfl rfl trivial ?_
   refine Wn ?_
   refine Wt rfl rfl ?_
   refine Ws ?_
   refine W_region rfl ?_
   refine We tG rfl rfl rfl trivial ?_
   refine Wn ?_
   refine Wq ?_
   first | refine leafM rfl rfl ?_ ?_ | refine leafMs rfl rfl ?_ ?_
   ·rw [stated, if_pos h0, if_pos (.inl h1)]; rfl
   ·first | rfl | (simp_all; done) | (simp_all; omega)
  ·have h1 : ¬ s < 0 := by simpa using hg2
   iterate 5 refine We tG rfl rfl rfl trivial ?_
   refine Wn ?_
   refine Wi rfl (fun hi1 => ?_) (fun hi1 => ?_)
   ·have h2 : (memFetch v.mem (W64 (b + 8))).1 ≤ s := by simpa using hi1
    refine Ws ?_
    refine W_region rfl ?_
    refine We tG rfl rfl rfl trivial ?_
    refine Wn ?_
    refine Wq ?_
    first | refine leafM rfl rfl ?_ ?_ | refine leafMs rfl rfl ?_ ?_
    ·rw [stated, if_pos h0, if_pos (.inr h2)]; rfl
    ·first | rfl | (simp_all; done) | (simp_all; omega)
   ·have h2 : ¬ (memFetch v.mem (W64 (b + 8))).1 ≤ s := by simpa using hi1
    refine Wj ?_
    refine Ws ?_
    refine W_region rfl ?_
    iterate 2 refine We tG rfl rfl rfl trivial ?_
    refine Wn ?_
    refine Wq ?_
    first | refine leafM rfl rfl ?_ ?_ | refine leafMs rfl rfl ?_ ?_
    ·rw [stated, if_pos h0, if_neg (by rintro (h | h) <;> contradiction), ← h0]; rfl
    ·first | rfl | (simp_all; done) | (simp_all; omega)
 ·have h0 : ¬ (memFetch v.mem (W64 (b + 8))).2 = 0 := by simpa using hg1
  iterate 7 refine Wk rfl rfl ?_
  refine We tG rfl rfl rfl trivial ?_
  refine Wn ?_
  refine Wf rfl rfl ?_
  refine Wj ?_
  refine Ws ?_
  refine W_region rfl ?_
  iterate 2 refine We tG rfl rfl rfl trivial ?_
  refine Wn ?_
  refine Wq ?_
  first | refine leafM rfl rfl ?_ ?_ | refine leafMs rfl rfl ?_ ?_
  ·rw [stated, if_neg h0]; rfl
  ·first | rfl | (simp_all; done) | (simp_all; omega)
end Go.Proofs.YtphgdofmjpdhaaaGreat
namespace Go.Proofs.YtphgdofmjpdhaaaGreat
open Go.RowKit
set_option linter.unusedVariables false
set_option maxRecDepth 100000
set_option maxHeartbeats 4000000
theorem mulS_fit {a b : Int} (ha : Fit a) (hb : Fit b) : Fit (mulS a b).1 ∧ Fit (mulS a b).2 := by
 have h : (a * b).natAbs ≤ 9223372036854775808 * 9223372036854775808 := by rw [Int.natAbs_mul]; exact Nat.mul_le_mul (by omega) (by omega)
 refine ⟨by show Fit (wrap64 _); unfold wrap64; omega, ?_⟩
 show Fit (a * b / 18446744073709551616)
 omega
def XOk (k : Nat) (x : List Int) : Prop := k ≤ x.length ∧ ∀ a ∈ x, Fit64 a
theorem XOk.fit {k : Nat} {x : List Int} (h : XOk k x) (i : Nat) : Fit64 (xat x i) := by
 unfold xat List.getD
 cases hi : x[i]? with
 | none => simp [Fit64]
 | some a => exact h.2 a (List.mem_of_getElem? hi)
theorem XOk.len {k : Nat} {x : List Int} (h : XOk k x) : k ≤ x.length := h.1
theorem rk_parts (q r e : Int) : PureC Tryz.prog 85 [i64 q, i64 r, i64 e] (tLv ([r, q], e)) := by
 refine pW tG (rs := [.tmp 6, .tmp 7]) Tryz.func85 rfl rfl rfl (by simp) (by simp) (fun B => ?_)
 refine Ws ?_
 refine W_region rfl ?_
 iterate 2 refine We tG rfl rfl rfl trivial ?_
 refine Wn ?_
 refine Ws ?_
 refine W_region rfl ?_
 iterate 3 refine We tG rfl rfl rfl trivial ?_
 first | refine Wa 10 rfl (bsL cInt [_, _] rfl rfl) ?_ | skip
 iterate 3 refine We tG rfl rfl rfl trivial ?_
 refine Wn ?_
 refine Wq ?_
 refine lP rfl ?_
 rfl
theorem rk_both (x : List Int) (hx : XOk 3 x) : PureC Tryz.prog 86 [sq cInt x] (t3i (pBoth x)) := by
 have hl := hx.len
 have hf := mulS_fit (hx.fit 0) (hx.fit 1)
 refine pW tG (rs := [.tmp 2, .tmp 3, .tmp 4]) Tryz.func86 rfl rfl rfl (by simp) (by simp) (fun B => ?_)
 refine Ws ?_
 refine W_region rfl ?_
 iterate 3 refine We tG rfl rfl rfl trivial ?_
 refine Wn ?_
 refine Ws ?_
 refine W_drawU [0, 0, 1, 0, 0, 1, 0, 0, 0, 0, 0, 0] [0, 1, 2, 3, 4, 5, 6, 7, 8, 9, 10, 11] mG rfl (by kernel_rfl) ?_
 refine Xe tG rfl rfl rfl rfl (fun _ => rfl) trivial ?_
 first | refine Xi tG rfl rfl rfl rfl (fun _ => rfl) (by first | exact trivial | omega | (simp only [dnL] at *; omega) | (simp_all; done) | (simp_all; omega)) (iN cInt 1 (fun _ => rfl) 0 (by first | exact trivial | omega | (simp only [dnL] at *; omega) | (simp_all; done) | (simp_all; omega))) ?_ | refine Xi tG rfl rfl rfl rfl (fun _ => rfl) (by first | exact trivial | omega | (simp only [dnL] at *; omega) | (simp_all; done) | (simp_all; omega)) (iR cInt 1 (fun _ => rfl) 0 (by first | exact trivial | omega | (simp only [dnL] at *; omega) | (simp_all; done) | (simp_all; omega))) ?_
 refine Xf tG rfl rfl rfl rfl (fun _ => rfl) trivial ?_
 refine Xe tG rfl rfl rfl rfl (fun _ => rfl) trivial ?_
 first | refine Xi tG rfl rfl rfl rfl (fun _ => rfl) (by first | exact trivial | omega | (simp only [dnL] at *; omega) | (simp_all; done) | (simp_all; omega)) (iN cInt 1 (fun _ => rfl) 0 (by first | exact trivial | omega | (simp only [dnL] at *; omega) | (simp_all; done) | (simp_all; omega))) ?_ | refine Xi tG rfl rfl rfl rfl (fun _ => rfl) (by first | exact trivial | omega | (simp only [dnL] at *; omega) | (simp_all; done) | (simp_all; omega)) (iR cInt 1 (fun _ => rfl) 0 (by first | exact trivial | omega | (simp only [dnL] at *; omega) | (simp_all; done) | (simp_all; omega))) ?_
 refine Xf tG rfl rfl rfl rfl (fun _ => rfl) trivial ?_
 refine Xc rfl rfl rfl rfl (fun _ => dC rfl Tryz.func87 rfl rfl ((k_Mul _ _ (hx.fit 0) (hx.fit 1)) _)) ?_
 refine Xe tG rfl rfl rfl rfl (fun _ => rfl) trivial ?_
 refine Xe tG rfl rfl rfl rfl (fun _ => rfl) trivial ?_
 refine Xe tG rfl rfl rfl rfl (fun _ => rfl) trivial ?_
 refine Xe tG rfl rfl rfl rfl (fun _ => rfl) trivial ?_
 refine Xe tG rfl rfl rfl rfl (fun _ => rfl) trivial ?_
 refine WU_nil ?_
 refine Ws ?_
 refine W_region rfl ?_
 iterate 3 refine We tG rfl rfl rfl trivial ?_
 first | refine Wv tG rfl rfl rfl (by first | exact trivial | omega | (simp only [dnL] at *; omega) | (simp_all; done) | (simp_all; omega)) (iN cInt 1 (fun _ => rfl) 0 (by first | exact trivial | omega | (simp only [dnL] at *; omega) | (simp_all; done) | (simp_all; omega))) ?_ | refine Wv tG rfl rfl rfl (by first | exact trivial | omega | (simp only [dnL] at *; omega) | (simp_all; done) | (simp_all; omega)) (iR cInt 1 (fun _ => rfl) 0 (by first | exact trivial | omega | (simp only [dnL] at *; omega) | (simp_all; done) | (simp_all; omega))) ?_
 refine We tG rfl rfl rfl trivial ?_
 refine Wc rfl rfl (dC rfl Tryz.func88 rfl rfl ((k_FDiv _ _ _ hf.2 (hx.fit 2)) _)) ?_
 iterate 6 refine We tG rfl rfl rfl trivial ?_
 refine Wn ?_
 refine Wq ?_
 refine lP rfl ?_
 rfl
theorem cp_parts (q r e : Int) : CallP 85 [i64 q, i64 r, i64 e] (tLv ([r, q], e)) := fun H => ⟨⟨_, Tryz.func85, rfl, rfl⟩, rk_parts q r e H⟩
theorem cp_both (x : List Int) (hx : XOk 3 x) : CallP 86 [sq cInt x] (t3i (pBoth x)) := fun H => ⟨⟨_, Tryz.func86, rfl, rfl⟩, rk_both x hx H⟩
abbrev capA : List PV := [.row [fnP 85 []]]
abbrev capB : List PV := [.row [fnP 86 []]]
abbrev capAB : List PV := [.row [fnP 85 []], .row [fnP 86 []]]
theorem rk_3 (x : List Int) (hx : XOk 2 x) : PureC Tryz.prog 89 ([sq cInt x] ++ capA) (tLv (pDivMod x)) := by
 have hl := hx.len
 refine pW tG (rs := [.tmp 3, .tmp 4]) Tryz.func89 rfl rfl rfl (by simp) (by simp) (fun B => ?_)
 refine Ws ?_
 refine W_region rfl ?_
 iterate 2 refine We tG rfl rfl rfl trivial ?_
 refine Wn ?_
 refine Ws ?_
 refine W_drawU [1, 0, 0, 1, 0, 0, 1, 0, 0, 0, 0, 0, 0, 0, 0, 0] [0, 1, 2, 3, 4, 5, 6, 7, 8, 9, 10, 11, 12, 13, 14, 15] mG rfl (by kernel_rfl) ?_
 refine Xf tG rfl rfl rfl rfl (fun _ => rfl) trivial ?_
 refine Xe tG rfl rfl rfl rfl (fun _ => rfl) trivial ?_
 first | refine Xi tG rfl rfl rfl rfl (fun _ => rfl) (by first | exact trivial | omega | (simp only [dnL] at *; omega) | (simp_all; done) | (simp_all; omega)) (iN cInt 1 (fun _ => rfl) 0 (by first | exact trivial | omega | (simp only [dnL] at *; omega) | (simp_all; done) | (simp_all; omega))) ?_ | refine Xi tG rfl rfl rfl rfl (fun _ => rfl) (by first | exact trivial | omega | (simp only [dnL] at *; omega) | (simp_all; done) | (simp_all; omega)) (iR cInt 1 (fun _ => rfl) 0 (by first | exact trivial | omega | (simp only [dnL] at *; omega) | (simp_all; done) | (simp_all; omega))) ?_
 refine Xf tG rfl rfl rfl rfl (fun _ => rfl) trivial ?_
 refine Xe tG rfl rfl rfl rfl (fun _ => rfl) trivial ?_
 first | refine Xi tG rfl rfl rfl rfl (fun _ => rfl) (by first | exact trivial | omega | (simp only [dnL] at *; omega) | (simp_all; done) | (simp_all; omega)) (iN cInt 1 (fun _ => rfl) 0 (by first | exact trivial | omega | (simp only [dnL] at *; omega) | (simp_all; done) | (simp_all; omega))) ?_ | refine Xi tG rfl rfl rfl rfl (fun _ => rfl) (by first | exact trivial | omega | (simp only [dnL] at *; omega) | (simp_all; done) | (simp_all; omega)) (iR cInt 1 (fun _ => rfl) 0 (by first | exact trivial | omega | (simp only [dnL] at *; omega) | (simp_all; done) | (simp_all; omega))) ?_
 refine Xf tG rfl rfl rfl rfl (fun _ => rfl) trivial ?_
 refine Xc rfl rfl rfl rfl (fun _ => dC rfl Tryz.func81 rfl rfl ((k_Div _ _ (hx.fit 1)) _)) ?_
 refine Xe tG rfl rfl rfl rfl (fun _ => rfl) trivial ?_
 refine Xe tG rfl rfl rfl rfl (fun _ => rfl) trivial ?_
 refine Xe tG rfl rfl rfl rfl (fun _ => rfl) trivial ?_
 refine Xc rfl rfl rfl rfl (fun _ => doesCWs rfl rfl (cp_parts _ _ _ _)) ?_
 refine Xe tG rfl rfl rfl rfl (fun _ => rfl) trivial ?_
 refine Xe tG rfl rfl rfl rfl (fun _ => rfl) trivial ?_
 refine Xe tG rfl rfl rfl rfl (fun _ => rfl) trivial ?_
 refine Xe tG rfl rfl rfl rfl (fun _ => rfl) trivial ?_
 refine WU_nil ?_
 refine Wq ?_
 refine lP rfl ?_
 rfl
theorem rk_4 (x : List Int) (hx : XOk 3 x) : PureC Tryz.prog 90 ([sq cInt x] ++ capAB) (tLv (pStarMod x)) := by
 refine pW tG (rs := [.tmp 4, .tmp 5]) Tryz.func90 rfl rfl rfl (by simp) (by simp) (fun B => ?_)
 refine Ws ?_
 refine W_region rfl ?_
 iterate 2 refine We tG rfl rfl rfl trivial ?_
 refine Wn ?_
 refine Ws ?_
 refine W_drawU [1, 1, 0, 0, 0, 0, 0, 0, 0, 0, 0, 0] [0, 1, 2, 3, 4, 5, 6, 7, 8, 9, 10, 11] mG rfl (by kernel_rfl) ?_
 refine Xf tG rfl rfl rfl rfl (fun _ => rfl) trivial ?_
 refine Xf tG rfl rfl rfl rfl (fun _ => rfl) trivial ?_
 refine Xe tG rfl rfl rfl rfl (fun _ => rfl) trivial ?_
 refine Xc rfl rfl rfl rfl (fun _ => doesCWs rfl rfl (cp_both x hx _)) ?_
 refine Xe tG rfl rfl rfl rfl (fun _ => rfl) trivial ?_
 refine Xe tG rfl rfl rfl rfl (fun _ => rfl) trivial ?_
 refine Xe tG rfl rfl rfl rfl (fun _ => rfl) trivial ?_
 refine Xc rfl rfl rfl rfl (fun _ => doesCWs rfl rfl (cp_parts _ _ _ _)) ?_
 refine Xe tG rfl rfl rfl rfl (fun _ => rfl) trivial ?_
 refine Xe tG rfl rfl rfl rfl (fun _ => rfl) trivial ?_
 refine Xe tG rfl rfl rfl rfl (fun _ => rfl) trivial ?_
 refine Xe tG rfl rfl rfl rfl (fun _ => rfl) trivial ?_
 refine WU_nil ?_
 refine Wq ?_
 refine lP rfl ?_
 rfl
theorem rk_5 (x : List Int) (hx : XOk 3 x) : PureC Tryz.prog 91 ([sq cInt x] ++ capB) (tLv (pStar x)) := by
 refine pW tG (rs := [.tmp 3, .tmp 4]) Tryz.func91 rfl rfl rfl (by simp) (by simp) (fun B => ?_)
 refine Ws ?_
 refine W_region rfl ?_
 iterate 2 refine We tG rfl rfl rfl trivial ?_
 refine Wn ?_
 refine Ws ?_
 refine W_region rfl ?_
 iterate 2 refine We tG rfl rfl rfl trivial ?_
 refine Wc rfl rfl (doesCWs rfl rfl (cp_both x hx _)) ?_
 iterate 7 refine We tG rfl rfl rfl trivial ?_
 refine Wn ?_
 refine Ws ?_
 refine W_region rfl ?_
 iterate 2 refine We tG rfl rfl rfl trivial ?_
 first | refine Wa 16 rfl (bsL cInt [_] rfl rfl) ?_ | skip
 iterate 3 refine We tG rfl rfl rfl trivial ?_
 refine Wn ?_
 refine Wq ?_
 refine lP rfl ?_
 rfl
theorem rk_6 (x : List Int) (hx : XOk 2 x) : PureC Tryz.prog 92 [sq cInt x] (tLv (pUM x)) := by
 have hl := hx.len
 refine pW tG (rs := [.tmp 2, .tmp 3]) Tryz.func92 rfl rfl rfl (by simp) (by simp) (fun B => ?_)
 refine Ws ?_
 refine W_region rfl ?_
 iterate 2 refine We tG rfl rfl rfl trivial ?_
 refine Wn ?_
 refine Ws ?_
 refine W_drawU [0, 0, 1, 0, 0, 1, 0, 0, 0, 0, 0, 0] [0, 1, 2, 3, 4, 5, 6, 7, 8, 9, 10, 11] mG rfl (by kernel_rfl) ?_
 refine Xe tG rfl rfl rfl rfl (fun _ => rfl) trivial ?_
 first | refine Xi tG rfl rfl rfl rfl (fun _ => rfl) (by first | exact trivial | omega | (simp only [dnL] at *; omega) | (simp_all; done) | (simp_all; omega)) (iN cInt 1 (fun _ => rfl) 0 (by first | exact trivial | omega | (simp only [dnL] at *; omega) | (simp_all; done) | (simp_all; omega))) ?_ | refine Xi tG rfl rfl rfl rfl (fun _ => rfl) (by first | exact trivial | omega | (simp only [dnL] at *; omega) | (simp_all; done) | (simp_all; omega)) (iR cInt 1 (fun _ => rfl) 0 (by first | exact trivial | omega | (simp only [dnL] at *; omega) | (simp_all; done) | (simp_all; omega))) ?_
 refine Xf tG rfl rfl rfl rfl (fun _ => rfl) trivial ?_
 refine Xe tG rfl rfl rfl rfl (fun _ => rfl) trivial ?_
 first | refine Xi tG rfl rfl rfl rfl (fun _ => rfl) (by first | exact trivial | omega | (simp only [dnL] at *; omega) | (simp_all; done) | (simp_all; omega)) (iN cInt 1 (fun _ => rfl) 0 (by first | exact trivial | omega | (simp only [dnL] at *; omega) | (simp_all; done) | (simp_all; omega))) ?_ | refine Xi tG rfl rfl rfl rfl (fun _ => rfl) (by first | exact trivial | omega | (simp only [dnL] at *; omega) | (simp_all; done) | (simp_all; omega)) (iR cInt 1 (fun _ => rfl) 0 (by first | exact trivial | omega | (simp only [dnL] at *; omega) | (simp_all; done) | (simp_all; omega))) ?_
 refine Xf tG rfl rfl rfl rfl (fun _ => rfl) trivial ?_
 refine Xc rfl rfl rfl rfl (fun _ => dC rfl Tryz.func93 rfl rfl ((k_UMul _ _) _)) ?_
 refine Xe tG rfl rfl rfl rfl (fun _ => rfl) trivial ?_
 refine Xe tG rfl rfl rfl rfl (fun _ => rfl) trivial ?_
 refine Xe tG rfl rfl rfl rfl (fun _ => rfl) trivial ?_
 refine Xe tG rfl rfl rfl rfl (fun _ => rfl) trivial ?_
 refine Xe tG rfl rfl rfl rfl (fun _ => rfl) trivial ?_
 refine WU_nil ?_
 refine Ws ?_
 refine W_region rfl ?_
 iterate 3 refine We tG rfl rfl rfl trivial ?_
 first | refine Wa 18 rfl (bsL cInt [_, _] rfl rfl) ?_ | skip
 refine Wc rfl rfl (dC rfl Tryz.func55 rfl rfl ((prim_told _) _)) ?_
 iterate 4 refine We tG rfl rfl rfl trivial ?_
 refine Wn ?_
 refine Wq ?_
 refine lP rfl ?_
 rfl
theorem rk_7 (x : List Int) (hx : XOk 2 x) : PureC Tryz.prog 94 [sq cInt x] (tLv (pM x)) := by
 have hl := hx.len
 refine pW tG (rs := [.tmp 2, .tmp 3]) Tryz.func94 rfl rfl rfl (by simp) (by simp) (fun B => ?_)
 refine Ws ?_
 refine W_region rfl ?_
 iterate 2 refine We tG rfl rfl rfl trivial ?_
 refine Wn ?_
 refine Ws ?_
 refine W_drawU [0, 0, 1, 0, 0, 1, 0, 0, 0, 0, 0, 0] [0, 1, 2, 3, 4, 5, 6, 7, 8, 9, 10, 11] mG rfl (by kernel_rfl) ?_
 refine Xe tG rfl rfl rfl rfl (fun _ => rfl) trivial ?_
 first | refine Xi tG rfl rfl rfl rfl (fun _ => rfl) (by first | exact trivial | omega | (simp only [dnL] at *; omega) | (simp_all; done) | (simp_all; omega)) (iN cInt 1 (fun _ => rfl) 0 (by first | exact trivial | omega | (simp only [dnL] at *; omega) | (simp_all; done) | (simp_all; omega))) ?_ | refine Xi tG rfl rfl rfl rfl (fun _ => rfl) (by first | exact trivial | omega | (simp only [dnL] at *; omega) | (simp_all; done) | (simp_all; omega)) (iR cInt 1 (fun _ => rfl) 0 (by first | exact trivial | omega | (simp only [dnL] at *; omega) | (simp_all; done) | (simp_all; omega))) ?_
 refine Xf tG rfl rfl rfl rfl (fun _ => rfl) trivial ?_
 refine Xe tG rfl rfl rfl rfl (fun _ => rfl) trivial ?_
 first | refine Xi tG rfl rfl rfl rfl (fun _ => rfl) (by first | exact trivial | omega | (simp only [dnL] at *; omega) | (simp_all; done) | (simp_all; omega)) (iN cInt 1 (fun _ => rfl) 0 (by first | exact trivial | omega | (simp only [dnL] at *; omega) | (simp_all; done) | (simp_all; omega))) ?_ | refine Xi tG rfl rfl rfl rfl (fun _ => rfl) (by first | exact trivial | omega | (simp only [dnL] at *; omega) | (simp_all; done) | (simp_all; omega)) (iR cInt 1 (fun _ => rfl) 0 (by first | exact trivial | omega | (simp only [dnL] at *; omega) | (simp_all; done) | (simp_all; omega))) ?_
 refine Xf tG rfl rfl rfl rfl (fun _ => rfl) trivial ?_
 refine Xc rfl rfl rfl rfl (fun _ => dC rfl Tryz.func87 rfl rfl ((k_Mul _ _ (hx.fit 0) (hx.fit 1)) _)) ?_
 refine Xe tG rfl rfl rfl rfl (fun _ => rfl) trivial ?_
 refine Xe tG rfl rfl rfl rfl (fun _ => rfl) trivial ?_
 refine Xe tG rfl rfl rfl rfl (fun _ => rfl) trivial ?_
 refine Xe tG rfl rfl rfl rfl (fun _ => rfl) trivial ?_
 refine Xe tG rfl rfl rfl rfl (fun _ => rfl) trivial ?_
 refine WU_nil ?_
 refine Ws ?_
 refine W_region rfl ?_
 iterate 3 refine We tG rfl rfl rfl trivial ?_
 first | refine Wa 18 rfl (bsL cInt [_, _] rfl rfl) ?_ | skip
 refine Wc rfl rfl (dC rfl Tryz.func55 rfl rfl ((prim_told _) _)) ?_
 iterate 4 refine We tG rfl rfl rfl trivial ?_
 refine Wn ?_
 refine Wq ?_
 refine lP rfl ?_
 rfl
theorem rk_8 (x : List Int) (hx : XOk 3 x) : PureC Tryz.prog 95 ([sq cInt x] ++ capA) (tLv (pUMod x)) := by
 have hl := hx.len
 refine pW tG (rs := [.tmp 3, .tmp 4]) Tryz.func95 rfl rfl rfl (by simp) (by simp) (fun B => ?_)
 refine Ws ?_
 refine W_region rfl ?_
 iterate 2 refine We tG rfl rfl rfl trivial ?_
 refine Wn ?_
 refine Ws ?_
 refine W_drawU [1, 0, 0, 1, 0, 0, 1, 0, 0, 1, 0, 0, 0, 0, 0, 0, 0, 0, 0] [0, 1, 2, 3, 4, 5, 6, 7, 8, 9, 10, 11, 12, 13, 14, 15, 16, 17, 18] mG rfl (by kernel_rfl) ?_
 refine Xf tG rfl rfl rfl rfl (fun _ => rfl) trivial ?_
 refine Xe tG rfl rfl rfl rfl (fun _ => rfl) trivial ?_
 first | refine Xi tG rfl rfl rfl rfl (fun _ => rfl) (by first | exact trivial | omega | (simp only [dnL] at *; omega) | (simp_all; done) | (simp_all; omega)) (iN cInt 1 (fun _ => rfl) 0 (by first | exact trivial | omega | (simp only [dnL] at *; omega) | (simp_all; done) | (simp_all; omega))) ?_ | refine Xi tG rfl rfl rfl rfl (fun _ => rfl) (by first | exact trivial | omega | (simp only [dnL] at *; omega) | (simp_all; done) | (simp_all; omega)) (iR cInt 1 (fun _ => rfl) 0 (by first | exact trivial | omega | (simp only [dnL] at *; omega) | (simp_all; done) | (simp_all; omega))) ?_
 refine Xf tG rfl rfl rfl rfl (fun _ => rfl) trivial ?_
 refine Xe tG rfl rfl rfl rfl (fun _ => rfl) trivial ?_
 first | refine Xi tG rfl rfl rfl rfl (fun _ => rfl) (by first | exact trivial | omega | (simp only [dnL] at *; omega) | (simp_all; done) | (simp_all; omega)) (iN cInt 1 (fun _ => rfl) 0 (by first | exact trivial | omega | (simp only [dnL] at *; omega) | (simp_all; done) | (simp_all; omega))) ?_ | refine Xi tG rfl rfl rfl rfl (fun _ => rfl) (by first | exact trivial | omega | (simp only [dnL] at *; omega) | (simp_all; done) | (simp_all; omega)) (iR cInt 1 (fun _ => rfl) 0 (by first | exact trivial | omega | (simp only [dnL] at *; omega) | (simp_all; done) | (simp_all; omega))) ?_
 refine Xf tG rfl rfl rfl rfl (fun _ => rfl) trivial ?_
 refine Xe tG rfl rfl rfl rfl (fun _ => rfl) trivial ?_
 first | refine Xi tG rfl rfl rfl rfl (fun _ => rfl) (by first | exact trivial | omega | (simp only [dnL] at *; omega) | (simp_all; done) | (simp_all; omega)) (iN cInt 1 (fun _ => rfl) 0 (by first | exact trivial | omega | (simp only [dnL] at *; omega) | (simp_all; done) | (simp_all; omega))) ?_ | refine Xi tG rfl rfl rfl rfl (fun _ => rfl) (by first | exact trivial | omega | (simp only [dnL] at *; omega) | (simp_all; done) | (simp_all; omega)) (iR cInt 1 (fun _ => rfl) 0 (by first | exact trivial | omega | (simp only [dnL] at *; omega) | (simp_all; done) | (simp_all; omega))) ?_
 refine Xf tG rfl rfl rfl rfl (fun _ => rfl) trivial ?_
 refine Xc rfl rfl rfl rfl (fun _ => dC rfl Tryz.func96 rfl rfl ((k_UDiv _ _ _) _)) ?_
 refine Xe tG rfl rfl rfl rfl (fun _ => rfl) trivial ?_
 refine Xe tG rfl rfl rfl rfl (fun _ => rfl) trivial ?_
 refine Xe tG rfl rfl rfl rfl (fun _ => rfl) trivial ?_
 refine Xc rfl rfl rfl rfl (fun _ => doesCWs rfl rfl (cp_parts _ _ _ _)) ?_
 refine Xe tG rfl rfl rfl rfl (fun _ => rfl) trivial ?_
 refine Xe tG rfl rfl rfl rfl (fun _ => rfl) trivial ?_
 refine Xe tG rfl rfl rfl rfl (fun _ => rfl) trivial ?_
 refine Xe tG rfl rfl rfl rfl (fun _ => rfl) trivial ?_
 refine WU_nil ?_
 refine Wq ?_
 refine lP rfl ?_
 rfl
theorem rk_9 (x : List Int) (hx : XOk 3 x) : PureC Tryz.prog 97 ([sq cInt x] ++ capA) (tLv (pSRem x)) := by
 have hl := hx.len
 refine pW tG (rs := [.tmp 3, .tmp 4]) Tryz.func97 rfl rfl rfl (by simp) (by simp) (fun B => ?_)
 refine Ws ?_
 refine W_region rfl ?_
 iterate 2 refine We tG rfl rfl rfl trivial ?_
 refine Wn ?_
 refine Ws ?_
 refine W_drawU [1, 0, 0, 1, 0, 0, 1, 0, 0, 1, 0, 0, 0, 0, 0, 0, 0, 0, 0] [0, 1, 2, 3, 4, 5, 6, 7, 8, 9, 10, 11, 12, 13, 14, 15, 16, 17, 18] mG rfl (by kernel_rfl) ?_
 refine Xf tG rfl rfl rfl rfl (fun _ => rfl) trivial ?_
 refine Xe tG rfl rfl rfl rfl (fun _ => rfl) trivial ?_
 first | refine Xi tG rfl rfl rfl rfl (fun _ => rfl) (by first | exact trivial | omega | (simp only [dnL] at *; omega) | (simp_all; done) | (simp_all; omega)) (iN cInt 1 (fun _ => rfl) 0 (by first | exact trivial | omega | (simp only [dnL] at *; omega) | (simp_all; done) | (simp_all; omega))) ?_ | refine Xi tG rfl rfl rfl rfl (fun _ => rfl) (by first | exact trivial | omega | (simp only [dnL] at *; omega) | (simp_all; done) | (simp_all; omega)) (iR cInt 1 (fun _ => rfl) 0 (by first | exact trivial | omega | (simp only [dnL] at *; omega) | (simp_all; done) | (simp_all; omega))) ?_
 refine Xf tG rfl rfl rfl rfl (fun _ => rfl) trivial ?_
 refine Xe tG rfl rfl rfl rfl (fun _ => rfl) trivial ?_
 first | refine Xi tG rfl rfl rfl rfl (fun _ => rfl) (by first | exact trivial | omega | (simp only [dnL] at *; omega) | (simp_all; done) | (simp_all; omega)) (iN cInt 1 (fun _ => rfl) 0 (by first | exact trivial | omega | (simp only [dnL] at *; omega) | (simp_all; done) | (simp_all; omega))) ?_ | refine Xi tG rfl rfl rfl rfl (fun _ => rfl) (by first | exact trivial | omega | (simp only [dnL] at *; omega) | (simp_all; done) | (simp_all; omega)) (iR cInt 1 (fun _ => rfl) 0 (by first | exact trivial | omega | (simp only [dnL] at *; omega) | (simp_all; done) | (simp_all; omega))) ?_
 refine Xf tG rfl rfl rfl rfl (fun _ => rfl) trivial ?_
 refine Xe tG rfl rfl rfl rfl (fun _ => rfl) trivial ?_
 first | refine Xi tG rfl rfl rfl rfl (fun _ => rfl) (by first | exact trivial | omega | (simp only [dnL] at *; omega) | (simp_all; done) | (simp_all; omega)) (iN cInt 1 (fun _ => rfl) 0 (by first | exact trivial | omega | (simp only [dnL] at *; omega) | (simp_all; done) | (simp_all; omega))) ?_ | refine Xi tG rfl rfl rfl rfl (fun _ => rfl) (by first | exact trivial | omega | (simp only [dnL] at *; omega) | (simp_all; done) | (simp_all; omega)) (iR cInt 1 (fun _ => rfl) 0 (by first | exact trivial | omega | (simp only [dnL] at *; omega) | (simp_all; done) | (simp_all; omega))) ?_
 refine Xf tG rfl rfl rfl rfl (fun _ => rfl) trivial ?_
 refine Xc rfl rfl rfl rfl (fun _ => dC rfl Tryz.func98 rfl rfl ((k_SDiv _ _ _ (hx.fit 1) (hx.fit 2)) _)) ?_
 refine Xe tG rfl rfl rfl rfl (fun _ => rfl) trivial ?_
 refine Xe tG rfl rfl rfl rfl (fun _ => rfl) trivial ?_
 refine Xe tG rfl rfl rfl rfl (fun _ => rfl) trivial ?_
 refine Xc rfl rfl rfl rfl (fun _ => doesCWs rfl rfl (cp_parts _ _ _ _)) ?_
 refine Xe tG rfl rfl rfl rfl (fun _ => rfl) trivial ?_
 refine Xe tG rfl rfl rfl rfl (fun _ => rfl) trivial ?_
 refine Xe tG rfl rfl rfl rfl (fun _ => rfl) trivial ?_
 refine Xe tG rfl rfl rfl rfl (fun _ => rfl) trivial ?_
 refine WU_nil ?_
 refine Wq ?_
 refine lP rfl ?_
 rfl
theorem rk_10 (x : List Int) (hx : XOk 3 x) : PureC Tryz.prog 99 ([sq cInt x] ++ capA) (tLv (pFMod x)) := by
 have hl := hx.len
 refine pW tG (rs := [.tmp 3, .tmp 4]) Tryz.func99 rfl rfl rfl (by simp) (by simp) (fun B => ?_)
 refine Ws ?_
 refine W_region rfl ?_
 iterate 2 refine We tG rfl rfl rfl trivial ?_
 refine Wn ?_
 refine Ws ?_
 refine W_drawU [1, 0, 0, 1, 0, 0, 1, 0, 0, 1, 0, 0, 0, 0, 0, 0, 0, 0, 0] [0, 1, 2, 3, 4, 5, 6, 7, 8, 9, 10, 11, 12, 13, 14, 15, 16, 17, 18] mG rfl (by kernel_rfl) ?_
 refine Xf tG rfl rfl rfl rfl (fun _ => rfl) trivial ?_
 refine Xe tG rfl rfl rfl rfl (fun _ => rfl) trivial ?_
 first | refine Xi tG rfl rfl rfl rfl (fun _ => rfl) (by first | exact trivial | omega | (simp only [dnL] at *; omega) | (simp_all; done) | (simp_all; omega)) (iN cInt 1 (fun _ => rfl) 0 (by first | exact trivial | omega | (simp only [dnL] at *; omega) | (simp_all; done) | (simp_all; omega))) ?_ | refine Xi tG rfl rfl rfl rfl (fun _ => rfl) (by first | exact trivial | omega | (simp only [dnL] at *; omega) | (simp_all; done) | (simp_all; omega)) (iR cInt 1 (fun _ => rfl) 0 (by first | exact trivial | omega | (simp only [dnL] at *; omega) | (simp_all; done) | (simp_all; omega))) ?_
 refine Xf tG rfl rfl rfl rfl (fun _ => rfl) trivial ?_
 refine Xe tG rfl rfl rfl rfl (fun _ => rfl) trivial ?_
 first | refine Xi tG rfl rfl rfl rfl (fun _ => rfl) (by first | exact trivial | omega | (simp only [dnL] at *; omega) | (simp_all; done) | (simp_all; omega)) (iN cInt 1 (fun _ => rfl) 0 (by first | exact trivial | omega | (simp only [dnL] at *; omega) | (simp_all; done) | (simp_all; omega))) ?_ | refine Xi tG rfl rfl rfl rfl (fun _ => rfl) (by first | exact trivial | omega | (simp only [dnL] at *; omega) | (simp_all; done) | (simp_all; omega)) (iR cInt 1 (fun _ => rfl) 0 (by first | exact trivial | omega | (simp only [dnL] at *; omega) | (simp_all; done) | (simp_all; omega))) ?_
 refine Xf tG rfl rfl rfl rfl (fun _ => rfl) trivial ?_
 refine Xe tG rfl rfl rfl rfl (fun _ => rfl) trivial ?_
 first | refine Xi tG rfl rfl rfl rfl (fun _ => rfl) (by first | exact trivial | omega | (simp only [dnL] at *; omega) | (simp_all; done) | (simp_all; omega)) (iN cInt 1 (fun _ => rfl) 0 (by first | exact trivial | omega | (simp only [dnL] at *; omega) | (simp_all; done) | (simp_all; omega))) ?_ | refine Xi tG rfl rfl rfl rfl (fun _ => rfl) (by first | exact trivial | omega | (simp only [dnL] at *; omega) | (simp_all; done) | (simp_all; omega)) (iR cInt 1 (fun _ => rfl) 0 (by first | exact trivial | omega | (simp only [dnL] at *; omega) | (simp_all; done) | (simp_all; omega))) ?_
 refine Xf tG rfl rfl rfl rfl (fun _ => rfl) trivial ?_
 refine Xc rfl rfl rfl rfl (fun _ => dC rfl Tryz.func88 rfl rfl ((k_FDiv _ _ _ (hx.fit 1) (hx.fit 2)) _)) ?_
 refine Xe tG rfl rfl rfl rfl (fun _ => rfl) trivial ?_
 refine Xe tG rfl rfl rfl rfl (fun _ => rfl) trivial ?_
 refine Xe tG rfl rfl rfl rfl (fun _ => rfl) trivial ?_
 refine Xc rfl rfl rfl rfl (fun _ => doesCWs rfl rfl (cp_parts _ _ _ _)) ?_
 refine Xe tG rfl rfl rfl rfl (fun _ => rfl) trivial ?_
 refine Xe tG rfl rfl rfl rfl (fun _ => rfl) trivial ?_
 refine Xe tG rfl rfl rfl rfl (fun _ => rfl) trivial ?_
 refine Xe tG rfl rfl rfl rfl (fun _ => rfl) trivial ?_
 refine WU_nil ?_
 refine Wq ?_
 refine lP rfl ?_
 rfl
theorem rk_11 (x : List Int) (hx : XOk 1 x) : PureC Tryz.prog 100 [sq cInt x] (tLv (pSD x)) := by
 have hl := hx.len
 refine pW tG (rs := [.tmp 2, .tmp 3]) Tryz.func100 rfl rfl rfl (by simp) (by simp) (fun B => ?_)
 refine Ws ?_
 refine W_region rfl ?_
 iterate 2 refine We tG rfl rfl rfl trivial ?_
 refine Wn ?_
 refine Ws ?_
 refine W_drawU [0, 0, 1, 0, 0, 1, 0, 0, 0, 0, 0, 0, 0, 0] [0, 1, 2, 3, 4, 5, 6, 7, 8, 9, 10, 11, 12, 13] mG rfl (by kernel_rfl) ?_
 refine Xe tG rfl rfl rfl rfl (fun _ => rfl) trivial ?_
 first | refine Xi tG rfl rfl rfl rfl (fun _ => rfl) (by first | exact trivial | omega | (simp only [dnL] at *; omega) | (simp_all; done) | (simp_all; omega)) (iN cInt 1 (fun _ => rfl) 0 (by first | exact trivial | omega | (simp only [dnL] at *; omega) | (simp_all; done) | (simp_all; omega))) ?_ | refine Xi tG rfl rfl rfl rfl (fun _ => rfl) (by first | exact trivial | omega | (simp only [dnL] at *; omega) | (simp_all; done) | (simp_all; omega)) (iR cInt 1 (fun _ => rfl) 0 (by first | exact trivial | omega | (simp only [dnL] at *; omega) | (simp_all; done) | (simp_all; omega))) ?_
 refine Xf tG rfl rfl rfl rfl (fun _ => rfl) trivial ?_
 refine Xe tG rfl rfl rfl rfl (fun _ => rfl) trivial ?_
 first | refine Xi tG rfl rfl rfl rfl (fun _ => rfl) (by first | exact trivial | omega | (simp only [dnL] at *; omega) | (simp_all; done) | (simp_all; omega)) (iN cInt 1 (fun _ => rfl) 0 (by first | exact trivial | omega | (simp only [dnL] at *; omega) | (simp_all; done) | (simp_all; omega))) ?_ | refine Xi tG rfl rfl rfl rfl (fun _ => rfl) (by first | exact trivial | omega | (simp only [dnL] at *; omega) | (simp_all; done) | (simp_all; omega)) (iR cInt 1 (fun _ => rfl) 0 (by first | exact trivial | omega | (simp only [dnL] at *; omega) | (simp_all; done) | (simp_all; omega))) ?_
 refine Xf tG rfl rfl rfl rfl (fun _ => rfl) trivial ?_
 refine Xe tG rfl rfl rfl rfl (fun _ => rfl) trivial ?_
 refine Xc rfl rfl rfl rfl (fun _ => dC rfl Tryz.func101 rfl rfl ((prim_flag _) _)) ?_
 refine Xe tG rfl rfl rfl rfl (fun _ => rfl) trivial ?_
 first | refine Xa 12 rfl (bsL cInt [_, _] rfl rfl) ?_ | skip
 refine Xc rfl rfl rfl rfl (fun _ => dC rfl Tryz.func55 rfl rfl ((prim_told _) _)) ?_
 refine Xe tG rfl rfl rfl rfl (fun _ => rfl) trivial ?_
 refine Xe tG rfl rfl rfl rfl (fun _ => rfl) trivial ?_
 refine Xe tG rfl rfl rfl rfl (fun _ => rfl) trivial ?_
 refine Xe tG rfl rfl rfl rfl (fun _ => rfl) trivial ?_
 refine WU_nil ?_
 refine Wq ?_
 refine lP rfl ?_
 rfl
theorem rk_12 (x : List Int) (hx : XOk 3 x) : PureC Tryz.prog 102 [sq cInt x] (tLv (pWithin x)) := by
 have hl := hx.len
 refine pW tG (rs := [.tmp 2, .tmp 3]) Tryz.func102 rfl rfl rfl (by simp) (by simp) (fun B => ?_)
 refine Ws ?_
 refine W_region rfl ?_
 iterate 2 refine We tG rfl rfl rfl trivial ?_
 refine Wn ?_
 refine Ws ?_
 refine W_drawU [0, 0, 1, 0, 0, 1, 0, 0, 1, 0, 0, 0, 0, 0, 0, 0, 0] [0, 1, 2, 3, 4, 5, 6, 7, 8, 9, 10, 11, 12, 13, 14, 15, 16] mG rfl (by kernel_rfl) ?_
 refine Xe tG rfl rfl rfl rfl (fun _ => rfl) trivial ?_
 first | refine Xi tG rfl rfl rfl rfl (fun _ => rfl) (by first | exact trivial | omega | (simp only [dnL] at *; omega) | (simp_all; done) | (simp_all; omega)) (iN cInt 1 (fun _ => rfl) 0 (by first | exact trivial | omega | (simp only [dnL] at *; omega) | (simp_all; done) | (simp_all; omega))) ?_ | refine Xi tG rfl rfl rfl rfl (fun _ => rfl) (by first | exact trivial | omega | (simp only [dnL] at *; omega) | (simp_all; done) | (simp_all; omega)) (iR cInt 1 (fun _ => rfl) 0 (by first | exact trivial | omega | (simp only [dnL] at *; omega) | (simp_all; done) | (simp_all; omega))) ?_
 refine Xf tG rfl rfl rfl rfl (fun _ => rfl) trivial ?_
 refine Xe tG rfl rfl rfl rfl (fun _ => rfl) trivial ?_
 first | refine Xi tG rfl rfl rfl rfl (fun _ => rfl) (by first | exact trivial | omega | (simp only [dnL] at *; omega) | (simp_all; done) | (simp_all; omega)) (iN cInt 1 (fun _ => rfl) 0 (by first | exact trivial | omega | (simp only [dnL] at *; omega) | (simp_all; done) | (simp_all; omega))) ?_ | refine Xi tG rfl rfl rfl rfl (fun _ => rfl) (by first | exact trivial | omega | (simp only [dnL] at *; omega) | (simp_all; done) | (simp_all; omega)) (iR cInt 1 (fun _ => rfl) 0 (by first | exact trivial | omega | (simp only [dnL] at *; omega) | (simp_all; done) | (simp_all; omega))) ?_
 refine Xf tG rfl rfl rfl rfl (fun _ => rfl) trivial ?_
 refine Xe tG rfl rfl rfl rfl (fun _ => rfl) trivial ?_
 first | refine Xi tG rfl rfl rfl rfl (fun _ => rfl) (by first | exact trivial | omega | (simp only [dnL] at *; omega) | (simp_all; done) | (simp_all; omega)) (iN cInt 1 (fun _ => rfl) 0 (by first | exact trivial | omega | (simp only [dnL] at *; omega) | (simp_all; done) | (simp_all; omega))) ?_ | refine Xi tG rfl rfl rfl rfl (fun _ => rfl) (by first | exact trivial | omega | (simp only [dnL] at *; omega) | (simp_all; done) | (simp_all; omega)) (iR cInt 1 (fun _ => rfl) 0 (by first | exact trivial | omega | (simp only [dnL] at *; omega) | (simp_all; done) | (simp_all; omega))) ?_
 refine Xf tG rfl rfl rfl rfl (fun _ => rfl) trivial ?_
 refine Xc rfl rfl rfl rfl (fun _ => dC rfl Tryz.func103 rfl rfl ((alu_Within _ _ _) _)) ?_
 refine Xc rfl rfl rfl rfl (fun _ => dC rfl Tryz.func101 rfl rfl ((prim_flag _) _)) ?_
 refine Xe tG rfl rfl rfl rfl (fun _ => rfl) trivial ?_
 first | refine Xa 15 rfl (bsL cInt [_] rfl rfl) ?_ | skip
 refine Xc rfl rfl rfl rfl (fun _ => dC rfl Tryz.func55 rfl rfl ((prim_told _) _)) ?_
 refine Xe tG rfl rfl rfl rfl (fun _ => rfl) trivial ?_
 refine Xe tG rfl rfl rfl rfl (fun _ => rfl) trivial ?_
 refine Xe tG rfl rfl rfl rfl (fun _ => rfl) trivial ?_
 refine Xe tG rfl rfl rfl rfl (fun _ => rfl) trivial ?_
 refine WU_nil ?_
 refine Wq ?_
 refine lP rfl ?_
 rfl
theorem me_1 (v : VVm) (x : List Int) (hm : MemOk v.mem) (hx : XOk 2 x) : PureC Tryz.prog 108 [eMem v.mem, sq cInt x] (tMem (memStore v.mem (xat x 1) (xat x 0))) := by
 have hl := hx.len
 refine pW tG (rs := [.cell 4 27, .tmp 5]) Tryz.func108 rfl rfl rfl (by simp) (by simp) (fun B => ?_)
 refine Ws ?_
 refine W_region rfl ?_
 iterate 3 refine We tG rfl rfl rfl trivial ?_
 refine Wn ?_
 refine Ws ?_
 refine W_drawU [1, 0, 0, 1, 0, 0, 1, 0, 0, 0, 3, 0] [0, 1, 2, 3, 4, 5, 6, 7, 8, 9, 10, 11] mG rfl (by kernel_rfl) ?_
 refine Xf tG rfl rfl rfl rfl (fun _ => rfl) trivial ?_
 refine Xe tG rfl rfl rfl rfl (fun _ => rfl) trivial ?_
 first | refine Xi tG rfl rfl rfl rfl (fun _ => rfl) (by first | exact trivial | omega | (simp only [dnL] at *; omega) | (simp_all; done) | (simp_all; omega)) (iN cInt 1 (fun _ => rfl) 0 (by first | exact trivial | omega | (simp only [dnL] at *; omega) | (simp_all; done) | (simp_all; omega))) ?_ | refine Xi tG rfl rfl rfl rfl (fun _ => rfl) (by first | exact trivial | omega | (simp only [dnL] at *; omega) | (simp_all; done) | (simp_all; omega)) (iR cInt 1 (fun _ => rfl) 0 (by first | exact trivial | omega | (simp only [dnL] at *; omega) | (simp_all; done) | (simp_all; omega))) ?_
 refine Xf tG rfl rfl rfl rfl (fun _ => rfl) trivial ?_
 refine Xe tG rfl rfl rfl rfl (fun _ => rfl) trivial ?_
 first | refine Xi tG rfl rfl rfl rfl (fun _ => rfl) (by first | exact trivial | omega | (simp only [dnL] at *; omega) | (simp_all; done) | (simp_all; omega)) (iN cInt 1 (fun _ => rfl) 0 (by first | exact trivial | omega | (simp only [dnL] at *; omega) | (simp_all; done) | (simp_all; omega))) ?_ | refine Xi tG rfl rfl rfl rfl (fun _ => rfl) (by first | exact trivial | omega | (simp only [dnL] at *; omega) | (simp_all; done) | (simp_all; omega)) (iR cInt 1 (fun _ => rfl) 0 (by first | exact trivial | omega | (simp only [dnL] at *; omega) | (simp_all; done) | (simp_all; omega))) ?_
 refine Xf tG rfl rfl rfl rfl (fun _ => rfl) trivial ?_
 refine Xc rfl rfl rfl rfl (fun _ => dC rfl Tryz.func109 rfl rfl ((mem_Store _ _ _ hm (hx.fit 1)) _)) ?_
 refine Xe tG rfl rfl rfl rfl (fun _ => rfl) trivial ?_
 refine Xe tG rfl rfl rfl rfl (fun _ => rfl) trivial ?_
 refine WU_ev3 tG rfl rfl rfl rfl rfl trivial ?_
 refine Xe tG rfl rfl rfl rfl (fun _ => rfl) trivial ?_
 refine WU_nil ?_
 refine Wq ?_
 refine lP rfl ?_
 rfl
theorem me_2 (v : VVm) (x : List Int) (hm : MemOk v.mem) (hx : XOk 2 x) : PureC Tryz.prog 110 [eMem v.mem, sq cInt x] (tMem (memStoreByte v.mem (xat x 1) (xat x 0))) := by
 have hl := hx.len
 refine pW tG (rs := [.cell 4 27, .tmp 5]) Tryz.func110 rfl rfl rfl (by simp) (by simp) (fun B => ?_)
 refine Ws ?_
 refine W_region rfl ?_
 iterate 3 refine We tG rfl rfl rfl trivial ?_
 refine Wn ?_
 refine Ws ?_
 refine W_drawU [1, 0, 0, 1, 0, 0, 1, 0, 0, 0, 3, 0] [0, 1, 2, 3, 4, 5, 6, 7, 8, 9, 10, 11] mG rfl (by kernel_rfl) ?_
 refine Xf tG rfl rfl rfl rfl (fun _ => rfl) trivial ?_
 refine Xe tG rfl rfl rfl rfl (fun _ => rfl) trivial ?_
 first | refine Xi tG rfl rfl rfl rfl (fun _ => rfl) (by first | exact trivial | omega | (simp only [dnL] at *; omega) | (simp_all; done) | (simp_all; omega)) (iN cInt 1 (fun _ => rfl) 0 (by first | exact trivial | omega | (simp only [dnL] at *; omega) | (simp_all; done) | (simp_all; omega))) ?_ | refine Xi tG rfl rfl rfl rfl (fun _ => rfl) (by first | exact trivial | omega | (simp only [dnL] at *; omega) | (simp_all; done) | (simp_all; omega)) (iR cInt 1 (fun _ => rfl) 0 (by first | exact trivial | omega | (simp only [dnL] at *; omega) | (simp_all; done) | (simp_all; omega))) ?_
 refine Xf tG rfl rfl rfl rfl (fun _ => rfl) trivial ?_
 refine Xe tG rfl rfl rfl rfl (fun _ => rfl) trivial ?_
 first | refine Xi tG rfl rfl rfl rfl (fun _ => rfl) (by first | exact trivial | omega | (simp only [dnL] at *; omega) | (simp_all; done) | (simp_all; omega)) (iN cInt 1 (fun _ => rfl) 0 (by first | exact trivial | omega | (simp only [dnL] at *; omega) | (simp_all; done) | (simp_all; omega))) ?_ | refine Xi tG rfl rfl rfl rfl (fun _ => rfl) (by first | exact trivial | omega | (simp only [dnL] at *; omega) | (simp_all; done) | (simp_all; omega)) (iR cInt 1 (fun _ => rfl) 0 (by first | exact trivial | omega | (simp only [dnL] at *; omega) | (simp_all; done) | (simp_all; omega))) ?_
 refine Xf tG rfl rfl rfl rfl (fun _ => rfl) trivial ?_
 refine Xc rfl rfl rfl rfl (fun _ => dC rfl Tryz.func111 rfl rfl ((mem_StoreByte _ _ _ hm (hx.fit 1)) _)) ?_
 refine Xe tG rfl rfl rfl rfl (fun _ => rfl) trivial ?_
 refine Xe tG rfl rfl rfl rfl (fun _ => rfl) trivial ?_
 refine WU_ev3 tG rfl rfl rfl rfl rfl trivial ?_
 refine Xe tG rfl rfl rfl rfl (fun _ => rfl) trivial ?_
 refine WU_nil ?_
 refine Wq ?_
 refine lP rfl ?_
 rfl
theorem memOk_len {m : VMem} (hm : MemOk m) : m.b.length ≤ 140737488355328 := by have := hm.b; omega
theorem me_3 (v : VVm) (x : List Int) (hm : MemOk v.mem) (hx : XOk 2 x) : PureC Tryz.prog 112 [eMem v.mem, sq cInt x] (tMem (pAddTo v x)) := by
 have hl := hx.len
 refine pW tG (rs := [.cell 4 27, .tmp 5]) Tryz.func112 rfl rfl rfl (by simp) (by simp) (fun B => ?_)
 refine Ws ?_
 refine W_region rfl ?_
 iterate 3 refine We tG rfl rfl rfl trivial ?_
 refine Wn ?_
 refine Ws ?_
 refine W_drawU [1, 0, 0, 1, 0, 0, 0, 0, 0, 0] [0, 1, 2, 3, 4, 5, 6, 7, 8, 9] mG rfl (by kernel_rfl) ?_
 refine Xf tG rfl rfl rfl rfl (fun _ => rfl) trivial ?_
 refine Xe tG rfl rfl rfl rfl (fun _ => rfl) trivial ?_
 first | refine Xi tG rfl rfl rfl rfl (fun _ => rfl) (by first | exact trivial | omega | (simp only [dnL] at *; omega) | (simp_all; done) | (simp_all; omega)) (iN cInt 1 (fun _ => rfl) 0 (by first | exact trivial | omega | (simp only [dnL] at *; omega) | (simp_all; done) | (simp_all; omega))) ?_ | refine Xi tG rfl rfl rfl rfl (fun _ => rfl) (by first | exact trivial | omega | (simp only [dnL] at *; omega) | (simp_all; done) | (simp_all; omega)) (iR cInt 1 (fun _ => rfl) 0 (by first | exact trivial | omega | (simp only [dnL] at *; omega) | (simp_all; done) | (simp_all; omega))) ?_
 refine Xf tG rfl rfl rfl rfl (fun _ => rfl) trivial ?_
 refine Xc rfl rfl rfl rfl (fun _ => dC rfl Tryz.func105 rfl rfl ((mem_Fetch _ _ (memOk_len hm) (hx.fit 1)) _)) ?_
 refine Xe tG rfl rfl rfl rfl (fun _ => rfl) trivial ?_
 refine Xe tG rfl rfl rfl rfl (fun _ => rfl) trivial ?_
 refine Xe tG rfl rfl rfl rfl (fun _ => rfl) trivial ?_
 refine Xe tG rfl rfl rfl rfl (fun _ => rfl) trivial ?_
 refine Xe tG rfl rfl rfl rfl (fun _ => rfl) trivial ?_
 refine WU_nil ?_
 iterate 2 refine Ws ?_
 refine W_region rfl ?_
 iterate 2 refine We tG rfl rfl rfl trivial ?_
 refine Wn ?_
 refine Wi rfl (fun hi1 => ?_) (fun hi1 => ?_)
 ·have h0 : ¬ (memFetch v.mem (xat x 1)).2 = 0 := bne_iff_ne.1 hi1
  refine Ws ?_
  refine W_region rfl ?_
  iterate 4 refine We tG rfl rfl rfl trivial ?_
  refine Wn ?_
  refine Wq ?_
  refine lP rfl ?_
  rw [pAddTo, if_neg h0]; rfl
 ·have h0 : (memFetch v.mem (xat x 1)).2 = 0 := bne_eq_false_iff_eq.1 hi1
  refine Wj ?_
  refine Ws ?_
  refine W_drawU [1, 0, 0, 1, 0, 0, 0, 1, 0, 0, 0, 0, 3, 0] [0, 1, 2, 3, 4, 5, 6, 7, 8, 9, 10, 11, 12, 13] mG rfl (by kernel_rfl) ?_
  refine Xf tG rfl rfl rfl rfl (fun _ => rfl) trivial ?_
  refine Xe tG rfl rfl rfl rfl (fun _ => rfl) trivial ?_
  first | refine Xi tG rfl rfl rfl rfl (fun _ => rfl) (by first | exact trivial | omega | (simp only [dnL] at *; omega) | (simp_all; done) | (simp_all; omega)) (iN cInt 1 (fun _ => rfl) 0 (by first | exact trivial | omega | (simp only [dnL] at *; omega) | (simp_all; done) | (simp_all; omega))) ?_ | refine Xi tG rfl rfl rfl rfl (fun _ => rfl) (by first | exact trivial | omega | (simp only [dnL] at *; omega) | (simp_all; done) | (simp_all; omega)) (iR cInt 1 (fun _ => rfl) 0 (by first | exact trivial | omega | (simp only [dnL] at *; omega) | (simp_all; done) | (simp_all; omega))) ?_
  refine Xf tG rfl rfl rfl rfl (fun _ => rfl) trivial ?_
  refine Xe tG rfl rfl rfl rfl (fun _ => rfl) trivial ?_
  refine Xe tG rfl rfl rfl rfl (fun _ => rfl) trivial ?_
  first | refine Xi tG rfl rfl rfl rfl (fun _ => rfl) (by first | exact trivial | omega | (simp only [dnL] at *; omega) | (simp_all; done) | (simp_all; omega)) (iN cInt 1 (fun _ => rfl) 0 (by first | exact trivial | omega | (simp only [dnL] at *; omega) | (simp_all; done) | (simp_all; omega))) ?_ | refine Xi tG rfl rfl rfl rfl (fun _ => rfl) (by first | exact trivial | omega | (simp only [dnL] at *; omega) | (simp_all; done) | (simp_all; omega)) (iR cInt 1 (fun _ => rfl) 0 (by first | exact trivial | omega | (simp only [dnL] at *; omega) | (simp_all; done) | (simp_all; omega))) ?_
  refine Xf tG rfl rfl rfl rfl (fun _ => rfl) trivial ?_
  refine Xe tG rfl rfl rfl rfl (fun _ => rfl) trivial ?_
  refine Xc rfl rfl rfl rfl (fun _ => dC rfl Tryz.func109 rfl rfl ((mem_Store _ _ _ hm (hx.fit 1)) _)) ?_
  refine Xe tG rfl rfl rfl rfl (fun _ => rfl) trivial ?_
  refine Xe tG rfl rfl rfl rfl (fun _ => rfl) trivial ?_
  refine WU_ev3 tG rfl rfl rfl rfl rfl trivial ?_
  refine Xe tG rfl rfl rfl rfl (fun _ => rfl) trivial ?_
  refine WU_nil ?_
  refine Wq ?_
  refine lP rfl ?_
  rw [pAddTo, if_pos h0]; rfl
theorem w64_fit (n : Int) : Fit64 (W64 n) := by unfold Fit64 W64; rw [i64w]; unfold wrap64; omega
theorem me_4 (v : VVm) (x : List Int) (hm : MemOk v.mem) (hx : XOk 1 x) : ∀ (H : List Ob) (i : Nat), H[i]? = some (.cells (cVm v) 36) → HC Tryz.prog 113 (.ptr i 0 :: [sq cInt x]) H (tLv (pFetch2 v x).2) (H.set i (.cells (cVm (pFetch2 v x).1) 36)) := by
 have hl := hx.len
 refine mut_of_W tG (rs := [.tmp 4, .tmp 5]) Tryz.func113 rfl rfl rfl (by simp) (by simp) (by simp) (by simp) (fun B => ?_)
 refine Ws ?_
 refine W_region rfl ?_
 iterate 2 refine We tG rfl rfl rfl trivial ?_
 refine Wn ?_
 refine Ws ?_
 refine W_drawU [0, 0, 0, 1, 0, 0, 1, 0, 0, 0, 0, 0, 0] [0, 1, 2, 3, 4, 5, 6, 7, 8, 9, 10, 11, 12] mG rfl (by kernel_rfl) ?_
 refine Xe tG rfl rfl rfl rfl (fun _ => rfl) trivial ?_
 refine Xe tG rfl rfl rfl rfl (fun _ => rfl) trivial ?_
 refine Xe tG rfl rfl rfl rfl (fun _ => rfl) trivial ?_
 refine Xf tG rfl rfl rfl rfl (fun _ => rfl) trivial ?_
 refine Xe tG rfl rfl rfl rfl (fun _ => rfl) trivial ?_
 first | refine Xi tG rfl rfl rfl rfl (fun _ => rfl) (by first | exact trivial | omega | (simp only [dnL] at *; omega) | (simp_all; done) | (simp_all; omega)) (iN cInt 1 (fun _ => rfl) 0 (by first | exact trivial | omega | (simp only [dnL] at *; omega) | (simp_all; done) | (simp_all; omega))) ?_ | refine Xi tG rfl rfl rfl rfl (fun _ => rfl) (by first | exact trivial | omega | (simp only [dnL] at *; omega) | (simp_all; done) | (simp_all; omega)) (iR cInt 1 (fun _ => rfl) 0 (by first | exact trivial | omega | (simp only [dnL] at *; omega) | (simp_all; done) | (simp_all; omega))) ?_
 refine Xf tG rfl rfl rfl rfl (fun _ => rfl) trivial ?_
 refine Xc rfl rfl rfl rfl (fun _ => dC rfl Tryz.func105 rfl rfl ((mem_Fetch _ _ (memOk_len hm) (hx.fit 0)) _)) ?_
 refine Xe tG rfl rfl rfl rfl (fun _ => rfl) trivial ?_
 refine Xe tG rfl rfl rfl rfl (fun _ => rfl) trivial ?_
 refine Xe tG rfl rfl rfl rfl (fun _ => rfl) trivial ?_
 refine Xe tG rfl rfl rfl rfl (fun _ => rfl) trivial ?_
 refine Xe tG rfl rfl rfl rfl (fun _ => rfl) trivial ?_
 refine WU_nil ?_
 iterate 2 refine Ws ?_
 refine W_region rfl ?_
 iterate 2 refine We tG rfl rfl rfl trivial ?_
 refine Wn ?_
 refine Wi rfl (fun hi1 => ?_) (fun hi1 => ?_)
 ·have h0 : ¬ (memFetch v.mem (xat x 0)).2 = 0 := bne_iff_ne.1 hi1
  refine Ws ?_
  refine W_region rfl ?_
  iterate 3 refine We tG rfl rfl rfl trivial ?_
  refine Wn ?_
  refine Wq ?_
  first | refine leafM rfl rfl ?_ ?_ | refine leafMs rfl rfl ?_ ?_
  ·rw [pFetch2, if_neg h0]; rfl
  ·rw [pFetch2, if_neg h0]; rfl
 ·have h0 : (memFetch v.mem (xat x 0)).2 = 0 := bne_eq_false_iff_eq.1 hi1
  refine Wj ?_
  refine Ws ?_
  refine W_drawU [0, 0, 0, 1, 0, 0, 1, 0, 0, 0, 0, 0, 0, 0] [0, 1, 2, 3, 4, 5, 6, 7, 8, 9, 10, 11, 12, 13] mG rfl (by kernel_rfl) ?_
  refine Xe tG rfl rfl rfl rfl (fun _ => rfl) trivial ?_
  refine Xe tG rfl rfl rfl rfl (fun _ => rfl) trivial ?_
  refine Xe tG rfl rfl rfl rfl (fun _ => rfl) trivial ?_
  refine Xf tG rfl rfl rfl rfl (fun _ => rfl) trivial ?_
  refine Xe tG rfl rfl rfl rfl (fun _ => rfl) trivial ?_
  first | refine Xi tG rfl rfl rfl rfl (fun _ => rfl) (by first | exact trivial | omega | (simp only [dnL] at *; omega) | (simp_all; done) | (simp_all; omega)) (iN cInt 1 (fun _ => rfl) 0 (by first | exact trivial | omega | (simp only [dnL] at *; omega) | (simp_all; done) | (simp_all; omega))) ?_ | refine Xi tG rfl rfl rfl rfl (fun _ => rfl) (by first | exact trivial | omega | (simp only [dnL] at *; omega) | (simp_all; done) | (simp_all; omega)) (iR cInt 1 (fun _ => rfl) 0 (by first | exact trivial | omega | (simp only [dnL] at *; omega) | (simp_all; done) | (simp_all; omega))) ?_
  refine Xf tG rfl rfl rfl rfl (fun _ => rfl) trivial ?_
  refine Xe tG rfl rfl rfl rfl (fun _ => rfl) trivial ?_
  refine Xc rfl rfl rfl rfl (fun _ => dC rfl Tryz.func105 rfl rfl ((mem_Fetch _ _ (memOk_len hm) (w64_fit _)) _)) ?_
  refine Xe tG rfl rfl rfl rfl (fun _ => rfl) trivial ?_
  refine Xe tG rfl rfl rfl rfl (fun _ => rfl) trivial ?_
  refine Xe tG rfl rfl rfl rfl (fun _ => rfl) trivial ?_
  refine Xe tG rfl rfl rfl rfl (fun _ => rfl) trivial ?_
  refine Xe tG rfl rfl rfl rfl (fun _ => rfl) trivial ?_
  refine WU_nil ?_
  refine Ws ?_
  refine W_region rfl ?_
  iterate 3 refine We tG rfl rfl rfl trivial ?_
  first | refine Wa 37 rfl (bsL cInt [_, _] rfl rfl) ?_ | skip
  iterate 3 refine We tG rfl rfl rfl trivial ?_
  refine Wn ?_
  refine Wq ?_
  first | refine leafM rfl rfl ?_ ?_ | refine leafMs rfl rfl ?_ ?_
  ·rw [pFetch2, if_pos h0]; rfl
  ·rw [pFetch2, if_pos h0]; rfl
theorem memThere_rng {m : VMem} {a n : Int} (h : memThere m a n = true) : n = 0 ∨ (0 < n ∧ 0 ≤ a ∧ a + n ≤ m.b.length) := by unfold memThere at h; exact of_decide_eq_true h
theorem laidB_len2 {l b : List UInt8} {k : Nat} (h : k + b.length ≤ l.length) : (laidB l k b).length = l.length := by unfold laidB; simp only [List.length_append, List.length_take, List.length_drop]; omega
theorem memWrite_len (m : VMem) (a : Int) (b : List UInt8) : (memWrite m a b).1.b.length = m.b.length := by
 unfold memWrite
 split
 ·rename_i h
  split
  ·rfl
  ·rename_i hb
   have := List.length_pos_iff.2 hb
   rcases memThere_rng h with h | ⟨h1, h2, h3⟩
   ·omega
   ·exact laidB_len2 (by omega)
 ·rfl
theorem memWrite_old (m : VMem) (a : Int) (b : List UInt8) : (memWrite m a b).1.old.length ≤ m.old.length + 1 := by
 unfold memWrite
 split
 ·split
  ·exact Nat.le_succ _
  ·simp
 ·exact Nat.le_succ _
theorem memWrite_ok {m : VMem} (hm : MemOk m) (a : Int) (b : List UInt8) (h : m.old.length + 1 ≤ 1000000) : MemOk (memWrite m a b).1 :=
 ⟨by rw [memWrite_len]; exact hm.b, Nat.le_trans (memWrite_old m a b) h⟩
theorem memStore_ok {m : VMem} (hm : MemOk m) (a n : Int) (h : m.old.length + 1 ≤ 1000000) : MemOk (memStore m a n).1 := by
 unfold memStore
 split
 ·exact memWrite_ok hm _ _ h
 ·exact hm
theorem me_5 (v : VVm) (x : List Int) (hm : MemOk v.mem) (ho : v.mem.old.length + 1 ≤ 1000000) (hx : XOk 3 x) : PureC Tryz.prog 114 [eMem v.mem, sq cInt x] (tMem (pStore2 v x)) := by
 have hl := hx.len
 refine pW tG (rs := [.cell 4 27, .tmp 5]) Tryz.func114 rfl rfl rfl (by simp) (by simp) (fun B => ?_)
 refine Ws ?_
 refine W_region rfl ?_
 iterate 3 refine We tG rfl rfl rfl trivial ?_
 refine Wn ?_
 refine Ws ?_
 refine W_drawU [1, 0, 0, 1, 0, 0, 1, 0, 0, 0, 0, 3, 0] [0, 1, 2, 3, 4, 5, 6, 7, 8, 9, 10, 11, 12] mG rfl (by kernel_rfl) ?_
 refine Xf tG rfl rfl rfl rfl (fun _ => rfl) trivial ?_
 refine Xe tG rfl rfl rfl rfl (fun _ => rfl) trivial ?_
 first | refine Xi tG rfl rfl rfl rfl (fun _ => rfl) (by first | exact trivial | omega | (simp only [dnL] at *; omega) | (simp_all; done) | (simp_all; omega)) (iN cInt 1 (fun _ => rfl) 0 (by first | exact trivial | omega | (simp only [dnL] at *; omega) | (simp_all; done) | (simp_all; omega))) ?_ | refine Xi tG rfl rfl rfl rfl (fun _ => rfl) (by first | exact trivial | omega | (simp only [dnL] at *; omega) | (simp_all; done) | (simp_all; omega)) (iR cInt 1 (fun _ => rfl) 0 (by first | exact trivial | omega | (simp only [dnL] at *; omega) | (simp_all; done) | (simp_all; omega))) ?_
 refine Xf tG rfl rfl rfl rfl (fun _ => rfl) trivial ?_
 refine Xe tG rfl rfl rfl rfl (fun _ => rfl) trivial ?_
 first | refine Xi tG rfl rfl rfl rfl (fun _ => rfl) (by first | exact trivial | omega | (simp only [dnL] at *; omega) | (simp_all; done) | (simp_all; omega)) (iN cInt 1 (fun _ => rfl) 0 (by first | exact trivial | omega | (simp only [dnL] at *; omega) | (simp_all; done) | (simp_all; omega))) ?_ | refine Xi tG rfl rfl rfl rfl (fun _ => rfl) (by first | exact trivial | omega | (simp only [dnL] at *; omega) | (simp_all; done) | (simp_all; omega)) (iR cInt 1 (fun _ => rfl) 0 (by first | exact trivial | omega | (simp only [dnL] at *; omega) | (simp_all; done) | (simp_all; omega))) ?_
 refine Xf tG rfl rfl rfl rfl (fun _ => rfl) trivial ?_
 refine Xc rfl rfl rfl rfl (fun _ => dC rfl Tryz.func109 rfl rfl ((mem_Store _ _ _ hm (hx.fit 2)) _)) ?_
 refine Xe tG rfl rfl rfl rfl (fun _ => rfl) trivial ?_
 refine Xe tG rfl rfl rfl rfl (fun _ => rfl) trivial ?_
 refine Xe tG rfl rfl rfl rfl (fun _ => rfl) trivial ?_
 refine WU_ev3 tG rfl rfl rfl rfl rfl trivial ?_
 refine Xe tG rfl rfl rfl rfl (fun _ => rfl) trivial ?_
 refine WU_nil ?_
 iterate 2 refine Ws ?_
 refine W_region rfl ?_
 iterate 2 refine We tG rfl rfl rfl trivial ?_
 refine Wn ?_
 refine Wi rfl (fun hi1 => ?_) (fun hi1 => ?_)
 ·have h0 : ¬ (memStore v.mem (xat x 2) (xat x 1)).2 = 0 := bne_iff_ne.1 hi1
  refine Ws ?_
  refine W_region rfl ?_
  iterate 4 refine We tG rfl rfl rfl trivial ?_
  refine Wn ?_
  refine Wq ?_
  refine lP rfl ?_
  rw [pStore2, if_neg h0]; rfl
 ·have h0 : (memStore v.mem (xat x 2) (xat x 1)).2 = 0 := bne_eq_false_iff_eq.1 hi1
  refine Wj ?_
  refine Ws ?_
  refine W_drawU [1, 0, 0, 1, 0, 0, 0, 1, 0, 0, 0, 3, 0] [0, 1, 2, 3, 4, 5, 6, 7, 8, 9, 10, 11, 12] mG rfl (by kernel_rfl) ?_
  refine Xf tG rfl rfl rfl rfl (fun _ => rfl) trivial ?_
  refine Xe tG rfl rfl rfl rfl (fun _ => rfl) trivial ?_
  first | refine Xi tG rfl rfl rfl rfl (fun _ => rfl) (by first | exact trivial | omega | (simp only [dnL] at *; omega) | (simp_all; done) | (simp_all; omega)) (iN cInt 1 (fun _ => rfl) 0 (by first | exact trivial | omega | (simp only [dnL] at *; omega) | (simp_all; done) | (simp_all; omega))) ?_ | refine Xi tG rfl rfl rfl rfl (fun _ => rfl) (by first | exact trivial | omega | (simp only [dnL] at *; omega) | (simp_all; done) | (simp_all; omega)) (iR cInt 1 (fun _ => rfl) 0 (by first | exact trivial | omega | (simp only [dnL] at *; omega) | (simp_all; done) | (simp_all; omega))) ?_
  refine Xf tG rfl rfl rfl rfl (fun _ => rfl) trivial ?_
  refine Xe tG rfl rfl rfl rfl (fun _ => rfl) trivial ?_
  refine Xe tG rfl rfl rfl rfl (fun _ => rfl) trivial ?_
  first | refine Xi tG rfl rfl rfl rfl (fun _ => rfl) (by first | exact trivial | omega | (simp only [dnL] at *; omega) | (simp_all; done) | (simp_all; omega)) (iN cInt 1 (fun _ => rfl) 0 (by first | exact trivial | omega | (simp only [dnL] at *; omega) | (simp_all; done) | (simp_all; omega))) ?_ | refine Xi tG rfl rfl rfl rfl (fun _ => rfl) (by first | exact trivial | omega | (simp only [dnL] at *; omega) | (simp_all; done) | (simp_all; omega)) (iR cInt 1 (fun _ => rfl) 0 (by first | exact trivial | omega | (simp only [dnL] at *; omega) | (simp_all; done) | (simp_all; omega))) ?_
  refine Xf tG rfl rfl rfl rfl (fun _ => rfl) trivial ?_
  refine Xc rfl rfl rfl rfl (fun _ => dC rfl Tryz.func109 rfl rfl ((mem_Store _ _ _ (memStore_ok hm _ _ ho) (w64_fit _)) _)) ?_
  refine Xe tG rfl rfl rfl rfl (fun _ => rfl) trivial ?_
  refine Xe tG rfl rfl rfl rfl (fun _ => rfl) trivial ?_
  refine WU_ev3 tG rfl rfl rfl rfl rfl trivial ?_
  refine Xe tG rfl rfl rfl rfl (fun _ => rfl) trivial ?_
  refine WU_nil ?_
  refine Wq ?_
  refine lP rfl ?_
  rw [pStore2, if_pos h0]; rfl
theorem me_6 (v : VVm) (x : List Int) (hm : MemOk v.mem) (hx : XOk 3 x) : PureC Tryz.prog 115 [eMem v.mem, sq cInt x] (tMem (memFill v.mem (xat x 0) (xat x 1) (xat x 2))) := by
 have hl := hx.len
 refine pW tG (rs := [.cell 4 27, .tmp 5]) Tryz.func115 rfl rfl rfl (by simp) (by simp) (fun B => ?_)
 refine Ws ?_
 refine W_region rfl ?_
 iterate 3 refine We tG rfl rfl rfl trivial ?_
 refine Wn ?_
 refine Ws ?_
 refine W_drawU [1, 0, 0, 1, 0, 0, 1, 0, 0, 1, 0, 0, 0, 3, 0] [0, 1, 2, 3, 4, 5, 6, 7, 8, 9, 10, 11, 12, 13, 14] mG rfl (by kernel_rfl) ?_
 refine Xf tG rfl rfl rfl rfl (fun _ => rfl) trivial ?_
 refine Xe tG rfl rfl rfl rfl (fun _ => rfl) trivial ?_
 first | refine Xi tG rfl rfl rfl rfl (fun _ => rfl) (by first | exact trivial | omega | (simp only [dnL] at *; omega) | (simp_all; done) | (simp_all; omega)) (iN cInt 1 (fun _ => rfl) 0 (by first | exact trivial | omega | (simp only [dnL] at *; omega) | (simp_all; done) | (simp_all; omega))) ?_ | refine Xi tG rfl rfl rfl rfl (fun _ => rfl) (by first | exact trivial | omega | (simp only [dnL] at *; omega) | (simp_all; done) | (simp_all; omega)) (iR cInt 1 (fun _ => rfl) 0 (by first | exact trivial | omega | (simp only [dnL] at *; omega) | (simp_all; done) | (simp_all; omega))) ?_
 refine Xf tG rfl rfl rfl rfl (fun _ => rfl) trivial ?_
 refine Xe tG rfl rfl rfl rfl (fun _ => rfl) trivial ?_
 first | refine Xi tG rfl rfl rfl rfl (fun _ => rfl) (by first | exact trivial | omega | (simp only [dnL] at *; omega) | (simp_all; done) | (simp_all; omega)) (iN cInt 1 (fun _ => rfl) 0 (by first | exact trivial | omega | (simp only [dnL] at *; omega) | (simp_all; done) | (simp_all; omega))) ?_ | refine Xi tG rfl rfl rfl rfl (fun _ => rfl) (by first | exact trivial | omega | (simp only [dnL] at *; omega) | (simp_all; done) | (simp_all; omega)) (iR cInt 1 (fun _ => rfl) 0 (by first | exact trivial | omega | (simp only [dnL] at *; omega) | (simp_all; done) | (simp_all; omega))) ?_
 refine Xf tG rfl rfl rfl rfl (fun _ => rfl) trivial ?_
 refine Xe tG rfl rfl rfl rfl (fun _ => rfl) trivial ?_
 first | refine Xi tG rfl rfl rfl rfl (fun _ => rfl) (by first | exact trivial | omega | (simp only [dnL] at *; omega) | (simp_all; done) | (simp_all; omega)) (iN cInt 1 (fun _ => rfl) 0 (by first | exact trivial | omega | (simp only [dnL] at *; omega) | (simp_all; done) | (simp_all; omega))) ?_ | refine Xi tG rfl rfl rfl rfl (fun _ => rfl) (by first | exact trivial | omega | (simp only [dnL] at *; omega) | (simp_all; done) | (simp_all; omega)) (iR cInt 1 (fun _ => rfl) 0 (by first | exact trivial | omega | (simp only [dnL] at *; omega) | (simp_all; done) | (simp_all; omega))) ?_
 refine Xf tG rfl rfl rfl rfl (fun _ => rfl) trivial ?_
 refine Xc rfl rfl rfl rfl (fun _ => dC rfl Tryz.func116 rfl rfl ((mem_Fill _ _ _ _ hm (hx.fit 0) (hx.fit 1)) _)) ?_
 refine Xe tG rfl rfl rfl rfl (fun _ => rfl) trivial ?_
 refine Xe tG rfl rfl rfl rfl (fun _ => rfl) trivial ?_
 refine WU_ev3 tG rfl rfl rfl rfl rfl trivial ?_
 refine Xe tG rfl rfl rfl rfl (fun _ => rfl) trivial ?_
 refine WU_nil ?_
 refine Wq ?_
 refine lP rfl ?_
 rfl
theorem me_7 (v : VVm) (x : List Int) (hm : MemOk v.mem) (hx : XOk 3 x) : PureC Tryz.prog 117 [eMem v.mem, sq cInt x] (tMem (memMove v.mem (xat x 0) (xat x 1) (xat x 2))) := by
 have hl := hx.len
 refine pW tG (rs := [.cell 4 27, .tmp 5]) Tryz.func117 rfl rfl rfl (by simp) (by simp) (fun B => ?_)
 refine Ws ?_
 refine W_region rfl ?_
 iterate 3 refine We tG rfl rfl rfl trivial ?_
 refine Wn ?_
 refine Ws ?_
 refine W_drawU [1, 0, 0, 1, 0, 0, 1, 0, 0, 1, 0, 0, 0, 3, 0] [0, 1, 2, 3, 4, 5, 6, 7, 8, 9, 10, 11, 12, 13, 14] mG rfl (by kernel_rfl) ?_
 refine Xf tG rfl rfl rfl rfl (fun _ => rfl) trivial ?_
 refine Xe tG rfl rfl rfl rfl (fun _ => rfl) trivial ?_
 first | refine Xi tG rfl rfl rfl rfl (fun _ => rfl) (by first | exact trivial | omega | (simp only [dnL] at *; omega) | (simp_all; done) | (simp_all; omega)) (iN cInt 1 (fun _ => rfl) 0 (by first | exact trivial | omega | (simp only [dnL] at *; omega) | (simp_all; done) | (simp_all; omega))) ?_ | refine Xi tG rfl rfl rfl rfl (fun _ => rfl) (by first | exact trivial | omega | (simp only [dnL] at *; omega) | (simp_all; done) | (simp_all; omega)) (iR cInt 1 (fun _ => rfl) 0 (by first | exact trivial | omega | (simp only [dnL] at *; omega) | (simp_all; done) | (simp_all; omega))) ?_
 refine Xf tG rfl rfl rfl rfl (fun _ => rfl) trivial ?_
 refine Xe tG rfl rfl rfl rfl (fun _ => rfl) trivial ?_
 first | refine Xi tG rfl rfl rfl rfl (fun _ => rfl) (by first | exact trivial | omega | (simp only [dnL] at *; omega) | (simp_all; done) | (simp_all; omega)) (iN cInt 1 (fun _ => rfl) 0 (by first | exact trivial | omega | (simp only [dnL] at *; omega) | (simp_all; done) | (simp_all; omega))) ?_ | refine Xi tG rfl rfl rfl rfl (fun _ => rfl) (by first | exact trivial | omega | (simp only [dnL] at *; omega) | (simp_all; done) | (simp_all; omega)) (iR cInt 1 (fun _ => rfl) 0 (by first | exact trivial | omega | (simp only [dnL] at *; omega) | (simp_all; done) | (simp_all; omega))) ?_
 refine Xf tG rfl rfl rfl rfl (fun _ => rfl) trivial ?_
 refine Xe tG rfl rfl rfl rfl (fun _ => rfl) trivial ?_
 first | refine Xi tG rfl rfl rfl rfl (fun _ => rfl) (by first | exact trivial | omega | (simp only [dnL] at *; omega) | (simp_all; done) | (simp_all; omega)) (iN cInt 1 (fun _ => rfl) 0 (by first | exact trivial | omega | (simp only [dnL] at *; omega) | (simp_all; done) | (simp_all; omega))) ?_ | refine Xi tG rfl rfl rfl rfl (fun _ => rfl) (by first | exact trivial | omega | (simp only [dnL] at *; omega) | (simp_all; done) | (simp_all; omega)) (iR cInt 1 (fun _ => rfl) 0 (by first | exact trivial | omega | (simp only [dnL] at *; omega) | (simp_all; done) | (simp_all; omega))) ?_
 refine Xf tG rfl rfl rfl rfl (fun _ => rfl) trivial ?_
 refine Xc rfl rfl rfl rfl (fun _ => dC rfl Tryz.func118 rfl rfl ((mem_Move _ _ _ _ hm (hx.fit 0) (hx.fit 1) (hx.fit 2)) _)) ?_
 refine Xe tG rfl rfl rfl rfl (fun _ => rfl) trivial ?_
 refine Xe tG rfl rfl rfl rfl (fun _ => rfl) trivial ?_
 refine WU_ev3 tG rfl rfl rfl rfl rfl trivial ?_
 refine Xe tG rfl rfl rfl rfl (fun _ => rfl) trivial ?_
 refine WU_nil ?_
 refine Wq ?_
 refine lP rfl ?_
 rfl
theorem me_8 (v : VVm) (x : List Int) (hm : MemOk v.mem) (hx : XOk 1 x) : ∀ (H : List Ob) (i : Nat), H[i]? = some (.cells (cVm v) 36) → HC Tryz.prog 119 (.ptr i 0 :: [sq cInt x]) H (tLv (pCount v x).2) (H.set i (.cells (cVm v) 36)) := by
 have hl := hx.len
 refine mut_of_W tG (rs := [.tmp 4, .tmp 5]) Tryz.func119 rfl rfl rfl (by simp) (by simp) (by simp) (by simp) (fun B => ?_)
 refine Ws ?_
 refine W_region rfl ?_
 iterate 2 refine We tG rfl rfl rfl trivial ?_
 refine Wn ?_
 refine Ws ?_
 refine W_drawU [0, 0, 0, 1, 0, 0, 1, 0, 0, 0, 0, 0, 0] [0, 1, 2, 3, 4, 5, 6, 7, 8, 9, 10, 11, 12] mG rfl (by kernel_rfl) ?_
 refine Xe tG rfl rfl rfl rfl (fun _ => rfl) trivial ?_
 refine Xe tG rfl rfl rfl rfl (fun _ => rfl) trivial ?_
 refine Xe tG rfl rfl rfl rfl (fun _ => rfl) trivial ?_
 refine Xf tG rfl rfl rfl rfl (fun _ => rfl) trivial ?_
 refine Xe tG rfl rfl rfl rfl (fun _ => rfl) trivial ?_
 first | refine Xi tG rfl rfl rfl rfl (fun _ => rfl) (by first | exact trivial | omega | (simp only [dnL] at *; omega) | (simp_all; done) | (simp_all; omega)) (iN cInt 1 (fun _ => rfl) 0 (by first | exact trivial | omega | (simp only [dnL] at *; omega) | (simp_all; done) | (simp_all; omega))) ?_ | refine Xi tG rfl rfl rfl rfl (fun _ => rfl) (by first | exact trivial | omega | (simp only [dnL] at *; omega) | (simp_all; done) | (simp_all; omega)) (iR cInt 1 (fun _ => rfl) 0 (by first | exact trivial | omega | (simp only [dnL] at *; omega) | (simp_all; done) | (simp_all; omega))) ?_
 refine Xf tG rfl rfl rfl rfl (fun _ => rfl) trivial ?_
 refine Xc rfl rfl rfl rfl (fun _ => dC rfl Tryz.func106 rfl rfl ((mem_FetchByte _ _ hm (hx.fit 0)) _)) ?_
 refine Xe tG rfl rfl rfl rfl (fun _ => rfl) trivial ?_
 refine Xe tG rfl rfl rfl rfl (fun _ => rfl) trivial ?_
 refine Xe tG rfl rfl rfl rfl (fun _ => rfl) trivial ?_
 refine Xe tG rfl rfl rfl rfl (fun _ => rfl) trivial ?_
 refine Xe tG rfl rfl rfl rfl (fun _ => rfl) trivial ?_
 refine WU_nil ?_
 refine Ws ?_
 refine W_region rfl ?_
 refine We tG rfl rfl rfl trivial ?_
 first | refine Wv tG rfl rfl rfl (by first | exact trivial | omega | (simp only [dnL] at *; omega) | (simp_all; done) | (simp_all; omega)) (iN cInt 1 (fun _ => rfl) 0 (by first | exact trivial | omega | (simp only [dnL] at *; omega) | (simp_all; done) | (simp_all; omega))) ?_ | refine Wv tG rfl rfl rfl (by first | exact trivial | omega | (simp only [dnL] at *; omega) | (simp_all; done) | (simp_all; omega)) (iR cInt 1 (fun _ => rfl) 0 (by first | exact trivial | omega | (simp only [dnL] at *; omega) | (simp_all; done) | (simp_all; omega))) ?_
 iterate 4 refine We tG rfl rfl rfl trivial ?_
 first | refine Wa 24 rfl (bsL cInt [_, _] rfl rfl) ?_ | skip
 iterate 3 refine We tG rfl rfl rfl trivial ?_
 refine Wn ?_
 refine Wq ?_
 first | refine leafM rfl rfl ?_ ?_ | refine leafMs rfl rfl ?_ ?_
 ·rfl
 ·first | rfl | (simp_all; done) | (simp_all; omega)
theorem sp_3 (v : VVm) : PureC Tryz.prog 126 [eVm v] (i64 v.here) := by
 refine pW tG (rs := [.tmp 2]) Tryz.func126 rfl rfl rfl (by simp) (by simp) (fun B => ?_)
 refine Ws ?_
 refine W_region rfl ?_
 iterate 2 refine We tG rfl rfl rfl trivial ?_
 refine Wn ?_
 refine Ws ?_
 refine W_region rfl ?_
 iterate 3 refine We tG rfl rfl rfl trivial ?_
 refine Wn ?_
 refine Wq ?_
 refine lP rfl ?_
 rfl
theorem sp_4 (v : VVm) (x : List Int) (hm : MemOk v.mem) (hh : HereOk v.mem v.here) (hx : XOk 1 x) : PureC Tryz.prog 128 [eMem v.mem, i64 v.here, sq cInt x] (tLay (pAllot v x)) := by
 have hl := hx.len
 refine pW tG (rs := [.cell 6 27, .tmp 7, .tmp 8]) Tryz.func128 rfl rfl rfl (by simp) (by simp) (fun B => ?_)
 refine Ws ?_
 refine W_region rfl ?_
 iterate 4 refine We tG rfl rfl rfl trivial ?_
 refine Wn ?_
 refine Ws ?_
 refine W_drawU [1, 0, 0, 0, 0, 1, 0, 0, 0, 0, 0, 0] [0, 1, 2, 3, 4, 5, 6, 7, 8, 9, 10, 11] mG rfl (by kernel_rfl) ?_
 refine Xf tG rfl rfl rfl rfl (fun _ => rfl) trivial ?_
 refine Xc rfl rfl rfl rfl (fun _ => dC rfl Tryz.func130 rfl rfl ((vm_Start) _)) ?_
 refine Xe tG rfl rfl rfl rfl (fun _ => rfl) trivial ?_
 refine Xe tG rfl rfl rfl rfl (fun _ => rfl) trivial ?_
 first | refine Xi tG rfl rfl rfl rfl (fun _ => rfl) (by first | exact trivial | omega | (simp only [dnL] at *; omega) | (simp_all; done) | (simp_all; omega)) (iN cInt 1 (fun _ => rfl) 0 (by first | exact trivial | omega | (simp only [dnL] at *; omega) | (simp_all; done) | (simp_all; omega))) ?_ | refine Xi tG rfl rfl rfl rfl (fun _ => rfl) (by first | exact trivial | omega | (simp only [dnL] at *; omega) | (simp_all; done) | (simp_all; omega)) (iR cInt 1 (fun _ => rfl) 0 (by first | exact trivial | omega | (simp only [dnL] at *; omega) | (simp_all; done) | (simp_all; omega))) ?_
 refine Xf tG rfl rfl rfl rfl (fun _ => rfl) trivial ?_
 refine Xc rfl rfl rfl rfl (fun _ => dC rfl Tryz.func129 rfl rfl ((spc_Allot _ _ _ _ hm hh (by unfold Fit64; omega) (hx.fit 0)) _)) ?_
 refine Xe tG rfl rfl rfl rfl (fun _ => rfl) trivial ?_
 refine Xe tG rfl rfl rfl rfl (fun _ => rfl) trivial ?_
 refine Xe tG rfl rfl rfl rfl (fun _ => rfl) trivial ?_
 refine Xe tG rfl rfl rfl rfl (fun _ => rfl) trivial ?_
 refine Xe tG rfl rfl rfl rfl (fun _ => rfl) trivial ?_
 refine WU_nil ?_
 refine Ws ?_
 refine W_region rfl ?_
 iterate 6 refine We tG rfl rfl rfl trivial ?_
 refine Wn ?_
 refine Wq ?_
 refine lP rfl ?_
 rfl
theorem sp_5 (v : VVm) (x : List Int) (hm : MemOk v.mem) (hh : HereOk v.mem v.here) (hx : XOk 1 x) : PureC Tryz.prog 131 [eMem v.mem, i64 v.here, sq cInt x] (tLay (spcComma v.mem v.here (xat x 0))) := by
 have hl := hx.len
 refine pW tG (rs := [.cell 6 27, .tmp 7, .tmp 8]) Tryz.func131 rfl rfl rfl (by simp) (by simp) (fun B => ?_)
 refine Ws ?_
 refine W_region rfl ?_
 iterate 4 refine We tG rfl rfl rfl trivial ?_
 refine Wn ?_
 refine Ws ?_
 refine W_drawU [1, 0, 0, 0, 1, 0, 0, 0, 0, 3, 0, 0] [0, 1, 2, 3, 4, 5, 6, 7, 8, 9, 10, 11] mG rfl (by kernel_rfl) ?_
 refine Xf tG rfl rfl rfl rfl (fun _ => rfl) trivial ?_
 refine Xe tG rfl rfl rfl rfl (fun _ => rfl) trivial ?_
 refine Xe tG rfl rfl rfl rfl (fun _ => rfl) trivial ?_
 first | refine Xi tG rfl rfl rfl rfl (fun _ => rfl) (by first | exact trivial | omega | (simp only [dnL] at *; omega) | (simp_all; done) | (simp_all; omega)) (iN cInt 1 (fun _ => rfl) 0 (by first | exact trivial | omega | (simp only [dnL] at *; omega) | (simp_all; done) | (simp_all; omega))) ?_ | refine Xi tG rfl rfl rfl rfl (fun _ => rfl) (by first | exact trivial | omega | (simp only [dnL] at *; omega) | (simp_all; done) | (simp_all; omega)) (iR cInt 1 (fun _ => rfl) 0 (by first | exact trivial | omega | (simp only [dnL] at *; omega) | (simp_all; done) | (simp_all; omega))) ?_
 refine Xf tG rfl rfl rfl rfl (fun _ => rfl) trivial ?_
 refine Xc rfl rfl rfl rfl (fun _ => dC rfl Tryz.func132 rfl rfl ((spc_Comma _ _ _ hm hh) _)) ?_
 refine Xe tG rfl rfl rfl rfl (fun _ => rfl) trivial ?_
 refine Xe tG rfl rfl rfl rfl (fun _ => rfl) trivial ?_
 refine Xe tG rfl rfl rfl rfl (fun _ => rfl) trivial ?_
 refine WU_ev3 tG rfl rfl rfl rfl rfl trivial ?_
 refine Xe tG rfl rfl rfl rfl (fun _ => rfl) trivial ?_
 refine Xe tG rfl rfl rfl rfl (fun _ => rfl) trivial ?_
 refine WU_nil ?_
 refine Wq ?_
 refine lP rfl ?_
 rfl
theorem sp_6 (v : VVm) (x : List Int) (hm : MemOk v.mem) (hh : HereOk v.mem v.here) (hx : XOk 1 x) : PureC Tryz.prog 133 [eMem v.mem, i64 v.here, sq cInt x] (tLay (spcLay v.mem v.here [loB (xat x 0)])) := by
 have hl := hx.len
 refine pW tG (rs := [.cell 6 27, .tmp 7, .tmp 8]) Tryz.func133 rfl rfl rfl (by simp) (by simp) (fun B => ?_)
 refine Ws ?_
 refine W_region rfl ?_
 iterate 4 refine We tG rfl rfl rfl trivial ?_
 refine Wn ?_
 refine Ws ?_
 refine W_drawU [1, 0, 0, 0, 1, 0, 0, 0, 0, 0, 0, 3, 0, 0] [0, 1, 2, 3, 4, 5, 6, 7, 8, 9, 10, 11, 12, 13] mG rfl (by kernel_rfl) ?_
 refine Xf tG rfl rfl rfl rfl (fun _ => rfl) trivial ?_
 refine Xe tG rfl rfl rfl rfl (fun _ => rfl) trivial ?_
 refine Xe tG rfl rfl rfl rfl (fun _ => rfl) trivial ?_
 first | refine Xi tG rfl rfl rfl rfl (fun _ => rfl) (by first | exact trivial | omega | (simp only [dnL] at *; omega) | (simp_all; done) | (simp_all; omega)) (iN cInt 1 (fun _ => rfl) 0 (by first | exact trivial | omega | (simp only [dnL] at *; omega) | (simp_all; done) | (simp_all; omega))) ?_ | refine Xi tG rfl rfl rfl rfl (fun _ => rfl) (by first | exact trivial | omega | (simp only [dnL] at *; omega) | (simp_all; done) | (simp_all; omega)) (iR cInt 1 (fun _ => rfl) 0 (by first | exact trivial | omega | (simp only [dnL] at *; omega) | (simp_all; done) | (simp_all; omega))) ?_
 refine Xf tG rfl rfl rfl rfl (fun _ => rfl) trivial ?_
 refine Xe tG rfl rfl rfl rfl (fun _ => rfl) trivial ?_
 refine Xa 14 rfl (loB_pv _) ?_
 refine Xe tG rfl rfl rfl rfl (fun _ => rfl) trivial ?_
 first | refine Xa 15 rfl (bsL cByte [_] rfl rfl) ?_ | skip
 refine Xc rfl rfl rfl rfl (fun _ => dC rfl Tryz.func134 rfl rfl ((spc_Lay _ _ [loB (xat x 0)] hm hh (by simp)) _)) ?_
 refine Xe tG rfl rfl rfl rfl (fun _ => rfl) trivial ?_
 refine Xe tG rfl rfl rfl rfl (fun _ => rfl) trivial ?_
 refine Xe tG rfl rfl rfl rfl (fun _ => rfl) trivial ?_
 refine WU_ev3 tG rfl rfl rfl rfl rfl trivial ?_
 refine Xe tG rfl rfl rfl rfl (fun _ => rfl) trivial ?_
 refine Xe tG rfl rfl rfl rfl (fun _ => rfl) trivial ?_
 refine WU_nil ?_
 refine Wq ?_
 refine lP rfl ?_
 rfl
theorem sp_7 (v : VVm) (x : List Int) (hm : MemOk v.mem) (hh : HereOk v.mem v.here) : PureC Tryz.prog 135 [eMem v.mem, i64 v.here, sq cInt x] (tLay (spcAlign v.mem v.here)) := by
 refine pW tG (rs := [.cell 6 27, .tmp 7, .tmp 8]) Tryz.func135 rfl rfl rfl (by simp) (by simp) (fun B => ?_)
 refine Ws ?_
 refine W_region rfl ?_
 iterate 4 refine We tG rfl rfl rfl trivial ?_
 refine Wn ?_
 refine Ws ?_
 refine W_region rfl ?_
 iterate 2 refine We tG rfl rfl rfl trivial ?_
 refine Wc rfl rfl (dC rfl Tryz.func136 rfl rfl ((spc_AlignUp _ _ hm hh) _)) ?_
 iterate 6 refine We tG rfl rfl rfl trivial ?_
 refine Wn ?_
 refine Wq ?_
 refine lP rfl ?_
 rfl
end Go.Proofs.YtphgdofmjpdhaaaGreat
namespace Go.Proofs.YtphgdofmjpdhaaaGreat
open Go.RowKit
set_option linter.unusedVariables false
set_option maxRecDepth 100000
set_option maxHeartbeats 4000000
theorem pr_3 (v : VVm) (x : List Int) (hx : XOk 1 x) : PureC Tryz.prog 143 [eVm v, sq cInt x] (tShow ([loB (xat x 0)], 0)) := by
 have hl := hx.len
 refine pW tG (rs := [.tmp 4, .tmp 5]) Tryz.func143 rfl rfl rfl (by simp) (by simp) (fun B => ?_)
 refine Ws ?_
 refine W_region rfl ?_
 iterate 3 refine We tG rfl rfl rfl trivial ?_
 refine Wn ?_
 refine Ws ?_
 refine W_region rfl ?_
 refine We tG rfl rfl rfl trivial ?_
 first | refine Wv tG rfl rfl rfl (by first | exact trivial | omega | (simp only [dnL] at *; omega) | (simp_all; done) | (simp_all; omega)) (iN cInt 1 (fun _ => rfl) 0 (by first | exact trivial | omega | (simp only [dnL] at *; omega) | (simp_all; done) | (simp_all; omega))) ?_ | refine Wv tG rfl rfl rfl (by first | exact trivial | omega | (simp only [dnL] at *; omega) | (simp_all; done) | (simp_all; omega)) (iR cInt 1 (fun _ => rfl) 0 (by first | exact trivial | omega | (simp only [dnL] at *; omega) | (simp_all; done) | (simp_all; omega))) ?_
 iterate 2 refine We tG rfl rfl rfl trivial ?_
 refine Wa 9 rfl (loB_pv _) ?_
 refine We tG rfl rfl rfl trivial ?_
 first | refine Wa 10 rfl (bsL cByte [_] rfl rfl) ?_ | skip
 first | refine Wd rfl rfl (does_bytes_str (lO tG rfl) rfl (lO tG rfl) rfl (lO tG rfl) rfl rfl rfl) ?_ | refine Wd rfl rfl (does_byte1_str (lO tG rfl) rfl (lO tG rfl) rfl (lO tG rfl) rfl rfl rfl) ?_
 iterate 2 refine We tG rfl rfl rfl trivial ?_
 refine Wn ?_
 refine Wq ?_
 refine lP rfl ?_
 rfl
theorem repeat_blank (n : Nat) : Lib.repeatL [32] n = List.replicate n 32 := by
 induction n with
 | zero => rfl
 | succ n ih => show [32] ++ Lib.repeatL [32] n = _; rw [ih]; rfl
theorem strings_blanks (n : Nat) (hn : n ≤ 1000000) : PureC Tryz.prog 145 [str [32], i64 n] (str (List.replicate n 32)) := by
 refine pure_of_calls (args := [.string ⟨#[32]⟩, .int .i64 n]) (fun c => rep_val _ _) fun w => Calls.mono (Tryz.strings_Repeat ⟨#[32]⟩ n w (by omega) (by show 1 * n ≤ _; omega)) ?_
 rintro e w' ⟨rfl, hb⟩
 have h1 : (⟨#[32]⟩ : ByteArray).data.toList = [32] := rfl
 rw [h1, repeat_blank]
 exact ⟨rfl, Grows.of_below hb⟩
theorem minmax_pv (a b : Int) : (if b < if 0 > a then 0 else a then b else if 0 > a then 0 else a) = min (max a 0) b := by
 by_cases h : 0 > a
 ·simp only [if_pos h]; split <;> omega
 ·simp only [if_neg h]; split <;> omega
theorem pr_4 (v : VVm) (x : List Int) (ho : 0 ≤ v.conf.out ∧ v.conf.out ≤ 900000) (hx : XOk 1 x) : PureC Tryz.prog 144 [eVm v, sq cInt x] (tShow (pSpaces v x, 0)) := by
 have hl := hx.len
 have h0 := hx.fit 0
 have w1 : IntKind.i64.wrap (v.conf.out + 1) = v.conf.out + 1 := by (first | omega | (simp only [dnL] at *; omega) | (rw [i64w]; unfold wrap64; (try simp only [dnL] at *); omega))
 have w2 : min (max (xat x 0) 0) (v.conf.out + 1) = ((min (max (xat x 0) 0) (v.conf.out + 1)).toNat : Int) := by omega
 refine pW tG (rs := [.tmp 4, .tmp 5]) Tryz.func144 rfl rfl rfl (by simp) (by simp) (fun B => ?_)
 refine Ws ?_
 refine W_region rfl ?_
 iterate 3 refine We tG rfl rfl rfl trivial ?_
 refine Wn ?_
 refine Ws ?_
 refine W_drawU [0, 0, 1, 0, 0, 0, 1, 0, 0, 0, 0, 0] [0, 1, 2, 3, 4, 5, 6, 7, 8, 9, 10, 11] mG rfl (by kernel_rfl) ?_
 refine Xe tG rfl rfl rfl rfl (fun _ => rfl) trivial ?_
 first | refine Xi tG rfl rfl rfl rfl (fun _ => rfl) (by first | exact trivial | omega | (simp only [dnL] at *; omega) | (simp_all; done) | (simp_all; omega)) (iN cInt 1 (fun _ => rfl) 0 (by first | exact trivial | omega | (simp only [dnL] at *; omega) | (simp_all; done) | (simp_all; omega))) ?_ | refine Xi tG rfl rfl rfl rfl (fun _ => rfl) (by first | exact trivial | omega | (simp only [dnL] at *; omega) | (simp_all; done) | (simp_all; omega)) (iR cInt 1 (fun _ => rfl) 0 (by first | exact trivial | omega | (simp only [dnL] at *; omega) | (simp_all; done) | (simp_all; omega))) ?_
 refine Xf tG rfl rfl rfl rfl (fun _ => rfl) trivial ?_
 refine Xe tG rfl rfl rfl rfl (fun _ => rfl) trivial ?_
 refine Xe tG rfl rfl rfl rfl (fun _ => rfl) trivial ?_
 refine Xe tG rfl rfl rfl rfl (fun _ => rfl) trivial ?_
 refine Xf tG rfl rfl rfl rfl (fun _ => rfl) trivial ?_
 refine Xe tG rfl rfl rfl rfl (fun _ => rfl) trivial ?_
 refine Xa 13 rfl (congrArg (fun z => PV.val (Value.int .i64 z)) w1) ?_
 refine Xe tG rfl rfl rfl rfl (fun _ => rfl) trivial ?_
 refine Xa 14 rfl (congrArg (fun z => PV.val (Value.int .i64 z)) ((minmax_pv (xat x 0) (v.conf.out + 1)).trans w2)) ?_
 refine Xc rfl rfl rfl rfl (fun _ => dC rfl Tryz.func145 rfl rfl ((strings_blanks _ (by omega)) _)) ?_
 refine Xe tG rfl rfl rfl rfl (fun _ => rfl) trivial ?_
 refine Xe tG rfl rfl rfl rfl (fun _ => rfl) trivial ?_
 refine WU_nil ?_
 refine Wq ?_
 refine lP rfl ?_
 rfl
theorem pr_5 (v : VVm) (x : List Int) (hm : MemOk v.mem) (hx : XOk 2 x) : PureC Tryz.prog 146 [eVm v, sq cInt x] (tShow (memText v.mem (xat x 0) (xat x 1))) := by
 have hl := hx.len
 refine pW tG (rs := [.tmp 4, .tmp 5]) Tryz.func146 rfl rfl rfl (by simp) (by simp) (fun B => ?_)
 refine Ws ?_
 refine W_region rfl ?_
 iterate 3 refine We tG rfl rfl rfl trivial ?_
 refine Wn ?_
 refine Ws ?_
 refine W_drawU [0, 1, 0, 0, 1, 0, 0, 1, 0, 0, 0, 0, 0, 0] [0, 1, 2, 3, 4, 5, 6, 7, 8, 9, 10, 11, 12, 13] mG rfl (by kernel_rfl) ?_
 refine Xe tG rfl rfl rfl rfl (fun _ => rfl) trivial ?_
 refine Xf tG rfl rfl rfl rfl (fun _ => rfl) trivial ?_
 refine Xe tG rfl rfl rfl rfl (fun _ => rfl) trivial ?_
 first | refine Xi tG rfl rfl rfl rfl (fun _ => rfl) (by first | exact trivial | omega | (simp only [dnL] at *; omega) | (simp_all; done) | (simp_all; omega)) (iN cInt 1 (fun _ => rfl) 0 (by first | exact trivial | omega | (simp only [dnL] at *; omega) | (simp_all; done) | (simp_all; omega))) ?_ | refine Xi tG rfl rfl rfl rfl (fun _ => rfl) (by first | exact trivial | omega | (simp only [dnL] at *; omega) | (simp_all; done) | (simp_all; omega)) (iR cInt 1 (fun _ => rfl) 0 (by first | exact trivial | omega | (simp only [dnL] at *; omega) | (simp_all; done) | (simp_all; omega))) ?_
 refine Xf tG rfl rfl rfl rfl (fun _ => rfl) trivial ?_
 refine Xe tG rfl rfl rfl rfl (fun _ => rfl) trivial ?_
 first | refine Xi tG rfl rfl rfl rfl (fun _ => rfl) (by first | exact trivial | omega | (simp only [dnL] at *; omega) | (simp_all; done) | (simp_all; omega)) (iN cInt 1 (fun _ => rfl) 0 (by first | exact trivial | omega | (simp only [dnL] at *; omega) | (simp_all; done) | (simp_all; omega))) ?_ | refine Xi tG rfl rfl rfl rfl (fun _ => rfl) (by first | exact trivial | omega | (simp only [dnL] at *; omega) | (simp_all; done) | (simp_all; omega)) (iR cInt 1 (fun _ => rfl) 0 (by first | exact trivial | omega | (simp only [dnL] at *; omega) | (simp_all; done) | (simp_all; omega))) ?_
 refine Xf tG rfl rfl rfl rfl (fun _ => rfl) trivial ?_
 refine Xc rfl rfl rfl rfl (fun _ => dC rfl Tryz.func147 rfl rfl ((mem_Text _ _ _ hm (hx.fit 0) (hx.fit 1)) _)) ?_
 refine Xe tG rfl rfl rfl rfl (fun _ => rfl) trivial ?_
 refine Xe tG rfl rfl rfl rfl (fun _ => rfl) trivial ?_
 refine Xe tG rfl rfl rfl rfl (fun _ => rfl) trivial ?_
 refine Xe tG rfl rfl rfl rfl (fun _ => rfl) trivial ?_
 refine Xe tG rfl rfl rfl rfl (fun _ => rfl) trivial ?_
 refine WU_nil ?_
 refine Ws ?_
 refine W_region rfl ?_
 refine We tG rfl rfl rfl trivial ?_
 first | refine Wd rfl rfl (does_bytes_str (lO tG rfl) rfl (lO tG rfl) rfl (lO tG rfl) rfl rfl rfl) ?_ | refine Wd rfl rfl (does_byte1_str (lO tG rfl) rfl (lO tG rfl) rfl (lO tG rfl) rfl rfl rfl) ?_
 iterate 3 refine We tG rfl rfl rfl trivial ?_
 refine Wn ?_
 refine Wq ?_
 refine lP rfl ?_
 rfl
theorem pi_2 (v : VVm) (x : List Int) : ∀ (H : List Ob) (i : Nat), H[i]? = some (.cells (cVm v) 36) → HC Tryz.prog 152 (.ptr i 0 :: [sq cInt x]) H (tLv ([], 0)) (H.set i (.cells (cVm (withP v ⟨[], true⟩)) 36)) := by
 refine mut_of_W tG (rs := [.tmp 4, .tmp 5]) Tryz.func152 rfl rfl rfl (by simp) (by simp) (by simp) (by simp) (fun B => ?_)
 refine Ws ?_
 refine W_region rfl ?_
 iterate 2 refine We tG rfl rfl rfl trivial ?_
 refine Wn ?_
 refine Ws ?_
 refine W_region rfl ?_
 refine We tG rfl rfl rfl trivial ?_
 refine Wc rfl rfl (dC rfl Tryz.func153 rfl rfl ((pic_Begin) _)) ?_
 iterate 3 refine We tG rfl rfl rfl trivial ?_
 refine Wn ?_
 refine Ws ?_
 refine W_region rfl ?_
 iterate 2 refine We tG rfl rfl rfl trivial ?_
 refine Wn ?_
 refine Wq ?_
 first | refine leafM rfl rfl ?_ ?_ | refine leafMs rfl rfl ?_ ?_
 ·rfl
 ·first | rfl | (simp_all; done) | (simp_all; omega)
theorem pi_3 (v : VVm) (x : List Int) (hp : v.pic.b.length ≤ 1000000) (hm : v.mem.b.length ≤ 140737488355328) (hx : XOk 2 x) : ∀ (H : List Ob) (i : Nat), H[i]? = some (.cells (cVm v) 36) → HC Tryz.prog 154 (.ptr i 0 :: [sq cInt x]) H (tLv (pDig v x).2) (H.set i (.cells (cVm (pDig v x).1) 36)) := by
 have hl := hx.len
 refine mut_of_W tG (rs := [.tmp 4, .tmp 5]) Tryz.func154 rfl rfl rfl (by simp) (by simp) (by simp) (by simp) (fun B => ?_)
 refine Ws ?_
 refine W_region rfl ?_
 iterate 2 refine We tG rfl rfl rfl trivial ?_
 refine Wn ?_
 refine Ws ?_
 refine W_drawU [0, 0, 0, 1, 0, 0, 1, 0, 0, 1, 0, 0, 1, 0, 0, 0, 0, 0, 0, 0, 2, 3, 0, 0, 0] [0, 1, 2, 3, 4, 5, 6, 7, 8, 9, 10, 11, 12, 13, 14, 15, 16, 17, 18, 19, 20, 21, 22, 23, 24] mG rfl (by kernel_rfl) ?_
 refine Xe tG rfl rfl rfl rfl (fun _ => rfl) trivial ?_
 refine Xe tG rfl rfl rfl rfl (fun _ => rfl) trivial ?_
 refine Xe tG rfl rfl rfl rfl (fun _ => rfl) trivial ?_
 refine Xf tG rfl rfl rfl rfl (fun _ => rfl) trivial ?_
 refine Xe tG rfl rfl rfl rfl (fun _ => rfl) trivial ?_
 first | refine Xi tG rfl rfl rfl rfl (fun _ => rfl) (by first | exact trivial | omega | (simp only [dnL] at *; omega) | (simp_all; done) | (simp_all; omega)) (iN cInt 1 (fun _ => rfl) 0 (by first | exact trivial | omega | (simp only [dnL] at *; omega) | (simp_all; done) | (simp_all; omega))) ?_ | refine Xi tG rfl rfl rfl rfl (fun _ => rfl) (by first | exact trivial | omega | (simp only [dnL] at *; omega) | (simp_all; done) | (simp_all; omega)) (iR cInt 1 (fun _ => rfl) 0 (by first | exact trivial | omega | (simp only [dnL] at *; omega) | (simp_all; done) | (simp_all; omega))) ?_
 refine Xf tG rfl rfl rfl rfl (fun _ => rfl) trivial ?_
 refine Xe tG rfl rfl rfl rfl (fun _ => rfl) trivial ?_
 first | refine Xi tG rfl rfl rfl rfl (fun _ => rfl) (by first | exact trivial | omega | (simp only [dnL] at *; omega) | (simp_all; done) | (simp_all; omega)) (iN cInt 1 (fun _ => rfl) 0 (by first | exact trivial | omega | (simp only [dnL] at *; omega) | (simp_all; done) | (simp_all; omega))) ?_ | refine Xi tG rfl rfl rfl rfl (fun _ => rfl) (by first | exact trivial | omega | (simp only [dnL] at *; omega) | (simp_all; done) | (simp_all; omega)) (iR cInt 1 (fun _ => rfl) 0 (by first | exact trivial | omega | (simp only [dnL] at *; omega) | (simp_all; done) | (simp_all; omega))) ?_
 refine Xf tG rfl rfl rfl rfl (fun _ => rfl) trivial ?_
 refine Xe tG rfl rfl rfl rfl (fun _ => rfl) trivial ?_
 refine Xe tG rfl rfl rfl rfl (fun _ => rfl) trivial ?_
 refine Xf tG rfl rfl rfl rfl (fun _ => rfl) trivial ?_
 refine Xc rfl rfl rfl rfl (fun _ => dC rfl Tryz.func140 rfl rfl ((prim_base v hm) _)) ?_
 refine Xc rfl rfl rfl rfl (fun _ => dC rfl Tryz.func155 rfl rfl ((pic_Digit _ _ _ _ hp) _)) ?_
 refine Xe tG rfl rfl rfl rfl (fun _ => rfl) trivial ?_
 refine Xe tG rfl rfl rfl rfl (fun _ => rfl) trivial ?_
 refine Xe tG rfl rfl rfl rfl (fun _ => rfl) trivial ?_
 refine Xe tG rfl rfl rfl rfl (fun _ => rfl) trivial ?_
 refine Xe tG rfl rfl rfl rfl (fun _ => rfl) trivial ?_
 refine WU_ev2 tG rfl rfl rfl rfl rfl trivial rfl ?_
 refine WU_ev3 tG rfl rfl rfl rfl rfl trivial ?_
 refine Xe tG rfl rfl rfl rfl (fun _ => rfl) trivial ?_
 refine Xe tG rfl rfl rfl rfl (fun _ => rfl) trivial ?_
 refine Xe tG rfl rfl rfl rfl (fun _ => rfl) trivial ?_
 refine WU_nil ?_
 refine Ws ?_
 refine W_region rfl ?_
 iterate 5 refine We tG rfl rfl rfl trivial ?_
 refine Wn ?_
 refine Ws ?_
 refine W_region rfl ?_
 iterate 3 refine We tG rfl rfl rfl trivial ?_
 first | refine Wa 36 rfl (bsL cInt [_, _] rfl rfl) ?_ | skip
 iterate 3 refine We tG rfl rfl rfl trivial ?_
 refine Wn ?_
 refine Wq ?_
 first | refine leafM rfl rfl ?_ ?_ | refine leafMs rfl rfl ?_ ?_
 ·rfl
 ·first | rfl | (simp_all; done) | (simp_all; omega)
theorem pi_4 (v : VVm) (x : List Int) (hp : v.pic.b.length ≤ 1000000) (hm : v.mem.b.length ≤ 140737488355328) (hx : XOk 2 x) : ∀ (H : List Ob) (i : Nat), H[i]? = some (.cells (cVm v) 36) → HC Tryz.prog 156 (.ptr i 0 :: [sq cInt x]) H (tLv (pAll v x).2) (H.set i (.cells (cVm (pAll v x).1) 36)) := by
 have hl := hx.len
 refine mut_of_W tG (rs := [.tmp 4, .tmp 5]) Tryz.func156 rfl rfl rfl (by simp) (by simp) (by simp) (by simp) (fun B => ?_)
 refine Ws ?_
 refine W_region rfl ?_
 iterate 2 refine We tG rfl rfl rfl trivial ?_
 refine Wn ?_
 refine Ws ?_
 refine W_drawU [0, 0, 0, 1, 0, 0, 1, 0, 0, 1, 0, 0, 1, 0, 0, 0, 0, 0, 2, 3, 0] [0, 1, 2, 3, 4, 5, 6, 7, 8, 9, 10, 11, 12, 13, 14, 15, 16, 17, 18, 19, 20] mG rfl (by kernel_rfl) ?_
 refine Xe tG rfl rfl rfl rfl (fun _ => rfl) trivial ?_
 refine Xe tG rfl rfl rfl rfl (fun _ => rfl) trivial ?_
 refine Xe tG rfl rfl rfl rfl (fun _ => rfl) trivial ?_
 refine Xf tG rfl rfl rfl rfl (fun _ => rfl) trivial ?_
 refine Xe tG rfl rfl rfl rfl (fun _ => rfl) trivial ?_
 first | refine Xi tG rfl rfl rfl rfl (fun _ => rfl) (by first | exact trivial | omega | (simp only [dnL] at *; omega) | (simp_all; done) | (simp_all; omega)) (iN cInt 1 (fun _ => rfl) 0 (by first | exact trivial | omega | (simp only [dnL] at *; omega) | (simp_all; done) | (simp_all; omega))) ?_ | refine Xi tG rfl rfl rfl rfl (fun _ => rfl) (by first | exact trivial | omega | (simp only [dnL] at *; omega) | (simp_all; done) | (simp_all; omega)) (iR cInt 1 (fun _ => rfl) 0 (by first | exact trivial | omega | (simp only [dnL] at *; omega) | (simp_all; done) | (simp_all; omega))) ?_
 refine Xf tG rfl rfl rfl rfl (fun _ => rfl) trivial ?_
 refine Xe tG rfl rfl rfl rfl (fun _ => rfl) trivial ?_
 first | refine Xi tG rfl rfl rfl rfl (fun _ => rfl) (by first | exact trivial | omega | (simp only [dnL] at *; omega) | (simp_all; done) | (simp_all; omega)) (iN cInt 1 (fun _ => rfl) 0 (by first | exact trivial | omega | (simp only [dnL] at *; omega) | (simp_all; done) | (simp_all; omega))) ?_ | refine Xi tG rfl rfl rfl rfl (fun _ => rfl) (by first | exact trivial | omega | (simp only [dnL] at *; omega) | (simp_all; done) | (simp_all; omega)) (iR cInt 1 (fun _ => rfl) 0 (by first | exact trivial | omega | (simp only [dnL] at *; omega) | (simp_all; done) | (simp_all; omega))) ?_
 refine Xf tG rfl rfl rfl rfl (fun _ => rfl) trivial ?_
 refine Xe tG rfl rfl rfl rfl (fun _ => rfl) trivial ?_
 refine Xe tG rfl rfl rfl rfl (fun _ => rfl) trivial ?_
 refine Xf tG rfl rfl rfl rfl (fun _ => rfl) trivial ?_
 refine Xc rfl rfl rfl rfl (fun _ => dC rfl Tryz.func140 rfl rfl ((prim_base v hm) _)) ?_
 refine Xc rfl rfl rfl rfl (fun _ => dC rfl Tryz.func157 rfl rfl ((pic_All _ _ _ _ hp) _)) ?_
 refine Xe tG rfl rfl rfl rfl (fun _ => rfl) trivial ?_
 refine Xe tG rfl rfl rfl rfl (fun _ => rfl) trivial ?_
 refine Xe tG rfl rfl rfl rfl (fun _ => rfl) trivial ?_
 refine WU_ev2 tG rfl rfl rfl rfl rfl trivial rfl ?_
 refine WU_ev3 tG rfl rfl rfl rfl rfl trivial ?_
 refine Xe tG rfl rfl rfl rfl (fun _ => rfl) trivial ?_
 refine WU_nil ?_
 refine Ws ?_
 refine W_region rfl ?_
 iterate 5 refine We tG rfl rfl rfl trivial ?_
 refine Wn ?_
 refine Ws ?_
 refine W_region rfl ?_
 refine We tG rfl rfl rfl trivial ?_
 first | refine Wa 30 rfl (bsL cInt [_, _] rfl rfl) ?_ | skip
 iterate 3 refine We tG rfl rfl rfl trivial ?_
 refine Wn ?_
 refine Wq ?_
 first | refine leafM rfl rfl ?_ ?_ | refine leafMs rfl rfl ?_ ?_
 ·rfl
 ·first | rfl | (simp_all; done) | (simp_all; omega)
theorem picEnd_len (p : VPic) : (picEnd p).1.length ≤ p.b.length := by unfold picEnd; split <;> simp
theorem pi_5 (v : VVm) (x : List Int) (hp : v.pic.b.length ≤ 1000000) (hm : MemOk v.mem) : ∀ (H : List Ob) (i : Nat), H[i]? = some (.cells (cVm v) 36) → HC Tryz.prog 160 (.ptr i 0 :: [sq cInt x]) H (tLv (pEnd v).2) (H.set i (.cells (cVm (pEnd v).1) 36)) := by
 have hl := picEnd_len v.pic
 refine mut_of_W tG (rs := [.tmp 4, .tmp 5]) Tryz.func160 rfl rfl rfl (by simp) (by simp) (by simp) (by simp) (fun B => ?_)
 refine Ws ?_
 refine W_region rfl ?_
 iterate 2 refine We tG rfl rfl rfl trivial ?_
 refine Wn ?_
 refine Ws ?_
 refine W_region rfl ?_
 iterate 4 refine We tG rfl rfl rfl trivial ?_
 refine Wc rfl rfl (dC rfl Tryz.func161 rfl rfl ((pic_End _ hp) _)) ?_
 iterate 5 refine We tG rfl rfl rfl trivial ?_
 refine Wn ?_
 iterate 2 refine Ws ?_
 refine W_region rfl ?_
 iterate 2 refine We tG rfl rfl rfl trivial ?_
 refine Wn ?_
 refine Wi rfl (fun hi1 => ?_) (fun hi1 => ?_)
 ·have h0 : ¬ (picEnd v.pic).2 = 0 := bne_iff_ne.1 hi1
  refine Ws ?_
  refine W_region rfl ?_
  iterate 3 refine We tG rfl rfl rfl trivial ?_
  refine Wn ?_
  refine Wq ?_
  first | refine leafM rfl rfl ?_ ?_ | refine leafMs rfl rfl ?_ ?_
  ·rw [pEnd, if_neg h0]; rfl
  ·rw [pEnd, if_neg h0]; rfl
 ·have h0 : (picEnd v.pic).2 = 0 := bne_eq_false_iff_eq.1 hi1
  refine Wj ?_
  refine Ws ?_
  refine W_region rfl ?_
  iterate 7 refine We tG rfl rfl rfl trivial ?_
  refine Wn ?_
  refine Ws ?_
  refine W_region rfl ?_
  iterate 8 refine We tG rfl rfl rfl trivial ?_
  refine Wa 34 rfl (str_bytes _) ?_
  refine Wc rfl rfl (dC rfl Tryz.func162 rfl rfl ((mem_Write _ _ _ hm (w64_fit _) (by omega)) _)) ?_
  iterate 7 refine We tG rfl rfl rfl trivial ?_
  refine Wn ?_
  refine Ws ?_
  refine W_region rfl ?_
  iterate 5 refine We tG rfl rfl rfl trivial ?_
  refine Wn ?_
  refine Ws ?_
  refine W_region rfl ?_
  iterate 3 refine We tG rfl rfl rfl trivial ?_
  refine Wa 46 rfl (str_len _) ?_
  refine We tG rfl rfl rfl trivial ?_
  first | refine Wa 47 rfl (bsL cInt [_, _] rfl rfl) ?_ | skip
  iterate 3 refine We tG rfl rfl rfl trivial ?_
  refine Wn ?_
  refine Wq ?_
  first | refine leafM rfl rfl ?_ ?_ | refine leafMs rfl rfl ?_ ?_
  ·rw [pEnd, if_pos h0]; rfl
  ·rw [pEnd, if_pos h0]; rfl
def pBodyP (v : VVm) (x : List Int) : List Int × Int := ([W64 (xat x 0 + 16)], if (vmKind v (xat x 0)).2 = 0 ∧ ((vmKind v (xat x 0)).1 < 257 ∨ 260 < (vmKind v (xat x 0)).1) then -31 else (vmKind v (xat x 0)).2)
theorem ot_1 (v : VVm) (x : List Int) (hm : v.mem.b.length ≤ 140737488355328) (hx : XOk 1 x) : ∀ (H : List Ob) (i : Nat), H[i]? = some (.cells (cVm v) 36) → HC Tryz.prog 163 (.ptr i 0 :: [sq cInt x]) H (tLv (pBodyP v x)) (H.set i (.cells (cVm v) 36)) := by
 have hl := hx.len
 refine mut_of_W tG (rs := [.tmp 4, .tmp 5]) Tryz.func163 rfl rfl rfl (by simp) (by simp) (by simp) (by simp) (fun B => ?_)
 refine Ws ?_
 refine W_region rfl ?_
 iterate 2 refine We tG rfl rfl rfl trivial ?_
 refine Wn ?_
 refine Ws ?_
 refine W_drawU [0, 0, 1, 0, 0, 1, 0, 0, 0, 0, 0, 0] [0, 1, 2, 3, 4, 5, 6, 7, 8, 9, 10, 11] mG rfl (by kernel_rfl) ?_
 refine Xe tG rfl rfl rfl rfl (fun _ => rfl) trivial ?_
 refine Xe tG rfl rfl rfl rfl (fun _ => rfl) trivial ?_
 refine Xf tG rfl rfl rfl rfl (fun _ => rfl) trivial ?_
 refine Xe tG rfl rfl rfl rfl (fun _ => rfl) trivial ?_
 first | refine Xi tG rfl rfl rfl rfl (fun _ => rfl) (by first | exact trivial | omega | (simp only [dnL] at *; omega) | (simp_all; done) | (simp_all; omega)) (iN cInt 1 (fun _ => rfl) 0 (by first | exact trivial | omega | (simp only [dnL] at *; omega) | (simp_all; done) | (simp_all; omega))) ?_ | refine Xi tG rfl rfl rfl rfl (fun _ => rfl) (by first | exact trivial | omega | (simp only [dnL] at *; omega) | (simp_all; done) | (simp_all; omega)) (iR cInt 1 (fun _ => rfl) 0 (by first | exact trivial | omega | (simp only [dnL] at *; omega) | (simp_all; done) | (simp_all; omega))) ?_
 refine Xf tG rfl rfl rfl rfl (fun _ => rfl) trivial ?_
 refine Xc rfl rfl rfl rfl (fun _ => dC rfl Tryz.func164 rfl rfl ((vm_Kind v _ hm (hx.fit 0)) _)) ?_
 refine Xe tG rfl rfl rfl rfl (fun _ => rfl) trivial ?_
 refine Xe tG rfl rfl rfl rfl (fun _ => rfl) trivial ?_
 refine Xe tG rfl rfl rfl rfl (fun _ => rfl) trivial ?_
 refine Xe tG rfl rfl rfl rfl (fun _ => rfl) trivial ?_
 refine Xe tG rfl rfl rfl rfl (fun _ => rfl) trivial ?_
 refine WU_nil ?_
 iterate 2 refine Ws ?_
 refine W_region rfl ?_
 iterate 3 refine We tG rfl rfl rfl trivial ?_
 refine Wb 20 rfl (fun hg1 => ?_) (fun hg1 => ?_)
 ·have h0 : (vmKind v (xat x 0)).2 = 0 := beq_iff_eq.1 hg1
  iterate 3 refine We tG rfl rfl rfl trivial ?_
  refine Wb 23 rfl (fun hg2 => ?_) (fun hg2 => ?_)
  ·have h1 : (vmKind v (xat x 0)).1 < 257 := of_decide_eq_true hg2
   iterate 2 refine Wk rfl rfl ?_
   iterate 2 refine We tG rfl rfl rfl trivial ?_
   refine Wn ?_
   refine Wt rfl rfl ?_
   refine W_region rfl ?_
   refine We tG rfl rfl rfl trivial ?_
   refine Wn ?_
   refine Ws ?_
   refine W_region rfl ?_
   refine We tG rfl rfl rfl trivial ?_
   first | refine Wv tG rfl rfl rfl (by first | exact trivial | omega | (simp only [dnL] at *; omega) | (simp_all; done) | (simp_all; omega)) (iN cInt 1 (fun _ => rfl) 0 (by first | exact trivial | omega | (simp only [dnL] at *; omega) | (simp_all; done) | (simp_all; omega))) ?_ | refine Wv tG rfl rfl rfl (by first | exact trivial | omega | (simp only [dnL] at *; omega) | (simp_all; done) | (simp_all; omega)) (iR cInt 1 (fun _ => rfl) 0 (by first | exact trivial | omega | (simp only [dnL] at *; omega) | (simp_all; done) | (simp_all; omega))) ?_
   iterate 3 refine We tG rfl rfl rfl trivial ?_
   first | refine Wa 32 rfl (bsL cInt [_] rfl rfl) ?_ | skip
   iterate 3 refine We tG rfl rfl rfl trivial ?_
   refine Wn ?_
   refine Wq ?_
   first | refine leafM rfl rfl ?_ ?_ | refine leafMs rfl rfl ?_ ?_
   ·first | (rw [pBodyP, if_pos ⟨h0, by omega⟩]; rfl) | (rw [pBodyP, if_neg (fun h => by omega)]; rfl)
   ·first | rfl | (simp_all; done) | (simp_all; omega)
  ·have h1 : ¬ (vmKind v (xat x 0)).1 < 257 := of_decide_eq_false hg2
   iterate 4 refine We tG rfl rfl rfl trivial ?_
   refine Wn ?_
   refine Wi rfl (fun hi1 => ?_) (fun hi1 => ?_)
   ·have h2 : 260 < (vmKind v (xat x 0)).1 := of_decide_eq_true hi1
    refine W_region rfl ?_
    refine We tG rfl rfl rfl trivial ?_
    refine Wn ?_
    refine Ws ?_
    refine W_region rfl ?_
    refine We tG rfl rfl rfl trivial ?_
    first | refine Wv tG rfl rfl rfl (by first | exact trivial | omega | (simp only [dnL] at *; omega) | (simp_all; done) | (simp_all; omega)) (iN cInt 1 (fun _ => rfl) 0 (by first | exact trivial | omega | (simp only [dnL] at *; omega) | (simp_all; done) | (simp_all; omega))) ?_ | refine Wv tG rfl rfl rfl (by first | exact trivial | omega | (simp only [dnL] at *; omega) | (simp_all; done) | (simp_all; omega)) (iR cInt 1 (fun _ => rfl) 0 (by first | exact trivial | omega | (simp only [dnL] at *; omega) | (simp_all; done) | (simp_all; omega))) ?_
    iterate 3 refine We tG rfl rfl rfl trivial ?_
    first | refine Wa 32 rfl (bsL cInt [_] rfl rfl) ?_ | skip
    iterate 3 refine We tG rfl rfl rfl trivial ?_
    refine Wn ?_
    refine Wq ?_
    first | refine leafM rfl rfl ?_ ?_ | refine leafMs rfl rfl ?_ ?_
    ·first | (rw [pBodyP, if_pos ⟨h0, by omega⟩]; rfl) | (rw [pBodyP, if_neg (fun h => by omega)]; rfl)
    ·first | rfl | (simp_all; done) | (simp_all; omega)
   ·have h2 : ¬ 260 < (vmKind v (xat x 0)).1 := of_decide_eq_false hi1
    refine Wj ?_
    refine Ws ?_
    refine W_region rfl ?_
    refine We tG rfl rfl rfl trivial ?_
    first | refine Wv tG rfl rfl rfl (by first | exact trivial | omega | (simp only [dnL] at *; omega) | (simp_all; done) | (simp_all; omega)) (iN cInt 1 (fun _ => rfl) 0 (by first | exact trivial | omega | (simp only [dnL] at *; omega) | (simp_all; done) | (simp_all; omega))) ?_ | refine Wv tG rfl rfl rfl (by first | exact trivial | omega | (simp only [dnL] at *; omega) | (simp_all; done) | (simp_all; omega)) (iR cInt 1 (fun _ => rfl) 0 (by first | exact trivial | omega | (simp only [dnL] at *; omega) | (simp_all; done) | (simp_all; omega))) ?_
    iterate 3 refine We tG rfl rfl rfl trivial ?_
    first | refine Wa 32 rfl (bsL cInt [_] rfl rfl) ?_ | skip
    iterate 3 refine We tG rfl rfl rfl trivial ?_
    refine Wn ?_
    refine Wq ?_
    first | refine leafM rfl rfl ?_ ?_ | refine leafMs rfl rfl ?_ ?_
    ·first | (rw [pBodyP, if_pos ⟨h0, by omega⟩]; rfl) | (rw [pBodyP, if_neg (fun h => by omega)]; rfl)
    ·first | rfl | (simp_all; done) | (simp_all; omega)
 ·have h0 : ¬ (vmKind v (xat x 0)).2 = 0 := beq_eq_false_iff_ne.1 hg1
  iterate 6 refine Wk rfl rfl ?_
  refine We tG rfl rfl rfl trivial ?_
  refine Wn ?_
  refine Wf rfl rfl ?_
  refine Wj ?_
  refine Ws ?_
  refine W_region rfl ?_
  refine We tG rfl rfl rfl trivial ?_
  first | refine Wv tG rfl rfl rfl (by first | exact trivial | omega | (simp only [dnL] at *; omega) | (simp_all; done) | (simp_all; omega)) (iN cInt 1 (fun _ => rfl) 0 (by first | exact trivial | omega | (simp only [dnL] at *; omega) | (simp_all; done) | (simp_all; omega))) ?_ | refine Wv tG rfl rfl rfl (by first | exact trivial | omega | (simp only [dnL] at *; omega) | (simp_all; done) | (simp_all; omega)) (iR cInt 1 (fun _ => rfl) 0 (by first | exact trivial | omega | (simp only [dnL] at *; omega) | (simp_all; done) | (simp_all; omega))) ?_
  iterate 3 refine We tG rfl rfl rfl trivial ?_
  first | refine Wa 32 rfl (bsL cInt [_] rfl rfl) ?_ | skip
  iterate 3 refine We tG rfl rfl rfl trivial ?_
  refine Wn ?_
  refine Wq ?_
  first | refine leafM rfl rfl ?_ ?_ | refine leafMs rfl rfl ?_ ?_
  ·first | (rw [pBodyP, if_pos ⟨h0, by omega⟩]; rfl) | (rw [pBodyP, if_neg (fun h => by omega)]; rfl)
  ·first | rfl | (simp_all; done) | (simp_all; omega)
theorem ot_2 (x : List Int) : PureC Tryz.prog 165 [sq cInt x] (tLv ([], -1)) := by
 refine pW tG (rs := [.tmp 2, .tmp 3]) Tryz.func165 rfl rfl rfl (by simp) (by simp) (fun B => ?_)
 refine Ws ?_
 refine W_region rfl ?_
 iterate 2 refine We tG rfl rfl rfl trivial ?_
 refine Wn ?_
 refine Ws ?_
 refine W_region rfl ?_
 iterate 2 refine We tG rfl rfl rfl trivial ?_
 refine Wn ?_
 refine Wq ?_
 refine lP rfl ?_
 rfl
theorem ot_3 (v : VVm) : PureC Tryz.prog 167 [eVm v] (i64 v.arg) := by
 refine pW tG (rs := [.tmp 2]) Tryz.func167 rfl rfl rfl (by simp) (by simp) (fun B => ?_)
 refine Ws ?_
 refine W_region rfl ?_
 iterate 2 refine We tG rfl rfl rfl trivial ?_
 refine Wn ?_
 refine Ws ?_
 refine W_region rfl ?_
 iterate 3 refine We tG rfl rfl rfl trivial ?_
 refine Wn ?_
 refine Wq ?_
 refine lP rfl ?_
 rfl
theorem ot_4 (v : VVm) : PureC Tryz.prog 168 [eVm v] (i64 v.self) := by
 refine pW tG (rs := [.tmp 2]) Tryz.func168 rfl rfl rfl (by simp) (by simp) (fun B => ?_)
 refine Ws ?_
 refine W_region rfl ?_
 iterate 2 refine We tG rfl rfl rfl trivial ?_
 refine Wn ?_
 refine Ws ?_
 refine W_region rfl ?_
 iterate 3 refine We tG rfl rfl rfl trivial ?_
 refine Wn ?_
 refine Wq ?_
 refine lP rfl ?_
 rfl
theorem ot_5 (v : VVm) : PureC Tryz.prog 169 [eVm v] (i64 v.now) := by
 refine pW tG (rs := [.tmp 2]) Tryz.func169 rfl rfl rfl (by simp) (by simp) (fun B => ?_)
 refine Ws ?_
 refine W_region rfl ?_
 iterate 2 refine We tG rfl rfl rfl trivial ?_
 refine Wn ?_
 refine Ws ?_
 refine W_region rfl ?_
 iterate 3 refine We tG rfl rfl rfl trivial ?_
 refine Wn ?_
 refine Wq ?_
 refine lP rfl ?_
 rfl
theorem ot_6 (v : VVm) (x : List Int) (hm : MemOk v.mem) (hx : XOk 2 x) : ∀ (H : List Ob) (i : Nat), H[i]? = some (.cells (cVm v) 36) → HC Tryz.prog 170 (.ptr i 0 :: [sq cInt x]) H (tLv (pSetState v x).2) (H.set i (.cells (cVm (pSetState v x).1) 36)) := by
 have hl := hx.len
 refine mut_of_W tG (rs := [.tmp 4, .tmp 5]) Tryz.func170 rfl rfl rfl (by simp) (by simp) (by simp) (by simp) (fun B => ?_)
 refine Ws ?_
 refine W_region rfl ?_
 iterate 2 refine We tG rfl rfl rfl trivial ?_
 refine Wn ?_
 iterate 2 refine Ws ?_
 refine W_drawU [0, 0, 0, 1, 0, 0, 1, 3, 0] [0, 1, 2, 3, 4, 5, 6, 7, 8] mG rfl (by kernel_rfl) ?_
 refine Xe tG rfl rfl rfl rfl (fun _ => rfl) trivial ?_
 refine Xe tG rfl rfl rfl rfl (fun _ => rfl) trivial ?_
 first | refine Xi tG rfl rfl rfl rfl (fun _ => rfl) (by first | exact trivial | omega | (simp only [dnL] at *; omega) | (simp_all; done) | (simp_all; omega)) (iN cInt 1 (fun _ => rfl) 0 (by first | exact trivial | omega | (simp only [dnL] at *; omega) | (simp_all; done) | (simp_all; omega))) ?_ | refine Xi tG rfl rfl rfl rfl (fun _ => rfl) (by first | exact trivial | omega | (simp only [dnL] at *; omega) | (simp_all; done) | (simp_all; omega)) (iR cInt 1 (fun _ => rfl) 0 (by first | exact trivial | omega | (simp only [dnL] at *; omega) | (simp_all; done) | (simp_all; omega))) ?_
 refine Xf tG rfl rfl rfl rfl (fun _ => rfl) trivial ?_
 refine Xe tG rfl rfl rfl rfl (fun _ => rfl) trivial ?_
 first | refine Xi tG rfl rfl rfl rfl (fun _ => rfl) (by first | exact trivial | omega | (simp only [dnL] at *; omega) | (simp_all; done) | (simp_all; omega)) (iN cInt 1 (fun _ => rfl) 0 (by first | exact trivial | omega | (simp only [dnL] at *; omega) | (simp_all; done) | (simp_all; omega))) ?_ | refine Xi tG rfl rfl rfl rfl (fun _ => rfl) (by first | exact trivial | omega | (simp only [dnL] at *; omega) | (simp_all; done) | (simp_all; omega)) (iR cInt 1 (fun _ => rfl) 0 (by first | exact trivial | omega | (simp only [dnL] at *; omega) | (simp_all; done) | (simp_all; omega))) ?_
 refine Xf tG rfl rfl rfl rfl (fun _ => rfl) trivial ?_
 refine WU_call3 rfl rfl rfl rfl (dC rfl Tryz.func171 rfl rfl ((prim_stated v _ _ (memOk_len hm) (hx.fit 0)) _ _ rfl)) ?_
 refine Xe tG rfl rfl rfl rfl (fun _ => rfl) trivial ?_
 refine WU_nil ?_
 refine Ws ?_
 refine W_region rfl ?_
 iterate 2 refine We tG rfl rfl rfl trivial ?_
 refine Wn ?_
 refine Wi rfl (fun hi1 => ?_) (fun hi1 => ?_)
 ·have h0 : ¬ stated v (xat x 0) (xat x 1) = 0 := bne_iff_ne.1 hi1
  refine Ws ?_
  refine W_region rfl ?_
  iterate 3 refine We tG rfl rfl rfl trivial ?_
  refine Wn ?_
  refine Wq ?_
  first | refine leafM rfl rfl ?_ ?_ | refine leafMs rfl rfl ?_ ?_
  ·rw [pSetState, if_neg h0]; rfl
  ·rw [pSetState, if_neg h0]; rfl
 ·have h0 : stated v (xat x 0) (xat x 1) = 0 := bne_eq_false_iff_eq.1 hi1
  refine Wj ?_
  refine Ws ?_
  refine W_drawU [0, 0, 0, 1, 0, 0, 1, 3, 0, 0] [0, 1, 2, 3, 4, 5, 6, 7, 8, 9] mG rfl (by kernel_rfl) ?_
  refine Xe tG rfl rfl rfl rfl (fun _ => rfl) trivial ?_
  refine Xe tG rfl rfl rfl rfl (fun _ => rfl) trivial ?_
  first | refine Xi tG rfl rfl rfl rfl (fun _ => rfl) (by first | exact trivial | omega | (simp only [dnL] at *; omega) | (simp_all; done) | (simp_all; omega)) (iN cInt 1 (fun _ => rfl) 0 (by first | exact trivial | omega | (simp only [dnL] at *; omega) | (simp_all; done) | (simp_all; omega))) ?_ | refine Xi tG rfl rfl rfl rfl (fun _ => rfl) (by first | exact trivial | omega | (simp only [dnL] at *; omega) | (simp_all; done) | (simp_all; omega)) (iR cInt 1 (fun _ => rfl) 0 (by first | exact trivial | omega | (simp only [dnL] at *; omega) | (simp_all; done) | (simp_all; omega))) ?_
  refine Xf tG rfl rfl rfl rfl (fun _ => rfl) trivial ?_
  refine Xe tG rfl rfl rfl rfl (fun _ => rfl) trivial ?_
  first | refine Xi tG rfl rfl rfl rfl (fun _ => rfl) (by first | exact trivial | omega | (simp only [dnL] at *; omega) | (simp_all; done) | (simp_all; omega)) (iN cInt 1 (fun _ => rfl) 0 (by first | exact trivial | omega | (simp only [dnL] at *; omega) | (simp_all; done) | (simp_all; omega))) ?_ | refine Xi tG rfl rfl rfl rfl (fun _ => rfl) (by first | exact trivial | omega | (simp only [dnL] at *; omega) | (simp_all; done) | (simp_all; omega)) (iR cInt 1 (fun _ => rfl) 0 (by first | exact trivial | omega | (simp only [dnL] at *; omega) | (simp_all; done) | (simp_all; omega))) ?_
  refine Xf tG rfl rfl rfl rfl (fun _ => rfl) trivial ?_
  refine WU_call3 rfl rfl rfl rfl (dC rfl Tryz.func122 rfl rfl ((prim_store v _ _ hm (hx.fit 1)) _ _ rfl)) ?_
  refine Xe tG rfl rfl rfl rfl (fun _ => rfl) trivial ?_
  refine Xe tG rfl rfl rfl rfl (fun _ => rfl) trivial ?_
  refine WU_nil ?_
  refine Wq ?_
  first | refine leafM rfl rfl ?_ ?_ | refine leafMs rfl rfl ?_ ?_
  ·rw [pSetState, if_pos h0]; rfl
  ·rw [pSetState, if_pos h0]; rfl
theorem ot_7 (v : VVm) (x : List Int) (hm : MemOk v.mem) (hx : XOk 3 x) : ∀ (H : List Ob) (i : Nat), H[i]? = some (.cells (cVm v) 36) → HC Tryz.prog 172 (.ptr i 0 :: [sq cInt x]) H (tLv (pAtState v x).2) (H.set i (.cells (cVm (pAtState v x).1) 36)) := by
 have hl := hx.len
 refine mut_of_W tG (rs := [.tmp 4, .tmp 5]) Tryz.func172 rfl rfl rfl (by simp) (by simp) (by simp) (by simp) (fun B => ?_)
 refine Ws ?_
 refine W_region rfl ?_
 iterate 2 refine We tG rfl rfl rfl trivial ?_
 refine Wn ?_
 iterate 2 refine Ws ?_
 refine W_drawU [0, 0, 0, 1, 0, 0, 1, 3, 0] [0, 1, 2, 3, 4, 5, 6, 7, 8] mG rfl (by kernel_rfl) ?_
 refine Xe tG rfl rfl rfl rfl (fun _ => rfl) trivial ?_
 refine Xe tG rfl rfl rfl rfl (fun _ => rfl) trivial ?_
 first | refine Xi tG rfl rfl rfl rfl (fun _ => rfl) (by first | exact trivial | omega | (simp only [dnL] at *; omega) | (simp_all; done) | (simp_all; omega)) (iN cInt 1 (fun _ => rfl) 0 (by first | exact trivial | omega | (simp only [dnL] at *; omega) | (simp_all; done) | (simp_all; omega))) ?_ | refine Xi tG rfl rfl rfl rfl (fun _ => rfl) (by first | exact trivial | omega | (simp only [dnL] at *; omega) | (simp_all; done) | (simp_all; omega)) (iR cInt 1 (fun _ => rfl) 0 (by first | exact trivial | omega | (simp only [dnL] at *; omega) | (simp_all; done) | (simp_all; omega))) ?_
 refine Xf tG rfl rfl rfl rfl (fun _ => rfl) trivial ?_
 refine Xe tG rfl rfl rfl rfl (fun _ => rfl) trivial ?_
 first | refine Xi tG rfl rfl rfl rfl (fun _ => rfl) (by first | exact trivial | omega | (simp only [dnL] at *; omega) | (simp_all; done) | (simp_all; omega)) (iN cInt 1 (fun _ => rfl) 0 (by first | exact trivial | omega | (simp only [dnL] at *; omega) | (simp_all; done) | (simp_all; omega))) ?_ | refine Xi tG rfl rfl rfl rfl (fun _ => rfl) (by first | exact trivial | omega | (simp only [dnL] at *; omega) | (simp_all; done) | (simp_all; omega)) (iR cInt 1 (fun _ => rfl) 0 (by first | exact trivial | omega | (simp only [dnL] at *; omega) | (simp_all; done) | (simp_all; omega))) ?_
 refine Xf tG rfl rfl rfl rfl (fun _ => rfl) trivial ?_
 refine WU_call3 rfl rfl rfl rfl (dC rfl Tryz.func171 rfl rfl ((prim_stated v _ _ (memOk_len hm) (hx.fit 1)) _ _ rfl)) ?_
 refine Xe tG rfl rfl rfl rfl (fun _ => rfl) trivial ?_
 refine WU_nil ?_
 refine Ws ?_
 refine W_region rfl ?_
 iterate 2 refine We tG rfl rfl rfl trivial ?_
 refine Wn ?_
 refine Wi rfl (fun hi1 => ?_) (fun hi1 => ?_)
 ·have h0 : ¬ stated v (xat x 1) (xat x 2) = 0 := bne_iff_ne.1 hi1
  refine Ws ?_
  refine W_region rfl ?_
  iterate 3 refine We tG rfl rfl rfl trivial ?_
  refine Wn ?_
  refine Wq ?_
  first | refine leafM rfl rfl ?_ ?_ | refine leafMs rfl rfl ?_ ?_
  ·rw [pAtState, if_neg h0]; rfl
  ·rw [pAtState, if_neg h0]; rfl
 ·have h0 : stated v (xat x 1) (xat x 2) = 0 := bne_eq_false_iff_eq.1 hi1
  refine Wj ?_
  refine Ws ?_
  refine W_drawU [0, 0, 0, 0, 0, 0, 0, 0, 0, 0, 0, 0, 0, 3, 0, 0] [0, 1, 2, 3, 4, 5, 6, 7, 8, 9, 10, 11, 12, 13, 14, 15] mG rfl (by kernel_rfl) ?_
  refine Xe tG rfl rfl rfl rfl (fun _ => rfl) trivial ?_
  refine Xe tG rfl rfl rfl rfl (fun _ => rfl) trivial ?_
  first | refine Xi tG rfl rfl rfl rfl (fun _ => rfl) (by first | exact trivial | omega | (simp only [dnL] at *; omega) | (simp_all; done) | (simp_all; omega)) (iN cInt 1 (fun _ => rfl) 0 (by first | exact trivial | omega | (simp only [dnL] at *; omega) | (simp_all; done) | (simp_all; omega))) ?_ | refine Xi tG rfl rfl rfl rfl (fun _ => rfl) (by first | exact trivial | omega | (simp only [dnL] at *; omega) | (simp_all; done) | (simp_all; omega)) (iR cInt 1 (fun _ => rfl) 0 (by first | exact trivial | omega | (simp only [dnL] at *; omega) | (simp_all; done) | (simp_all; omega))) ?_
  refine Xe tG rfl rfl rfl rfl (fun _ => rfl) trivial ?_
  refine Xe tG rfl rfl rfl rfl (fun _ => rfl) trivial ?_
  refine Xe tG rfl rfl rfl rfl (fun _ => rfl) trivial ?_
  first | refine Xi tG rfl rfl rfl rfl (fun _ => rfl) (by first | exact trivial | omega | (simp only [dnL] at *; omega) | (simp_all; done) | (simp_all; omega)) (iN cInt 1 (fun _ => rfl) 0 (by first | exact trivial | omega | (simp only [dnL] at *; omega) | (simp_all; done) | (simp_all; omega))) ?_ | refine Xi tG rfl rfl rfl rfl (fun _ => rfl) (by first | exact trivial | omega | (simp only [dnL] at *; omega) | (simp_all; done) | (simp_all; omega)) (iR cInt 1 (fun _ => rfl) 0 (by first | exact trivial | omega | (simp only [dnL] at *; omega) | (simp_all; done) | (simp_all; omega))) ?_
  refine Xe tG rfl rfl rfl rfl (fun _ => rfl) trivial ?_
  refine Xe tG rfl rfl rfl rfl (fun _ => rfl) trivial ?_
  refine Xe tG rfl rfl rfl rfl (fun _ => rfl) trivial ?_
  refine Xe tG rfl rfl rfl rfl (fun _ => rfl) trivial ?_
  first | refine Xi tG rfl rfl rfl rfl (fun _ => rfl) (by first | exact trivial | omega | (simp only [dnL] at *; omega) | (simp_all; done) | (simp_all; omega)) (iN cInt 1 (fun _ => rfl) 0 (by first | exact trivial | omega | (simp only [dnL] at *; omega) | (simp_all; done) | (simp_all; omega))) ?_ | refine Xi tG rfl rfl rfl rfl (fun _ => rfl) (by first | exact trivial | omega | (simp only [dnL] at *; omega) | (simp_all; done) | (simp_all; omega)) (iR cInt 1 (fun _ => rfl) 0 (by first | exact trivial | omega | (simp only [dnL] at *; omega) | (simp_all; done) | (simp_all; omega))) ?_
  refine Xe tG rfl rfl rfl rfl (fun _ => rfl) trivial ?_
  refine WU_call3 rfl rfl rfl rfl (dC rfl Tryz.func122 rfl rfl ((prim_store v _ _ hm (w64_fit _)) _ _ rfl)) ?_
  refine Xe tG rfl rfl rfl rfl (fun _ => rfl) trivial ?_
  refine Xe tG rfl rfl rfl rfl (fun _ => rfl) trivial ?_
  refine WU_nil ?_
  refine Wq ?_
  first | refine leafM rfl rfl ?_ ?_ | refine leafMs rfl rfl ?_ ?_
  ·rw [pAtState, if_pos h0]; rfl
  ·rw [pAtState, if_pos h0]; rfl
end Go.Proofs.YtphgdofmjpdhaaaGreat
