import Derived.Test.YtobhnjnffnbbkaaGreatDoorPk5
set_option linter.unusedVariables false
set_option linter.unusedSimpArgs false
namespace Go.Proofs.YtobhnjnffnbbkaaGreatDoor
open Go.RowKit
set_option maxRecDepth 100000
set_option maxHeartbeats 4000000
@[simp] theorem flat_fn {f : Fn} {a b : List PV} : Flat (.fn f a b) ↔ FlatL a ∧ FlatL b := by rw [Flat]
@[simp] theorem flat_row {a : List PV} : Flat (.row a) ↔ FlatL a := by rw [Flat]
abbrev fnP (g : FuncId) (cap : List PV) : PV := .fn (.func g) [] cap
abbrev deedP (k : Int) (f : FuncId) (cap : List PV) : PV := .agg [i64 k, fnP f cap]
abbrev CallP (g : FuncId) (args : List PV) (res : PV) : Prop := ∀ H, Callable Tryz.prog g args H res H
theorem prim_told (l : List Int) : PureC Tryz.prog 152 [sq cInt l] (tLv (l, 0)) := by
 refine pW tG (rs := [.tmp 2, .tmp 3]) Tryz.func152 rfl rfl rfl (by simp) (by simp) (fun B => ?_)
 refine zu2 ?_
 refine zu3 ?_
 refine zR ?_
 rfl
theorem prim_flag (b : Bool) : PureC Tryz.prog 207 [boo b] (i64 (flagS b)) := by
 refine pW tG (rs := [.tmp 2]) Tryz.func207 rfl rfl rfl (by simp) (by simp) (fun B => ?_)
 refine zu1 ?_
 refine Ws ?_
 refine zu1 ?_
 refine Wi rfl (fun hi1 => ?_) (fun hi1 => ?_)
 ·refine zu1 ?_
  refine zR ?_
  rw [hi1]; rfl
 ·refine Wj ?_
  refine zu1 ?_
  refine zR ?_
  rw [hi1]; rfl
theorem mk_pure (k : Int) (g : FuncId) (cap : List PV) (hc : FlatL cap) : PureC Tryz.prog 147 [i64 k, fnP g cap] (deedP k 186 [.row [fnP g cap]]) := by
 refine pW tG (rs := [.cell 4 169]) Tryz.func147 rfl rfl rfl (by simp [hc]) (by simp [hc]) (fun B => ?_)
 refine zp1 ?_
 refine WO_freezeP 3 _ rfl rfl rfl ?_
 refine zs1 ?_
 refine zu4 ?_
 refine zR ?_
 rfl
theorem d_pure (g : FuncId) (cap : List PV) (v : VVm) (x : List Int) (r : List Int × Int) (hc : FlatL cap) (hg : CallP g ([sq cInt x] ++ cap) (tLv r)) :
  ∀ (H : List Ob) (i : Nat), H[i]? = some (.cells (cVm v) 36) → HC Tryz.prog 186 (.ptr i 0 :: [sq cInt x, .row [fnP g cap]]) H (tLv r) (H.set i (.cells (cVm v) 36)) := by
 refine mut_of_W tG (rs := [.tmp 5, .tmp 6]) Tryz.func186 rfl rfl rfl (by simp [hc]) (by simp [hc]) (by simp [hc]) (by simp [hc]) (fun B => ?_)
 refine zu2 ?_
 refine zp2 ?_
 refine Wc rfl rfl (doesCWs rfl rfl (hg _)) ?_
 refine zs4 ?_
 refine Wq ?_
 refine leafM rfl rfl ?_ ?_
 ·rfl
 ·rfl
theorem mk_shown (g : FuncId) (cap : List PV) (hc : FlatL cap) : PureC Tryz.prog 229 [fnP g cap] (deedP 0 317 [.row [fnP g cap]]) := by
 refine pW tG (rs := [.cell 2 169]) Tryz.func229 rfl rfl rfl (by simp [hc]) (by simp [hc]) (fun B => ?_)
 refine zp1 ?_
 refine WO_freezeP 1 _ rfl rfl rfl ?_
 refine zs1 ?_
 refine zu3 ?_
 refine zR ?_
 rfl
theorem d_shown (g : FuncId) (cap : List PV) (v : VVm) (x : List Int) (n : Int) (hc : FlatL cap) (hg : CallP g ([eVm v] ++ cap) (i64 n)) :
  ∀ (H : List Ob) (i : Nat), H[i]? = some (.cells (cVm v) 36) → HC Tryz.prog 317 (.ptr i 0 :: [sq cInt x, .row [fnP g cap]]) H (tLv ([n], 0)) (H.set i (.cells (cVm v) 36)) := by
 refine mut_of_W tG (rs := [.tmp 5, .tmp 6]) Tryz.func317 rfl rfl rfl (by simp [hc]) (by simp [hc]) (by simp [hc]) (by simp [hc]) (fun B => ?_)
 refine zu2 ?_
 refine Ws ?_
 refine W_drawU [1, 0, 0, 1, 0, 0, 0, 0, 0, 0, 0] [0, 1, 2, 3, 4, 5, 6, 7, 8, 9, 10] mG rfl (by kernel_rfl) ?_
 refine z5 ?_
 iterate 2 refine z3 ?_
 refine z5 ?_
 refine Xc rfl rfl rfl rfl (fun _ => doesCWs rfl rfl (hg _)) ?_
 refine z3 ?_
 refine Xa 12 rfl (bsL cInt [_] rfl rfl) ?_
 refine Xc rfl rfl rfl rfl (fun _ => dC rfl Tryz.func152 rfl rfl ((prim_told [n]) _)) ?_
 iterate 4 refine z3 ?_
 refine WU_nil ?_
 refine Wq ?_
 refine leafM rfl rfl ?_ ?_
 ·rfl
 ·rfl
theorem mk_fetches (g : FuncId) (cap : List PV) (hc : FlatL cap) : PureC Tryz.prog 210 [fnP g cap] (deedP 1 313 [.row [fnP g cap]]) := by
 refine pW tG (rs := [.cell 2 169]) Tryz.func210 rfl rfl rfl (by simp [hc]) (by simp [hc]) (fun B => ?_)
 refine zp1 ?_
 refine WO_freezeP 1 _ rfl rfl rfl ?_
 refine zs1 ?_
 refine zu3 ?_
 refine zR ?_
 rfl
theorem d_fetches (g : FuncId) (cap : List PV) (v : VVm) (x : List Int) (r : Int × Int) (hx : 1 ≤ x.length) (hc : FlatL cap) (hg : CallP g ([eMem v.mem, i64 (xat x 0)] ++ cap) (tFetch r)) :
  ∀ (H : List Ob) (i : Nat), H[i]? = some (.cells (cVm v) 36) → HC Tryz.prog 313 (.ptr i 0 :: [sq cInt x, .row [fnP g cap]]) H (tLv ([r.1], r.2)) (H.set i (.cells (cVm v) 36)) := by
 refine mut_of_W tG (rs := [.tmp 5, .tmp 6]) Tryz.func313 rfl rfl rfl (by simp [hc]) (by simp [hc]) (by simp [hc]) (by simp [hc]) (fun B => ?_)
 refine zu2 ?_
 refine Ws ?_
 refine W_drawU [1, 0, 0, 0, 1, 0, 0, 1, 0, 0, 0, 0, 0, 0] [0, 1, 2, 3, 4, 5, 6, 7, 8, 9, 10, 11, 12, 13] mG rfl (by kernel_rfl) ?_
 refine z5 ?_
 iterate 3 refine z3 ?_
 refine z5 ?_
 refine z3 ?_
 refine Xi tG rfl rfl rfl rfl (fun _ => rfl) (by omega) (iN cInt 1 (fun _ => rfl) 0 (by (simp only [dnL] at *; omega))) ?_
 refine z5 ?_
 refine Xc rfl rfl rfl rfl (fun _ => doesCWs rfl rfl (hg _)) ?_
 iterate 5 refine z3 ?_
 refine WU_nil ?_
 refine zp2 ?_
 refine Wa 22 rfl (bsL cInt [_] rfl rfl) ?_
 refine zs3 ?_
 refine Wq ?_
 refine leafM rfl rfl ?_ ?_
 ·rfl
 ·rfl
theorem mk_changes (k : Int) (g : FuncId) (cap : List PV) (hc : FlatL cap) : PureC Tryz.prog 212 [i64 k, fnP g cap] (deedP k 314 [.row [fnP g cap]]) := by
 refine pW tG (rs := [.cell 4 169]) Tryz.func212 rfl rfl rfl (by simp [hc]) (by simp [hc]) (fun B => ?_)
 refine zp1 ?_
 refine WO_freezeP 3 _ rfl rfl rfl ?_
 refine zs1 ?_
 refine zu4 ?_
 refine zR ?_
 rfl
theorem d_changes (g : FuncId) (cap : List PV) (v : VVm) (x : List Int) (r : VMem × Int) (hc : FlatL cap) (hg : CallP g ([eMem v.mem, sq cInt x] ++ cap) (tMem r)) :
  ∀ (H : List Ob) (i : Nat), H[i]? = some (.cells (cVm v) 36) → HC Tryz.prog 314 (.ptr i 0 :: [sq cInt x, .row [fnP g cap]]) H (tLv ([], r.2)) (H.set i (.cells (cVm (withM v r.1)) 36)) := by
 refine mut_of_W tG (rs := [.tmp 5, .tmp 6]) Tryz.func314 rfl rfl rfl (by simp [hc]) (by simp [hc]) (by simp [hc]) (by simp [hc]) (fun B => ?_)
 refine zu2 ?_
 refine Ws ?_
 refine W_drawU [1, 0, 0, 0, 1, 0, 0, 0, 0, 0, 2, 3, 0] [0, 1, 2, 3, 4, 5, 6, 7, 8, 9, 10, 11, 12] mG rfl (by kernel_rfl) ?_
 refine z5 ?_
 iterate 3 refine z3 ?_
 refine z5 ?_
 refine z3 ?_
 refine Xc rfl rfl rfl rfl (fun _ => doesCWs rfl rfl (hg _)) ?_
 iterate 3 refine z3 ?_
 refine WU_ev2 tG rfl rfl rfl rfl rfl trivial rfl ?_
 refine WU_ev3 tG rfl rfl rfl rfl rfl trivial ?_
 refine z3 ?_
 refine WU_nil ?_
 refine zu5 ?_
 refine zu3 ?_
 refine Wq ?_
 refine leafM rfl rfl ?_ ?_
 ·rfl
 ·rfl
theorem mk_lays (k : Int) (g : FuncId) (cap : List PV) (hc : FlatL cap) : PureC Tryz.prog 232 [i64 k, fnP g cap] (deedP k 318 [.row [fnP g cap]]) := by
 refine pW tG (rs := [.cell 4 169]) Tryz.func232 rfl rfl rfl (by simp [hc]) (by simp [hc]) (fun B => ?_)
 refine zp1 ?_
 refine WO_freezeP 3 _ rfl rfl rfl ?_
 refine zs1 ?_
 refine zu4 ?_
 refine zR ?_
 rfl
theorem d_lays (g : FuncId) (cap : List PV) (v : VVm) (x : List Int) (r : VMem × Int × Int) (hc : FlatL cap) (hg : CallP g ([eMem v.mem, i64 v.here, sq cInt x] ++ cap) (tLay r)) :
  ∀ (H : List Ob) (i : Nat), H[i]? = some (.cells (cVm v) 36) → HC Tryz.prog 318 (.ptr i 0 :: [sq cInt x, .row [fnP g cap]]) H (tLv ([], r.2.2)) (H.set i (.cells (cVm (pLay v r).1) 36)) := by
 refine mut_of_W tG (rs := [.tmp 5, .tmp 6]) Tryz.func318 rfl rfl rfl (by simp [hc]) (by simp [hc]) (by simp [hc]) (by simp [hc]) (fun B => ?_)
 refine zu2 ?_
 refine Ws ?_
 refine W_drawU [1, 0, 0, 0, 1, 0, 0, 0, 1, 0, 0, 0, 0, 0, 0, 2, 3, 0, 0] [0, 1, 2, 3, 4, 5, 6, 7, 8, 9, 10, 11, 12, 13, 14, 15, 16, 17, 18] mG rfl (by kernel_rfl) ?_
 refine z5 ?_
 iterate 3 refine z3 ?_
 refine z5 ?_
 iterate 3 refine z3 ?_
 refine z5 ?_
 refine z3 ?_
 refine Xc rfl rfl rfl rfl (fun _ => doesCWs rfl rfl (hg _)) ?_
 iterate 4 refine z3 ?_
 refine WU_ev2 tG rfl rfl rfl rfl rfl trivial rfl ?_
 refine WU_ev3 tG rfl rfl rfl rfl rfl trivial ?_
 iterate 2 refine z3 ?_
 refine WU_nil ?_
 refine zp5 ?_
 refine zs5 ?_
 refine zu3 ?_
 refine Wq ?_
 refine leafM rfl rfl ?_ ?_
 ·rfl
 ·rfl
theorem mk_puts (k : Int) (g : FuncId) (cap : List PV) (hc : FlatL cap) : PureC Tryz.prog 243 [i64 k, fnP g cap] (deedP k 320 [.row [fnP g cap]]) := by
 refine pW tG (rs := [.cell 4 169]) Tryz.func243 rfl rfl rfl (by simp [hc]) (by simp [hc]) (fun B => ?_)
 refine zp1 ?_
 refine WO_freezeP 3 _ rfl rfl rfl ?_
 refine zs1 ?_
 refine zu4 ?_
 refine zR ?_
 rfl
theorem d_puts (g : FuncId) (cap : List PV) (v : VVm) (x : List Int) (r : Str × Int) (ho : 0 ≤ v.conf.out ∧ v.conf.out ≤ 1000000) (hl : v.out.length ≤ 1000000) (hr : r.1.length ≤ 140737488355328) (hc : FlatL cap) (hg : CallP g ([eVm v, sq cInt x] ++ cap) (tShow r)) :
  ∀ (H : List Ob) (i : Nat), H[i]? = some (.cells (cVm v) 36) → HC Tryz.prog 320 (.ptr i 0 :: [sq cInt x, .row [fnP g cap]]) H (tLv (pPrint v r).2) (H.set i (.cells (cVm (pPrint v r).1) 36)) := by
 refine mut_of_W tG (rs := [.tmp 5, .tmp 6]) Tryz.func320 rfl rfl rfl (by simp [hc]) (by simp [hc]) (by simp [hc]) (by simp [hc]) (fun B => ?_)
 refine zu2 ?_
 refine Ws ?_
 refine W_drawU [1, 0, 0, 1, 0, 0, 0, 0, 0, 0, 0] [0, 1, 2, 3, 4, 5, 6, 7, 8, 9, 10] mG rfl (by kernel_rfl) ?_
 refine z5 ?_
 iterate 2 refine z3 ?_
 refine z5 ?_
 refine z3 ?_
 refine Xc rfl rfl rfl rfl (fun _ => doesCWs rfl rfl (hg _)) ?_
 iterate 5 refine z3 ?_
 refine WU_nil ?_
 refine Ws ?_
 refine zu2 ?_
 refine Wi rfl (fun hi1 => ?_) (fun hi1 => ?_)
 ·have h0 : ¬ r.2 = 0 := by simpa using hi1
  refine zu3 ?_
  refine Wq ?_
  refine leafM rfl rfl ?_ ?_
  ·rw [pPrint, if_neg h0]; rfl
  ·rw [pPrint, if_neg h0]; rfl
 ·have h0 : r.2 = 0 := by simpa using hi1
  refine Wj ?_
  refine zp4 ?_
  refine Wc rfl rfl (dC rfl Tryz.func321 rfl rfl ((vm_Print v r.1 ho hl hr) _)) ?_
  refine zy5 ?_
  refine zs1 ?_
  refine zu4 ?_
  refine zu3 ?_
  refine Wq ?_
  refine leafM rfl rfl ?_ ?_
  ·rw [pPrint, if_pos h0]; rfl
  ·rw [pPrint, if_pos h0]; rfl
theorem prim_base (v : VVm) (hm : v.mem.b.length ≤ 140737488355328) : PureC Tryz.prog 245 [eVm v] (i64 (baseS v)) := by
 refine pW tG (rs := [.tmp 2]) Tryz.func245 rfl rfl rfl (by simp) (by simp) (fun B => ?_)
 refine zu2 ?_
 refine zp2 ?_
 refine Wc rfl rfl (dC rfl Tryz.func60 rfl rfl ((mem_Fetch v.mem 0 hm (by unfold Fit64; omega)) _)) ?_
 refine zs5 ?_
 refine zu2 ?_
 refine zR ?_
 rfl
theorem mk_number (g : FuncId) (cap : List PV) (hc : FlatL cap) : PureC Tryz.prog 242 [fnP g cap] (deedP 1 320 [.row [fnP 244 [.row [fnP g cap]]]]) := by
 refine pW tG (rs := [.cell 2 169]) Tryz.func242 rfl rfl rfl (by simp [hc]) (by simp [hc]) (fun B => ?_)
 refine zp1 ?_
 refine WO_freezeP 1 _ rfl rfl rfl ?_
 refine zs1 ?_
 refine zp1 ?_
 refine Wc rfl rfl (dC rfl Tryz.func243 rfl rfl ((mk_puts 1 244 [.row [fnP g cap]] (by simp [hc])) _)) ?_
 refine zs1 ?_
 refine zR ?_
 rfl
theorem d_number (g : FuncId) (cap : List PV) (v : VVm) (x : List Int) (r : Str × Int) (hx : 1 ≤ x.length) (hm : v.mem.b.length ≤ 140737488355328) (hr : r.1.length ≤ 140737488355328) (hc : FlatL cap) (hg : CallP g ([i64 (xat x 0), i64 (baseS v)] ++ cap) (tShow r)) :
  PureC Tryz.prog 244 [eVm v, sq cInt x, .row [fnP g cap]] (tShow (pDot r)) := by
 refine pW tG (rs := [.tmp 5, .tmp 6]) Tryz.func244 rfl rfl rfl (by simp [hc]) (by simp [hc]) (fun B => ?_)
 refine zu3 ?_
 refine Ws ?_
 refine W_drawU [1, 0, 0, 1, 1, 0, 0, 0, 0, 0, 0, 0] [0, 1, 2, 3, 4, 5, 6, 7, 8, 9, 10, 11] mG rfl (by kernel_rfl) ?_
 refine z5 ?_
 refine z3 ?_
 refine Xi tG rfl rfl rfl rfl (fun _ => rfl) (by omega) (iN cInt 1 (fun _ => rfl) 0 (by (simp only [dnL] at *; omega))) ?_
 iterate 2 refine z5 ?_
 refine Xc rfl rfl rfl rfl (fun _ => dC rfl Tryz.func245 rfl rfl ((prim_base v hm) _)) ?_
 refine Xc rfl rfl rfl rfl (fun _ => doesCWs rfl rfl (hg _)) ?_
 iterate 5 refine z3 ?_
 refine WU_nil ?_
 refine zp1 ?_
 refine z2 ?_ (q := (by simp only [str_size]; ((simp_all; omega))))
 refine Wa 20 rfl (str_append _ _) ?_
 refine zs3 ?_
 refine zR ?_
 rfl
theorem mk_text (s : Str) : PureC Tryz.prog 246 [str s] (deedP 0 320 [.row [fnP 247 [.row [str s]]]]) := by
 refine pW tG (rs := [.cell 2 169]) Tryz.func246 rfl rfl rfl (by simp) (by simp) (fun B => ?_)
 refine zp1 ?_
 refine WO_freezeP 1 _ rfl rfl rfl ?_
 refine zs1 ?_
 refine zp1 ?_
 refine Wc rfl rfl (dC rfl Tryz.func243 rfl rfl ((mk_puts 0 247 [.row [str s]] (by simp)) _)) ?_
 refine zs1 ?_
 refine zR ?_
 rfl
theorem d_text (s : Str) (v : VVm) (x : List Int) : PureC Tryz.prog 247 [eVm v, sq cInt x, .row [str s]] (tShow (s, 0)) := by
 refine pW tG (rs := [.tmp 5, .tmp 6]) Tryz.func247 rfl rfl rfl (by simp) (by simp) (fun B => ?_)
 refine zu3 ?_
 refine zu3 ?_
 refine zR ?_
 rfl
theorem mk_lay (g : FuncId) (cap : List PV) (hc : FlatL cap) : PureC Tryz.prog 254 [fnP g cap] (deedP 1 255 [.row [fnP g cap]]) := by
 refine pW tG (rs := [.cell 2 169]) Tryz.func254 rfl rfl rfl (by simp [hc]) (by simp [hc]) (fun B => ?_)
 refine zp1 ?_
 refine WO_freezeP 1 _ rfl rfl rfl ?_
 refine zs1 ?_
 refine zu3 ?_
 refine zR ?_
 rfl
theorem d_lay (g : FuncId) (cap : List PV) (v : VVm) (x : List Int) (r : VPic × Int) (hx : 1 ≤ x.length) (hc : FlatL cap) (hg : CallP g ([ePic v.pic, i64 (xat x 0)] ++ cap) (tPic r)) :
  ∀ (H : List Ob) (i : Nat), H[i]? = some (.cells (cVm v) 36) → HC Tryz.prog 255 (.ptr i 0 :: [sq cInt x, .row [fnP g cap]]) H (tLv ([], r.2)) (H.set i (.cells (cVm (withP v r.1)) 36)) := by
 refine mut_of_W tG (rs := [.tmp 5, .tmp 6]) Tryz.func255 rfl rfl rfl (by simp [hc]) (by simp [hc]) (by simp [hc]) (by simp [hc]) (fun B => ?_)
 refine zu2 ?_
 refine Ws ?_
 refine W_drawU [1, 0, 0, 0, 1, 0, 0, 1, 0, 0, 0, 0, 2, 3, 0] [0, 1, 2, 3, 4, 5, 6, 7, 8, 9, 10, 11, 12, 13, 14] mG rfl (by kernel_rfl) ?_
 refine z5 ?_
 iterate 3 refine z3 ?_
 refine z5 ?_
 refine z3 ?_
 refine Xi tG rfl rfl rfl rfl (fun _ => rfl) (by omega) (iN cInt 1 (fun _ => rfl) 0 (by (simp only [dnL] at *; omega))) ?_
 refine z5 ?_
 refine Xc rfl rfl rfl rfl (fun _ => doesCWs rfl rfl (hg _)) ?_
 iterate 3 refine z3 ?_
 refine WU_ev2 tG rfl rfl rfl rfl rfl trivial rfl ?_
 refine WU_ev3 tG rfl rfl rfl rfl rfl trivial ?_
 refine z3 ?_
 refine WU_nil ?_
 refine zu5 ?_
 refine zu3 ?_
 refine Wq ?_
 refine leafM rfl rfl ?_ ?_
 ·rfl
 ·rfl
theorem prim_store (v : VVm) (a n : Int) (hm : MemOk v.mem) (ha : Fit64 a) : ∀ (H : List Ob) (i : Nat), H[i]? = some (.cells (cVm v) 36) → HC Tryz.prog 227 (.ptr i 0 :: [i64 a, i64 n]) H (i64 (memStore v.mem a n).2) (H.set i (.cells (cVm (withM v (memStore v.mem a n).1)) 36)) := by
 refine mut_of_W tG (rs := [.tmp 6]) Tryz.func227 rfl rfl rfl (by simp) (by simp) (by simp) (by simp) (fun B => ?_)
 refine zu1 ?_
 refine zp5 ?_
 refine z1 ?_
 refine Wc rfl rfl (dC rfl Tryz.func214 rfl rfl ((mem_Store v.mem a n hm ha) _)) ?_
 refine zy5 ?_
 refine zs1 ?_
 refine zu5 ?_
 refine zu2 ?_
 refine Wq ?_
 refine leafM rfl rfl ?_ ?_
 ·rfl
 ·rfl
theorem mk_base (n : Int) : PureC Tryz.prog 225 [i64 n] (deedP 0 226 [.row [i64 n]]) := by
 refine pW tG (rs := [.cell 2 169]) Tryz.func225 rfl rfl rfl (by simp) (by simp) (fun B => ?_)
 refine zp1 ?_
 refine WO_freezeP 1 _ rfl rfl rfl ?_
 refine zs1 ?_
 refine zu3 ?_
 refine zR ?_
 rfl
theorem d_base (v : VVm) (x : List Int) (n : Int) (hm : MemOk v.mem) : ∀ (H : List Ob) (i : Nat), H[i]? = some (.cells (cVm v) 36) → HC Tryz.prog 226 (.ptr i 0 :: [sq cInt x, .row [i64 n]]) H (tLv (pPut v (memStore v.mem 0 n)).2) (H.set i (.cells (cVm (pPut v (memStore v.mem 0 n)).1) 36)) := by
 refine mut_of_W tG (rs := [.tmp 5, .tmp 6]) Tryz.func226 rfl rfl rfl (by simp) (by simp) (by simp) (by simp) (fun B => ?_)
 refine zu2 ?_
 refine zp2 ?_
 refine Wc rfl rfl (dC rfl Tryz.func227 rfl rfl ((prim_store v 0 n hm (by unfold Fit64; omega)) _ _ rfl)) ?_
 refine zs2 ?_
 refine Wq ?_
 refine leafM rfl rfl ?_ ?_
 ·rfl
 ·rfl
theorem mk_always (n : Int) : PureC Tryz.prog 228 [i64 n] (deedP 0 317 [.row [fnP 230 [.row [i64 n]]]]) := by
 refine pW tG (rs := [.cell 2 169]) Tryz.func228 rfl rfl rfl (by simp) (by simp) (fun B => ?_)
 refine zp1 ?_
 refine WO_freezeP 1 _ rfl rfl rfl ?_
 refine zs1 ?_
 refine zp1 ?_
 refine Wc rfl rfl (dC rfl Tryz.func229 rfl rfl ((mk_shown 230 [.row [i64 n]] (by simp)) _)) ?_
 refine zs1 ?_
 refine zR ?_
 rfl
theorem d_always (v : VVm) (n : Int) : PureC Tryz.prog 230 [eVm v, .row [i64 n]] (i64 n) := by
 refine pW tG (rs := [.tmp 3]) Tryz.func230 rfl rfl rfl (by simp) (by simp) (fun B => ?_)
 refine zu2 ?_
 refine zu2 ?_
 refine zR ?_
 rfl
theorem prim_stated (v : VVm) (s b : Int) (hm : v.mem.b.length ≤ 140737488355328) (hs : Fit64 s) : ∀ (H : List Ob) (i : Nat), H[i]? = some (.cells (cVm v) 36) → HC Tryz.prog 274 (.ptr i 0 :: [i64 s, i64 b]) H (i64 (stated v s b)) (H.set i (.cells (cVm v) 36)) := by
 have hb : Fit64 (W64 (b + 8)) := by unfold Fit64 W64; rw [i64w]; unfold wrap64; omega
 refine mut_of_W tG (rs := [.tmp 6]) Tryz.func274 rfl rfl rfl (by simp) (by simp) (by simp) (by simp) (fun B => ?_)
 refine zu1 ?_
 refine zp5 ?_
 refine z1 ?_
 refine Wc rfl rfl (dC rfl Tryz.func60 rfl rfl ((mem_Fetch v.mem _ hm hb) _)) ?_
 refine zs5 ?_
 refine Ws ?_
 refine zp3 ?_
 refine Wb 21 rfl (fun hg1 => ?_) (fun hg1 => ?_)
 ·have h0 : (memFetch v.mem (W64 (b + 8))).2 = 0 := by simpa using hg1
  refine zy3 ?_
  refine Wb 24 rfl (fun hg2 => ?_) (fun hg2 => ?_)
  ·have h1 : s < 0 := by simpa using hg2
   iterate 3 refine z6 ?_
   refine zs2 ?_
   refine Wt rfl rfl ?_
   refine zu1 ?_
   refine Wq ?_
   refine leafM rfl rfl ?_ ?_
   ·rw [stated, if_pos h0, if_pos (.inl h1)]; rfl
   ·rfl
  ·have h1 : ¬ s < 0 := by simpa using hg2
   refine zs5 ?_
   refine Wi rfl (fun hi1 => ?_) (fun hi1 => ?_)
   ·have h2 : (memFetch v.mem (W64 (b + 8))).1 ≤ s := by simpa using hi1
    refine zu1 ?_
    refine Wq ?_
    refine leafM rfl rfl ?_ ?_
    ·rw [stated, if_pos h0, if_pos (.inr h2)]; rfl
    ·rfl
   ·have h2 : ¬ (memFetch v.mem (W64 (b + 8))).1 ≤ s := by simpa using hi1
    refine Wj ?_
    refine zu2 ?_
    refine Wq ?_
    refine leafM rfl rfl ?_ ?_
    ·rw [stated, if_pos h0, if_neg (by rintro (h | h) <;> contradiction), ← h0]; rfl
    ·rfl
 ·have h0 : ¬ (memFetch v.mem (W64 (b + 8))).2 = 0 := by simpa using hg1
  iterate 7 refine z6 ?_
  refine zs1 ?_
  refine Wf rfl rfl ?_
  refine Wj ?_
  refine zu2 ?_
  refine Wq ?_
  refine leafM rfl rfl ?_ ?_
  ·rw [stated, if_neg h0]; rfl
  ·rfl
end Go.Proofs.YtobhnjnffnbbkaaGreatDoor
namespace Go.Proofs.YtobhnjnffnbbkaaGreatDoor
open Go.RowKit
set_option maxRecDepth 100000
set_option maxHeartbeats 4000000
theorem mulS_fit {a b : Int} (ha : Fit a) (hb : Fit b) : Fit (mulS a b).1 ∧ Fit (mulS a b).2 := by
 have h : (a * b).natAbs ≤ 9223372036854775808 * 9223372036854775808 := by rw [Int.natAbs_mul]; exact Nat.mul_le_mul (by omega) (by omega)
 refine ⟨by show Fit (wrap64 _); unfold wrap64; omega, ?_⟩
 show Fit (a * b / 18446744073709551616)
 omega
def XOk (k : Nat) (x : List Int) : Prop := k ≤ x.length ∧ ∀ a ∈ x, Fit64 a
theorem XOk.fit {k : Nat} {x : List Int} (h : XOk k x) (i : Nat) : Fit64 (xat x i) := by
 unfold xat List.getD
 cases hi : x[i]? with
 | none => simp [Fit64]
 | some a => exact h.2 a (List.mem_of_getElem? hi)
theorem XOk.len {k : Nat} {x : List Int} (h : XOk k x) : k ≤ x.length := h.1
theorem rk_parts (q r e : Int) : PureC Tryz.prog 191 [i64 q, i64 r, i64 e] (tLv ([r, q], e)) := by
 refine pW tG (rs := [.tmp 6, .tmp 7]) Tryz.func191 rfl rfl rfl (by simp) (by simp) (fun B => ?_)
 refine zu2 ?_
 refine zp3 ?_
 refine Wa 10 rfl (bsL cInt [_, _] rfl rfl) ?_
 refine zs3 ?_
 refine zR ?_
 rfl
theorem rk_both (x : List Int) (hx : XOk 3 x) : PureC Tryz.prog 192 [sq cInt x] (t3i (pBoth x)) := by
 have hl := hx.len
 have hf := mulS_fit (hx.fit 0) (hx.fit 1)
 refine pW tG (rs := [.tmp 2, .tmp 3, .tmp 4]) Tryz.func192 rfl rfl rfl (by simp) (by simp) (fun B => ?_)
 refine zu3 ?_
 refine Ws ?_
 refine W_drawU [0, 0, 1, 0, 0, 1, 0, 0, 0, 0, 0, 0] [0, 1, 2, 3, 4, 5, 6, 7, 8, 9, 10, 11] mG rfl (by kernel_rfl) ?_
 refine z3 ?_
 refine Xi tG rfl rfl rfl rfl (fun _ => rfl) (by omega) (iN cInt 1 (fun _ => rfl) 0 (by (simp only [dnL] at *; omega))) ?_
 refine z5 ?_
 refine z3 ?_
 refine Xi tG rfl rfl rfl rfl (fun _ => rfl) (by omega) (iN cInt 1 (fun _ => rfl) 0 (by (simp only [dnL] at *; omega))) ?_
 refine z5 ?_
 refine Xc rfl rfl rfl rfl (fun _ => dC rfl Tryz.func193 rfl rfl ((k_Mul _ _ (hx.fit 0) (hx.fit 1)) _)) ?_
 iterate 5 refine z3 ?_
 refine WU_nil ?_
 refine zp3 ?_
 refine Wv tG rfl rfl rfl (by omega) (iN cInt 1 (fun _ => rfl) 0 (by (simp only [dnL] at *; omega))) ?_
 refine z1 ?_
 refine Wc rfl rfl (dC rfl Tryz.func194 rfl rfl ((k_FDiv _ _ _ hf.2 (hx.fit 2)) _)) ?_
 refine zy5 ?_
 refine zs1 ?_
 refine zR ?_
 rfl
theorem cp_parts (q r e : Int) : CallP 191 [i64 q, i64 r, i64 e] (tLv ([r, q], e)) := fun H => ⟨⟨_, Tryz.func191, rfl, rfl⟩, rk_parts q r e H⟩
theorem cp_both (x : List Int) (hx : XOk 3 x) : CallP 192 [sq cInt x] (t3i (pBoth x)) := fun H => ⟨⟨_, Tryz.func192, rfl, rfl⟩, rk_both x hx H⟩
abbrev capA : List PV := [.row [fnP 191 []]]
abbrev capB : List PV := [.row [fnP 192 []]]
abbrev capAB : List PV := [.row [fnP 191 []], .row [fnP 192 []]]
theorem rk_3 (x : List Int) (hx : XOk 2 x) : PureC Tryz.prog 195 ([sq cInt x] ++ capA) (tLv (pDivMod x)) := by
 have hl := hx.len
 refine pW tG (rs := [.tmp 3, .tmp 4]) Tryz.func195 rfl rfl rfl (by simp) (by simp) (fun B => ?_)
 refine zu2 ?_
 refine Ws ?_
 refine W_drawU [1, 0, 0, 1, 0, 0, 1, 0, 0, 0, 0, 0, 0, 0, 0, 0] [0, 1, 2, 3, 4, 5, 6, 7, 8, 9, 10, 11, 12, 13, 14, 15] mG rfl (by kernel_rfl) ?_
 refine z5 ?_
 refine z3 ?_
 refine Xi tG rfl rfl rfl rfl (fun _ => rfl) (by omega) (iN cInt 1 (fun _ => rfl) 0 (by (simp only [dnL] at *; omega))) ?_
 refine z5 ?_
 refine z3 ?_
 refine Xi tG rfl rfl rfl rfl (fun _ => rfl) (by omega) (iN cInt 1 (fun _ => rfl) 0 (by (simp only [dnL] at *; omega))) ?_
 refine z5 ?_
 refine Xc rfl rfl rfl rfl (fun _ => dC rfl Tryz.func187 rfl rfl ((k_Div _ _ (hx.fit 1)) _)) ?_
 iterate 3 refine z3 ?_
 refine Xc rfl rfl rfl rfl (fun _ => doesCWs rfl rfl (cp_parts _ _ _ _)) ?_
 iterate 4 refine z3 ?_
 refine WU_nil ?_
 refine zR ?_
 rfl
theorem rk_4 (x : List Int) (hx : XOk 3 x) : PureC Tryz.prog 196 ([sq cInt x] ++ capAB) (tLv (pStarMod x)) := by
 refine pW tG (rs := [.tmp 4, .tmp 5]) Tryz.func196 rfl rfl rfl (by simp) (by simp) (fun B => ?_)
 refine zu2 ?_
 refine Ws ?_
 refine W_drawU [1, 1, 0, 0, 0, 0, 0, 0, 0, 0, 0, 0] [0, 1, 2, 3, 4, 5, 6, 7, 8, 9, 10, 11] mG rfl (by kernel_rfl) ?_
 iterate 2 refine z5 ?_
 refine z3 ?_
 refine Xc rfl rfl rfl rfl (fun _ => doesCWs rfl rfl (cp_both x hx _)) ?_
 iterate 3 refine z3 ?_
 refine Xc rfl rfl rfl rfl (fun _ => doesCWs rfl rfl (cp_parts _ _ _ _)) ?_
 iterate 4 refine z3 ?_
 refine WU_nil ?_
 refine zR ?_
 rfl
theorem rk_5 (x : List Int) (hx : XOk 3 x) : PureC Tryz.prog 197 ([sq cInt x] ++ capB) (tLv (pStar x)) := by
 refine pW tG (rs := [.tmp 3, .tmp 4]) Tryz.func197 rfl rfl rfl (by simp) (by simp) (fun B => ?_)
 refine zu2 ?_
 refine zp2 ?_
 refine Wc rfl rfl (doesCWs rfl rfl (cp_both x hx _)) ?_
 refine zy5 ?_
 refine zs2 ?_
 refine zp2 ?_
 refine Wa 16 rfl (bsL cInt [_] rfl rfl) ?_
 refine zs3 ?_
 refine zR ?_
 rfl
theorem rk_6 (x : List Int) (hx : XOk 2 x) : PureC Tryz.prog 198 [sq cInt x] (tLv (pUM x)) := by
 have hl := hx.len
 refine pW tG (rs := [.tmp 2, .tmp 3]) Tryz.func198 rfl rfl rfl (by simp) (by simp) (fun B => ?_)
 refine zu2 ?_
 refine Ws ?_
 refine W_drawU [0, 0, 1, 0, 0, 1, 0, 0, 0, 0, 0, 0] [0, 1, 2, 3, 4, 5, 6, 7, 8, 9, 10, 11] mG rfl (by kernel_rfl) ?_
 refine z3 ?_
 refine Xi tG rfl rfl rfl rfl (fun _ => rfl) (by omega) (iN cInt 1 (fun _ => rfl) 0 (by (simp only [dnL] at *; omega))) ?_
 refine z5 ?_
 refine z3 ?_
 refine Xi tG rfl rfl rfl rfl (fun _ => rfl) (by omega) (iN cInt 1 (fun _ => rfl) 0 (by (simp only [dnL] at *; omega))) ?_
 refine z5 ?_
 refine Xc rfl rfl rfl rfl (fun _ => dC rfl Tryz.func199 rfl rfl ((k_UMul _ _) _)) ?_
 iterate 5 refine z3 ?_
 refine WU_nil ?_
 refine zp3 ?_
 refine Wa 18 rfl (bsL cInt [_, _] rfl rfl) ?_
 refine Wc rfl rfl (dC rfl Tryz.func152 rfl rfl ((prim_told _) _)) ?_
 refine zs4 ?_
 refine zR ?_
 rfl
theorem rk_7 (x : List Int) (hx : XOk 2 x) : PureC Tryz.prog 200 [sq cInt x] (tLv (pM x)) := by
 have hl := hx.len
 refine pW tG (rs := [.tmp 2, .tmp 3]) Tryz.func200 rfl rfl rfl (by simp) (by simp) (fun B => ?_)
 refine zu2 ?_
 refine Ws ?_
 refine W_drawU [0, 0, 1, 0, 0, 1, 0, 0, 0, 0, 0, 0] [0, 1, 2, 3, 4, 5, 6, 7, 8, 9, 10, 11] mG rfl (by kernel_rfl) ?_
 refine z3 ?_
 refine Xi tG rfl rfl rfl rfl (fun _ => rfl) (by omega) (iN cInt 1 (fun _ => rfl) 0 (by (simp only [dnL] at *; omega))) ?_
 refine z5 ?_
 refine z3 ?_
 refine Xi tG rfl rfl rfl rfl (fun _ => rfl) (by omega) (iN cInt 1 (fun _ => rfl) 0 (by (simp only [dnL] at *; omega))) ?_
 refine z5 ?_
 refine Xc rfl rfl rfl rfl (fun _ => dC rfl Tryz.func193 rfl rfl ((k_Mul _ _ (hx.fit 0) (hx.fit 1)) _)) ?_
 iterate 5 refine z3 ?_
 refine WU_nil ?_
 refine zp3 ?_
 refine Wa 18 rfl (bsL cInt [_, _] rfl rfl) ?_
 refine Wc rfl rfl (dC rfl Tryz.func152 rfl rfl ((prim_told _) _)) ?_
 refine zs4 ?_
 refine zR ?_
 rfl
theorem rk_8 (x : List Int) (hx : XOk 3 x) : PureC Tryz.prog 201 ([sq cInt x] ++ capA) (tLv (pUMod x)) := by
 have hl := hx.len
 refine pW tG (rs := [.tmp 3, .tmp 4]) Tryz.func201 rfl rfl rfl (by simp) (by simp) (fun B => ?_)
 refine zu2 ?_
 refine Ws ?_
 refine W_drawU [1, 0, 0, 1, 0, 0, 1, 0, 0, 1, 0, 0, 0, 0, 0, 0, 0, 0, 0] [0, 1, 2, 3, 4, 5, 6, 7, 8, 9, 10, 11, 12, 13, 14, 15, 16, 17, 18] mG rfl (by kernel_rfl) ?_
 refine z5 ?_
 refine z3 ?_
 refine Xi tG rfl rfl rfl rfl (fun _ => rfl) (by omega) (iN cInt 1 (fun _ => rfl) 0 (by (simp only [dnL] at *; omega))) ?_
 refine z5 ?_
 refine z3 ?_
 refine Xi tG rfl rfl rfl rfl (fun _ => rfl) (by omega) (iN cInt 1 (fun _ => rfl) 0 (by (simp only [dnL] at *; omega))) ?_
 refine z5 ?_
 refine z3 ?_
 refine Xi tG rfl rfl rfl rfl (fun _ => rfl) (by omega) (iN cInt 1 (fun _ => rfl) 0 (by (simp only [dnL] at *; omega))) ?_
 refine z5 ?_
 refine Xc rfl rfl rfl rfl (fun _ => dC rfl Tryz.func202 rfl rfl ((k_UDiv _ _ _) _)) ?_
 iterate 3 refine z3 ?_
 refine Xc rfl rfl rfl rfl (fun _ => doesCWs rfl rfl (cp_parts _ _ _ _)) ?_
 iterate 4 refine z3 ?_
 refine WU_nil ?_
 refine zR ?_
 rfl
theorem rk_9 (x : List Int) (hx : XOk 3 x) : PureC Tryz.prog 203 ([sq cInt x] ++ capA) (tLv (pSRem x)) := by
 have hl := hx.len
 refine pW tG (rs := [.tmp 3, .tmp 4]) Tryz.func203 rfl rfl rfl (by simp) (by simp) (fun B => ?_)
 refine zu2 ?_
 refine Ws ?_
 refine W_drawU [1, 0, 0, 1, 0, 0, 1, 0, 0, 1, 0, 0, 0, 0, 0, 0, 0, 0, 0] [0, 1, 2, 3, 4, 5, 6, 7, 8, 9, 10, 11, 12, 13, 14, 15, 16, 17, 18] mG rfl (by kernel_rfl) ?_
 refine z5 ?_
 refine z3 ?_
 refine Xi tG rfl rfl rfl rfl (fun _ => rfl) (by omega) (iN cInt 1 (fun _ => rfl) 0 (by (simp only [dnL] at *; omega))) ?_
 refine z5 ?_
 refine z3 ?_
 refine Xi tG rfl rfl rfl rfl (fun _ => rfl) (by omega) (iN cInt 1 (fun _ => rfl) 0 (by (simp only [dnL] at *; omega))) ?_
 refine z5 ?_
 refine z3 ?_
 refine Xi tG rfl rfl rfl rfl (fun _ => rfl) (by omega) (iN cInt 1 (fun _ => rfl) 0 (by (simp only [dnL] at *; omega))) ?_
 refine z5 ?_
 refine Xc rfl rfl rfl rfl (fun _ => dC rfl Tryz.func204 rfl rfl ((k_SDiv _ _ _ (hx.fit 1) (hx.fit 2)) _)) ?_
 iterate 3 refine z3 ?_
 refine Xc rfl rfl rfl rfl (fun _ => doesCWs rfl rfl (cp_parts _ _ _ _)) ?_
 iterate 4 refine z3 ?_
 refine WU_nil ?_
 refine zR ?_
 rfl
theorem rk_10 (x : List Int) (hx : XOk 3 x) : PureC Tryz.prog 205 ([sq cInt x] ++ capA) (tLv (pFMod x)) := by
 have hl := hx.len
 refine pW tG (rs := [.tmp 3, .tmp 4]) Tryz.func205 rfl rfl rfl (by simp) (by simp) (fun B => ?_)
 refine zu2 ?_
 refine Ws ?_
 refine W_drawU [1, 0, 0, 1, 0, 0, 1, 0, 0, 1, 0, 0, 0, 0, 0, 0, 0, 0, 0] [0, 1, 2, 3, 4, 5, 6, 7, 8, 9, 10, 11, 12, 13, 14, 15, 16, 17, 18] mG rfl (by kernel_rfl) ?_
 refine z5 ?_
 refine z3 ?_
 refine Xi tG rfl rfl rfl rfl (fun _ => rfl) (by omega) (iN cInt 1 (fun _ => rfl) 0 (by (simp only [dnL] at *; omega))) ?_
 refine z5 ?_
 refine z3 ?_
 refine Xi tG rfl rfl rfl rfl (fun _ => rfl) (by omega) (iN cInt 1 (fun _ => rfl) 0 (by (simp only [dnL] at *; omega))) ?_
 refine z5 ?_
 refine z3 ?_
 refine Xi tG rfl rfl rfl rfl (fun _ => rfl) (by omega) (iN cInt 1 (fun _ => rfl) 0 (by (simp only [dnL] at *; omega))) ?_
 refine z5 ?_
 refine Xc rfl rfl rfl rfl (fun _ => dC rfl Tryz.func194 rfl rfl ((k_FDiv _ _ _ (hx.fit 1) (hx.fit 2)) _)) ?_
 iterate 3 refine z3 ?_
 refine Xc rfl rfl rfl rfl (fun _ => doesCWs rfl rfl (cp_parts _ _ _ _)) ?_
 iterate 4 refine z3 ?_
 refine WU_nil ?_
 refine zR ?_
 rfl
theorem rk_11 (x : List Int) (hx : XOk 1 x) : PureC Tryz.prog 206 [sq cInt x] (tLv (pSD x)) := by
 have hl := hx.len
 refine pW tG (rs := [.tmp 2, .tmp 3]) Tryz.func206 rfl rfl rfl (by simp) (by simp) (fun B => ?_)
 refine zu2 ?_
 refine Ws ?_
 refine W_drawU [0, 0, 1, 0, 0, 1, 0, 0, 0, 0, 0, 0, 0, 0] [0, 1, 2, 3, 4, 5, 6, 7, 8, 9, 10, 11, 12, 13] mG rfl (by kernel_rfl) ?_
 refine z3 ?_
 refine Xi tG rfl rfl rfl rfl (fun _ => rfl) (by omega) (iN cInt 1 (fun _ => rfl) 0 (by (simp only [dnL] at *; omega))) ?_
 refine z5 ?_
 refine z3 ?_
 refine Xi tG rfl rfl rfl rfl (fun _ => rfl) (by omega) (iN cInt 1 (fun _ => rfl) 0 (by (simp only [dnL] at *; omega))) ?_
 refine z5 ?_
 refine z3 ?_
 refine Xc rfl rfl rfl rfl (fun _ => dC rfl Tryz.func207 rfl rfl ((prim_flag _) _)) ?_
 refine z3 ?_
 refine Xa 12 rfl (bsL cInt [_, _] rfl rfl) ?_
 refine Xc rfl rfl rfl rfl (fun _ => dC rfl Tryz.func152 rfl rfl ((prim_told _) _)) ?_
 iterate 4 refine z3 ?_
 refine WU_nil ?_
 refine zR ?_
 rfl
theorem rk_12 (x : List Int) (hx : XOk 3 x) : PureC Tryz.prog 208 [sq cInt x] (tLv (pWithin x)) := by
 have hl := hx.len
 refine pW tG (rs := [.tmp 2, .tmp 3]) Tryz.func208 rfl rfl rfl (by simp) (by simp) (fun B => ?_)
 refine zu2 ?_
 refine Ws ?_
 refine W_drawU [0, 0, 1, 0, 0, 1, 0, 0, 1, 0, 0, 0, 0, 0, 0, 0, 0] [0, 1, 2, 3, 4, 5, 6, 7, 8, 9, 10, 11, 12, 13, 14, 15, 16] mG rfl (by kernel_rfl) ?_
 refine z3 ?_
 refine Xi tG rfl rfl rfl rfl (fun _ => rfl) (by omega) (iN cInt 1 (fun _ => rfl) 0 (by (simp only [dnL] at *; omega))) ?_
 refine z5 ?_
 refine z3 ?_
 refine Xi tG rfl rfl rfl rfl (fun _ => rfl) (by omega) (iN cInt 1 (fun _ => rfl) 0 (by (simp only [dnL] at *; omega))) ?_
 refine z5 ?_
 refine z3 ?_
 refine Xi tG rfl rfl rfl rfl (fun _ => rfl) (by omega) (iN cInt 1 (fun _ => rfl) 0 (by (simp only [dnL] at *; omega))) ?_
 refine z5 ?_
 refine Xc rfl rfl rfl rfl (fun _ => dC rfl Tryz.func209 rfl rfl ((alu_Within _ _ _) _)) ?_
 refine Xc rfl rfl rfl rfl (fun _ => dC rfl Tryz.func207 rfl rfl ((prim_flag _) _)) ?_
 refine z3 ?_
 refine Xa 15 rfl (bsL cInt [_] rfl rfl) ?_
 refine Xc rfl rfl rfl rfl (fun _ => dC rfl Tryz.func152 rfl rfl ((prim_told _) _)) ?_
 iterate 4 refine z3 ?_
 refine WU_nil ?_
 refine zR ?_
 rfl
theorem me_1 (v : VVm) (x : List Int) (hm : MemOk v.mem) (hx : XOk 2 x) : PureC Tryz.prog 213 [eMem v.mem, sq cInt x] (tMem (memStore v.mem (xat x 1) (xat x 0))) := by
 have hl := hx.len
 refine pW tG (rs := [.cell 4 27, .tmp 5]) Tryz.func213 rfl rfl rfl (by simp) (by simp) (fun B => ?_)
 refine zu3 ?_
 refine Ws ?_
 refine W_drawU [1, 0, 0, 1, 0, 0, 1, 0, 0, 0, 3, 0] [0, 1, 2, 3, 4, 5, 6, 7, 8, 9, 10, 11] mG rfl (by kernel_rfl) ?_
 refine z5 ?_
 refine z3 ?_
 refine Xi tG rfl rfl rfl rfl (fun _ => rfl) (by omega) (iN cInt 1 (fun _ => rfl) 0 (by (simp only [dnL] at *; omega))) ?_
 refine z5 ?_
 refine z3 ?_
 refine Xi tG rfl rfl rfl rfl (fun _ => rfl) (by omega) (iN cInt 1 (fun _ => rfl) 0 (by (simp only [dnL] at *; omega))) ?_
 refine z5 ?_
 refine Xc rfl rfl rfl rfl (fun _ => dC rfl Tryz.func214 rfl rfl ((mem_Store _ _ _ hm (hx.fit 1)) _)) ?_
 iterate 2 refine z3 ?_
 refine WU_ev3 tG rfl rfl rfl rfl rfl trivial ?_
 refine z3 ?_
 refine WU_nil ?_
 refine zR ?_
 rfl
theorem me_2 (v : VVm) (x : List Int) (hm : MemOk v.mem) (hx : XOk 2 x) : PureC Tryz.prog 215 [eMem v.mem, sq cInt x] (tMem (memStoreByte v.mem (xat x 1) (xat x 0))) := by
 have hl := hx.len
 refine pW tG (rs := [.cell 4 27, .tmp 5]) Tryz.func215 rfl rfl rfl (by simp) (by simp) (fun B => ?_)
 refine zu3 ?_
 refine Ws ?_
 refine W_drawU [1, 0, 0, 1, 0, 0, 1, 0, 0, 0, 3, 0] [0, 1, 2, 3, 4, 5, 6, 7, 8, 9, 10, 11] mG rfl (by kernel_rfl) ?_
 refine z5 ?_
 refine z3 ?_
 refine Xi tG rfl rfl rfl rfl (fun _ => rfl) (by omega) (iN cInt 1 (fun _ => rfl) 0 (by (simp only [dnL] at *; omega))) ?_
 refine z5 ?_
 refine z3 ?_
 refine Xi tG rfl rfl rfl rfl (fun _ => rfl) (by omega) (iN cInt 1 (fun _ => rfl) 0 (by (simp only [dnL] at *; omega))) ?_
 refine z5 ?_
 refine Xc rfl rfl rfl rfl (fun _ => dC rfl Tryz.func216 rfl rfl ((mem_StoreByte _ _ _ hm (hx.fit 1)) _)) ?_
 iterate 2 refine z3 ?_
 refine WU_ev3 tG rfl rfl rfl rfl rfl trivial ?_
 refine z3 ?_
 refine WU_nil ?_
 refine zR ?_
 rfl
theorem memOk_len {m : VMem} (hm : MemOk m) : m.b.length ≤ 140737488355328 := by have := hm.b; omega
theorem me_3 (v : VVm) (x : List Int) (hm : MemOk v.mem) (hx : XOk 2 x) : PureC Tryz.prog 217 [eMem v.mem, sq cInt x] (tMem (pAddTo v x)) := by
 have hl := hx.len
 refine pW tG (rs := [.cell 4 27, .tmp 5]) Tryz.func217 rfl rfl rfl (by simp) (by simp) (fun B => ?_)
 refine zu3 ?_
 refine Ws ?_
 refine W_drawU [1, 0, 0, 1, 0, 0, 0, 0, 0, 0] [0, 1, 2, 3, 4, 5, 6, 7, 8, 9] mG rfl (by kernel_rfl) ?_
 refine z5 ?_
 refine z3 ?_
 refine Xi tG rfl rfl rfl rfl (fun _ => rfl) (by omega) (iN cInt 1 (fun _ => rfl) 0 (by (simp only [dnL] at *; omega))) ?_
 refine z5 ?_
 refine Xc rfl rfl rfl rfl (fun _ => dC rfl Tryz.func60 rfl rfl ((mem_Fetch _ _ (memOk_len hm) (hx.fit 1)) _)) ?_
 iterate 5 refine z3 ?_
 refine WU_nil ?_
 refine Ws ?_
 refine zu2 ?_
 refine Wi rfl (fun hi1 => ?_) (fun hi1 => ?_)
 ·have h0 : ¬ (memFetch v.mem (xat x 1)).2 = 0 := bne_iff_ne.1 hi1
  refine zu4 ?_
  refine zR ?_
  rw [pAddTo, if_neg h0]; rfl
 ·have h0 : (memFetch v.mem (xat x 1)).2 = 0 := bne_eq_false_iff_eq.1 hi1
  refine Wj ?_
  refine Ws ?_
  refine W_drawU [1, 0, 0, 1, 0, 0, 0, 1, 0, 0, 0, 0, 3, 0] [0, 1, 2, 3, 4, 5, 6, 7, 8, 9, 10, 11, 12, 13] mG rfl (by kernel_rfl) ?_
  refine z5 ?_
  refine z3 ?_
  refine Xi tG rfl rfl rfl rfl (fun _ => rfl) (by omega) (iN cInt 1 (fun _ => rfl) 0 (by (simp only [dnL] at *; omega))) ?_
  refine z5 ?_
  iterate 2 refine z3 ?_
  refine Xi tG rfl rfl rfl rfl (fun _ => rfl) (by omega) (iN cInt 1 (fun _ => rfl) 0 (by (simp only [dnL] at *; omega))) ?_
  refine z5 ?_
  refine z3 ?_
  refine Xc rfl rfl rfl rfl (fun _ => dC rfl Tryz.func214 rfl rfl ((mem_Store _ _ _ hm (hx.fit 1)) _)) ?_
  iterate 2 refine z3 ?_
  refine WU_ev3 tG rfl rfl rfl rfl rfl trivial ?_
  refine z3 ?_
  refine WU_nil ?_
  refine zR ?_
  rw [pAddTo, if_pos h0]; rfl
theorem w64_fit (n : Int) : Fit64 (W64 n) := by unfold Fit64 W64; rw [i64w]; unfold wrap64; omega
theorem me_4 (v : VVm) (x : List Int) (hm : MemOk v.mem) (hx : XOk 1 x) : ∀ (H : List Ob) (i : Nat), H[i]? = some (.cells (cVm v) 36) → HC Tryz.prog 218 (.ptr i 0 :: [sq cInt x]) H (tLv (pFetch2 v x).2) (H.set i (.cells (cVm (pFetch2 v x).1) 36)) := by
 have hl := hx.len
 refine mut_of_W tG (rs := [.tmp 4, .tmp 5]) Tryz.func218 rfl rfl rfl (by simp) (by simp) (by simp) (by simp) (fun B => ?_)
 refine zu2 ?_
 refine Ws ?_
 refine W_drawU [0, 0, 0, 1, 0, 0, 1, 0, 0, 0, 0, 0, 0] [0, 1, 2, 3, 4, 5, 6, 7, 8, 9, 10, 11, 12] mG rfl (by kernel_rfl) ?_
 iterate 3 refine z3 ?_
 refine z5 ?_
 refine z3 ?_
 refine Xi tG rfl rfl rfl rfl (fun _ => rfl) (by omega) (iN cInt 1 (fun _ => rfl) 0 (by (simp only [dnL] at *; omega))) ?_
 refine z5 ?_
 refine Xc rfl rfl rfl rfl (fun _ => dC rfl Tryz.func60 rfl rfl ((mem_Fetch _ _ (memOk_len hm) (hx.fit 0)) _)) ?_
 iterate 5 refine z3 ?_
 refine WU_nil ?_
 refine Ws ?_
 refine zu2 ?_
 refine Wi rfl (fun hi1 => ?_) (fun hi1 => ?_)
 ·have h0 : ¬ (memFetch v.mem (xat x 0)).2 = 0 := bne_iff_ne.1 hi1
  refine zu3 ?_
  refine Wq ?_
  refine leafM rfl rfl ?_ ?_
  ·rw [pFetch2, if_neg h0]; rfl
  ·rw [pFetch2, if_neg h0]; rfl
 ·have h0 : (memFetch v.mem (xat x 0)).2 = 0 := bne_eq_false_iff_eq.1 hi1
  refine Wj ?_
  refine Ws ?_
  refine W_drawU [0, 0, 0, 1, 0, 0, 1, 0, 0, 0, 0, 0, 0, 0] [0, 1, 2, 3, 4, 5, 6, 7, 8, 9, 10, 11, 12, 13] mG rfl (by kernel_rfl) ?_
  iterate 3 refine z3 ?_
  refine z5 ?_
  refine z3 ?_
  refine Xi tG rfl rfl rfl rfl (fun _ => rfl) (by omega) (iN cInt 1 (fun _ => rfl) 0 (by (simp only [dnL] at *; omega))) ?_
  refine z5 ?_
  refine z3 ?_
  refine Xc rfl rfl rfl rfl (fun _ => dC rfl Tryz.func60 rfl rfl ((mem_Fetch _ _ (memOk_len hm) (w64_fit _)) _)) ?_
  iterate 5 refine z3 ?_
  refine WU_nil ?_
  refine zp3 ?_
  refine Wa 37 rfl (bsL cInt [_, _] rfl rfl) ?_
  refine zs3 ?_
  refine Wq ?_
  refine leafM rfl rfl ?_ ?_
  ·rw [pFetch2, if_pos h0]; rfl
  ·rw [pFetch2, if_pos h0]; rfl
theorem memThere_rng {m : VMem} {a n : Int} (h : memThere m a n = true) : n = 0 ∨ (0 < n ∧ 0 ≤ a ∧ a + n ≤ m.b.length) := by unfold memThere at h; exact oT h
theorem laidB_len2 {l b : List UInt8} {k : Nat} (h : k + b.length ≤ l.length) : (laidB l k b).length = l.length := by unfold laidB; simp only [List.length_append, List.length_take, List.length_drop]; omega
theorem memWrite_len (m : VMem) (a : Int) (b : List UInt8) : (memWrite m a b).1.b.length = m.b.length := by
 unfold memWrite
 split
 ·rename_i h
  split
  ·rfl
  ·rename_i hb
   have := List.length_pos_iff.2 hb
   rcases memThere_rng h with h | ⟨h1, h2, h3⟩
   ·omega
   ·exact laidB_len2 (by omega)
 ·rfl
theorem memWrite_old (m : VMem) (a : Int) (b : List UInt8) : (memWrite m a b).1.old.length ≤ m.old.length + 1 := by
 unfold memWrite
 split
 ·split
  ·exact Nat.le_succ _
  ·simp
 ·exact Nat.le_succ _
theorem memWrite_ok {m : VMem} (hm : MemOk m) (a : Int) (b : List UInt8) (h : m.old.length + 1 ≤ 1000000) : MemOk (memWrite m a b).1 :=
 ⟨by rw [memWrite_len]; exact hm.b, Nat.le_trans (memWrite_old m a b) h⟩
theorem memStore_ok {m : VMem} (hm : MemOk m) (a n : Int) (h : m.old.length + 1 ≤ 1000000) : MemOk (memStore m a n).1 := by
 unfold memStore
 split
 ·exact memWrite_ok hm _ _ h
 ·exact hm
theorem me_5 (v : VVm) (x : List Int) (hm : MemOk v.mem) (ho : v.mem.old.length + 1 ≤ 1000000) (hx : XOk 3 x) : PureC Tryz.prog 219 [eMem v.mem, sq cInt x] (tMem (pStore2 v x)) := by
 have hl := hx.len
 refine pW tG (rs := [.cell 4 27, .tmp 5]) Tryz.func219 rfl rfl rfl (by simp) (by simp) (fun B => ?_)
 refine zu3 ?_
 refine Ws ?_
 refine W_drawU [1, 0, 0, 1, 0, 0, 1, 0, 0, 0, 0, 3, 0] [0, 1, 2, 3, 4, 5, 6, 7, 8, 9, 10, 11, 12] mG rfl (by kernel_rfl) ?_
 refine z5 ?_
 refine z3 ?_
 refine Xi tG rfl rfl rfl rfl (fun _ => rfl) (by omega) (iN cInt 1 (fun _ => rfl) 0 (by (simp only [dnL] at *; omega))) ?_
 refine z5 ?_
 refine z3 ?_
 refine Xi tG rfl rfl rfl rfl (fun _ => rfl) (by omega) (iN cInt 1 (fun _ => rfl) 0 (by (simp only [dnL] at *; omega))) ?_
 refine z5 ?_
 refine Xc rfl rfl rfl rfl (fun _ => dC rfl Tryz.func214 rfl rfl ((mem_Store _ _ _ hm (hx.fit 2)) _)) ?_
 iterate 3 refine z3 ?_
 refine WU_ev3 tG rfl rfl rfl rfl rfl trivial ?_
 refine z3 ?_
 refine WU_nil ?_
 refine Ws ?_
 refine zu2 ?_
 refine Wi rfl (fun hi1 => ?_) (fun hi1 => ?_)
 ·have h0 : ¬ (memStore v.mem (xat x 2) (xat x 1)).2 = 0 := bne_iff_ne.1 hi1
  refine zu4 ?_
  refine zR ?_
  rw [pStore2, if_neg h0]; rfl
 ·have h0 : (memStore v.mem (xat x 2) (xat x 1)).2 = 0 := bne_eq_false_iff_eq.1 hi1
  refine Wj ?_
  refine Ws ?_
  refine W_drawU [1, 0, 0, 1, 0, 0, 0, 1, 0, 0, 0, 3, 0] [0, 1, 2, 3, 4, 5, 6, 7, 8, 9, 10, 11, 12] mG rfl (by kernel_rfl) ?_
  refine z5 ?_
  refine z3 ?_
  refine Xi tG rfl rfl rfl rfl (fun _ => rfl) (by omega) (iN cInt 1 (fun _ => rfl) 0 (by (simp only [dnL] at *; omega))) ?_
  refine z5 ?_
  iterate 2 refine z3 ?_
  refine Xi tG rfl rfl rfl rfl (fun _ => rfl) (by omega) (iN cInt 1 (fun _ => rfl) 0 (by (simp only [dnL] at *; omega))) ?_
  refine z5 ?_
  refine Xc rfl rfl rfl rfl (fun _ => dC rfl Tryz.func214 rfl rfl ((mem_Store _ _ _ (memStore_ok hm _ _ ho) (w64_fit _)) _)) ?_
  iterate 2 refine z3 ?_
  refine WU_ev3 tG rfl rfl rfl rfl rfl trivial ?_
  refine z3 ?_
  refine WU_nil ?_
  refine zR ?_
  rw [pStore2, if_pos h0]; rfl
theorem me_6 (v : VVm) (x : List Int) (hm : MemOk v.mem) (hx : XOk 3 x) : PureC Tryz.prog 220 [eMem v.mem, sq cInt x] (tMem (memFill v.mem (xat x 0) (xat x 1) (xat x 2))) := by
 have hl := hx.len
 refine pW tG (rs := [.cell 4 27, .tmp 5]) Tryz.func220 rfl rfl rfl (by simp) (by simp) (fun B => ?_)
 refine zu3 ?_
 refine Ws ?_
 refine W_drawU [1, 0, 0, 1, 0, 0, 1, 0, 0, 1, 0, 0, 0, 3, 0] [0, 1, 2, 3, 4, 5, 6, 7, 8, 9, 10, 11, 12, 13, 14] mG rfl (by kernel_rfl) ?_
 refine z5 ?_
 refine z3 ?_
 refine Xi tG rfl rfl rfl rfl (fun _ => rfl) (by omega) (iN cInt 1 (fun _ => rfl) 0 (by (simp only [dnL] at *; omega))) ?_
 refine z5 ?_
 refine z3 ?_
 refine Xi tG rfl rfl rfl rfl (fun _ => rfl) (by omega) (iN cInt 1 (fun _ => rfl) 0 (by (simp only [dnL] at *; omega))) ?_
 refine z5 ?_
 refine z3 ?_
 refine Xi tG rfl rfl rfl rfl (fun _ => rfl) (by omega) (iN cInt 1 (fun _ => rfl) 0 (by (simp only [dnL] at *; omega))) ?_
 refine z5 ?_
 refine Xc rfl rfl rfl rfl (fun _ => dC rfl Tryz.func221 rfl rfl ((mem_Fill _ _ _ _ hm (hx.fit 0) (hx.fit 1)) _)) ?_
 iterate 2 refine z3 ?_
 refine WU_ev3 tG rfl rfl rfl rfl rfl trivial ?_
 refine z3 ?_
 refine WU_nil ?_
 refine zR ?_
 rfl
theorem me_7 (v : VVm) (x : List Int) (hm : MemOk v.mem) (hx : XOk 3 x) : PureC Tryz.prog 222 [eMem v.mem, sq cInt x] (tMem (memMove v.mem (xat x 0) (xat x 1) (xat x 2))) := by
 have hl := hx.len
 refine pW tG (rs := [.cell 4 27, .tmp 5]) Tryz.func222 rfl rfl rfl (by simp) (by simp) (fun B => ?_)
 refine zu3 ?_
 refine Ws ?_
 refine W_drawU [1, 0, 0, 1, 0, 0, 1, 0, 0, 1, 0, 0, 0, 3, 0] [0, 1, 2, 3, 4, 5, 6, 7, 8, 9, 10, 11, 12, 13, 14] mG rfl (by kernel_rfl) ?_
 refine z5 ?_
 refine z3 ?_
 refine Xi tG rfl rfl rfl rfl (fun _ => rfl) (by omega) (iN cInt 1 (fun _ => rfl) 0 (by (simp only [dnL] at *; omega))) ?_
 refine z5 ?_
 refine z3 ?_
 refine Xi tG rfl rfl rfl rfl (fun _ => rfl) (by omega) (iN cInt 1 (fun _ => rfl) 0 (by (simp only [dnL] at *; omega))) ?_
 refine z5 ?_
 refine z3 ?_
 refine Xi tG rfl rfl rfl rfl (fun _ => rfl) (by omega) (iN cInt 1 (fun _ => rfl) 0 (by (simp only [dnL] at *; omega))) ?_
 refine z5 ?_
 refine Xc rfl rfl rfl rfl (fun _ => dC rfl Tryz.func223 rfl rfl ((mem_Move _ _ _ _ hm (hx.fit 0) (hx.fit 1) (hx.fit 2)) _)) ?_
 iterate 2 refine z3 ?_
 refine WU_ev3 tG rfl rfl rfl rfl rfl trivial ?_
 refine z3 ?_
 refine WU_nil ?_
 refine zR ?_
 rfl
theorem me_8 (v : VVm) (x : List Int) (hm : MemOk v.mem) (hx : XOk 1 x) : ∀ (H : List Ob) (i : Nat), H[i]? = some (.cells (cVm v) 36) → HC Tryz.prog 224 (.ptr i 0 :: [sq cInt x]) H (tLv (pCount v x).2) (H.set i (.cells (cVm v) 36)) := by
 have hl := hx.len
 refine mut_of_W tG (rs := [.tmp 4, .tmp 5]) Tryz.func224 rfl rfl rfl (by simp) (by simp) (by simp) (by simp) (fun B => ?_)
 refine zu2 ?_
 refine Ws ?_
 refine W_drawU [0, 0, 0, 1, 0, 0, 1, 0, 0, 0, 0, 0, 0] [0, 1, 2, 3, 4, 5, 6, 7, 8, 9, 10, 11, 12] mG rfl (by kernel_rfl) ?_
 iterate 3 refine z3 ?_
 refine z5 ?_
 refine z3 ?_
 refine Xi tG rfl rfl rfl rfl (fun _ => rfl) (by omega) (iN cInt 1 (fun _ => rfl) 0 (by (simp only [dnL] at *; omega))) ?_
 refine z5 ?_
 refine Xc rfl rfl rfl rfl (fun _ => dC rfl Tryz.func211 rfl rfl ((mem_FetchByte _ _ hm (hx.fit 0)) _)) ?_
 iterate 5 refine z3 ?_
 refine WU_nil ?_
 refine zp1 ?_
 refine Wv tG rfl rfl rfl (by omega) (iN cInt 1 (fun _ => rfl) 0 (by (simp only [dnL] at *; omega))) ?_
 refine zy4 ?_
 refine Wa 24 rfl (bsL cInt [_, _] rfl rfl) ?_
 refine zs3 ?_
 refine Wq ?_
 refine leafM rfl rfl ?_ ?_
 ·rfl
 ·rfl
theorem sp_3 (v : VVm) : PureC Tryz.prog 231 [eVm v] (i64 v.here) := by
 refine pW tG (rs := [.tmp 2]) Tryz.func231 rfl rfl rfl (by simp) (by simp) (fun B => ?_)
 refine zu2 ?_
 refine zu3 ?_
 refine zR ?_
 rfl
theorem sp_4 (v : VVm) (x : List Int) (hm : MemOk v.mem) (hh : HereOk v.mem v.here) (hx : XOk 1 x) : PureC Tryz.prog 233 [eMem v.mem, i64 v.here, sq cInt x] (tLay (pAllot v x)) := by
 have hl := hx.len
 refine pW tG (rs := [.cell 6 27, .tmp 7, .tmp 8]) Tryz.func233 rfl rfl rfl (by simp) (by simp) (fun B => ?_)
 refine zu4 ?_
 refine Ws ?_
 refine W_drawU [1, 0, 0, 0, 0, 1, 0, 0, 0, 0, 0, 0] [0, 1, 2, 3, 4, 5, 6, 7, 8, 9, 10, 11] mG rfl (by kernel_rfl) ?_
 refine z5 ?_
 refine Xc rfl rfl rfl rfl (fun _ => dC rfl Tryz.func235 rfl rfl ((vm_Start) _)) ?_
 iterate 2 refine z3 ?_
 refine Xi tG rfl rfl rfl rfl (fun _ => rfl) (by omega) (iN cInt 1 (fun _ => rfl) 0 (by (simp only [dnL] at *; omega))) ?_
 refine z5 ?_
 refine Xc rfl rfl rfl rfl (fun _ => dC rfl Tryz.func234 rfl rfl ((spc_Allot _ _ _ _ hm hh (by unfold Fit64; omega) (hx.fit 0)) _)) ?_
 iterate 5 refine z3 ?_
 refine WU_nil ?_
 refine zp5 ?_
 refine zs1 ?_
 refine zR ?_
 rfl
theorem sp_5 (v : VVm) (x : List Int) (hm : MemOk v.mem) (hh : HereOk v.mem v.here) (hx : XOk 1 x) : PureC Tryz.prog 236 [eMem v.mem, i64 v.here, sq cInt x] (tLay (spcComma v.mem v.here (xat x 0))) := by
 have hl := hx.len
 refine pW tG (rs := [.cell 6 27, .tmp 7, .tmp 8]) Tryz.func236 rfl rfl rfl (by simp) (by simp) (fun B => ?_)
 refine zu4 ?_
 refine Ws ?_
 refine W_drawU [1, 0, 0, 0, 1, 0, 0, 0, 0, 3, 0, 0] [0, 1, 2, 3, 4, 5, 6, 7, 8, 9, 10, 11] mG rfl (by kernel_rfl) ?_
 refine z5 ?_
 iterate 2 refine z3 ?_
 refine Xi tG rfl rfl rfl rfl (fun _ => rfl) (by omega) (iN cInt 1 (fun _ => rfl) 0 (by (simp only [dnL] at *; omega))) ?_
 refine z5 ?_
 refine Xc rfl rfl rfl rfl (fun _ => dC rfl Tryz.func237 rfl rfl ((spc_Comma _ _ _ hm hh) _)) ?_
 iterate 3 refine z3 ?_
 refine WU_ev3 tG rfl rfl rfl rfl rfl trivial ?_
 iterate 2 refine z3 ?_
 refine WU_nil ?_
 refine zR ?_
 rfl
theorem sp_6 (v : VVm) (x : List Int) (hm : MemOk v.mem) (hh : HereOk v.mem v.here) (hx : XOk 1 x) : PureC Tryz.prog 238 [eMem v.mem, i64 v.here, sq cInt x] (tLay (spcLay v.mem v.here [loB (xat x 0)])) := by
 have hl := hx.len
 refine pW tG (rs := [.cell 6 27, .tmp 7, .tmp 8]) Tryz.func238 rfl rfl rfl (by simp) (by simp) (fun B => ?_)
 refine zu4 ?_
 refine Ws ?_
 refine W_drawU [1, 0, 0, 0, 1, 0, 0, 0, 0, 0, 0, 3, 0, 0] [0, 1, 2, 3, 4, 5, 6, 7, 8, 9, 10, 11, 12, 13] mG rfl (by kernel_rfl) ?_
 refine z5 ?_
 iterate 2 refine z3 ?_
 refine Xi tG rfl rfl rfl rfl (fun _ => rfl) (by omega) (iN cInt 1 (fun _ => rfl) 0 (by (simp only [dnL] at *; omega))) ?_
 refine z5 ?_
 refine z3 ?_
 refine Xa 14 rfl (loB_pv _) ?_
 refine z3 ?_
 refine Xa 15 rfl (bsL cByte [_] rfl rfl) ?_
 refine Xc rfl rfl rfl rfl (fun _ => dC rfl Tryz.func239 rfl rfl ((spc_Lay _ _ [loB (xat x 0)] hm hh (by simp)) _)) ?_
 iterate 3 refine z3 ?_
 refine WU_ev3 tG rfl rfl rfl rfl rfl trivial ?_
 iterate 2 refine z3 ?_
 refine WU_nil ?_
 refine zR ?_
 rfl
theorem sp_7 (v : VVm) (x : List Int) (hm : MemOk v.mem) (hh : HereOk v.mem v.here) : PureC Tryz.prog 240 [eMem v.mem, i64 v.here, sq cInt x] (tLay (spcAlign v.mem v.here)) := by
 refine pW tG (rs := [.cell 6 27, .tmp 7, .tmp 8]) Tryz.func240 rfl rfl rfl (by simp) (by simp) (fun B => ?_)
 refine zu4 ?_
 refine zp2 ?_
 refine Wc rfl rfl (dC rfl Tryz.func241 rfl rfl ((spc_AlignUp _ _ hm hh) _)) ?_
 refine zy5 ?_
 refine zs1 ?_
 refine zR ?_
 rfl
end Go.Proofs.YtobhnjnffnbbkaaGreatDoor
namespace Go.Proofs.YtobhnjnffnbbkaaGreatDoor
open Go.RowKit
set_option maxRecDepth 100000
set_option maxHeartbeats 4000000
theorem pr_3 (v : VVm) (x : List Int) (hx : XOk 1 x) : PureC Tryz.prog 248 [eVm v, sq cInt x] (tShow ([loB (xat x 0)], 0)) := by
 have hl := hx.len
 refine pW tG (rs := [.tmp 4, .tmp 5]) Tryz.func248 rfl rfl rfl (by simp) (by simp) (fun B => ?_)
 refine zu3 ?_
 refine zp1 ?_
 refine Wv tG rfl rfl rfl (by omega) (iN cInt 1 (fun _ => rfl) 0 (by (simp only [dnL] at *; omega))) ?_
 refine zy2 ?_
 refine Wa 9 rfl (loB_pv _) ?_
 refine z1 ?_
 refine Wa 10 rfl (bsL cByte [_] rfl rfl) ?_
 refine Wd rfl rfl (does_bytes_str (lO tG rfl) rfl (lO tG rfl) rfl (lO tG rfl) rfl rfl rfl) ?_
 refine zs2 ?_
 refine zR ?_
 rfl
theorem repeat_blank (n : Nat) : Lib.repeatL [32] n = List.replicate n 32 := by
 induction n with
 | zero => rfl
 | succ n ih => show [32] ++ Lib.repeatL [32] n = _; rw [ih]; rfl
theorem strings_blanks (n : Nat) (hn : n ≤ 1000000) : PureC Tryz.prog 250 [str [32], i64 n] (str (List.replicate n 32)) := by
 refine pure_of_calls (args := [.string ⟨#[32]⟩, .int .i64 n]) (fun c => rep_val _ _) fun w => Calls.mono (Tryz.strings_Repeat ⟨#[32]⟩ n w (by omega) (by show 1 * n ≤ _; omega)) ?_
 rintro e w' ⟨rfl, hb⟩
 have h1 : (⟨#[32]⟩ : ByteArray).data.toList = [32] := rfl
 rw [h1, repeat_blank]
 exact ⟨rfl, Grows.of_below hb⟩
theorem minmax_pv (a b : Int) : (if b < if 0 > a then 0 else a then b else if 0 > a then 0 else a) = min (max a 0) b := by
 by_cases h : 0 > a
 ·simp only [if_pos h]; split <;> omega
 ·simp only [if_neg h]; split <;> omega
theorem pr_4 (v : VVm) (x : List Int) (ho : 0 ≤ v.conf.out ∧ v.conf.out ≤ 900000) (hx : XOk 1 x) : PureC Tryz.prog 249 [eVm v, sq cInt x] (tShow (pSpaces v x, 0)) := by
 have hl := hx.len
 have h0 := hx.fit 0
 have w1 : IntKind.i64.wrap (v.conf.out + 1) = v.conf.out + 1 := by ((rw [i64w]; unfold wrap64; (try simp only [dnL] at *); omega))
 have w2 : min (max (xat x 0) 0) (v.conf.out + 1) = ((min (max (xat x 0) 0) (v.conf.out + 1)).toNat : Int) := by omega
 refine pW tG (rs := [.tmp 4, .tmp 5]) Tryz.func249 rfl rfl rfl (by simp) (by simp) (fun B => ?_)
 refine zu3 ?_
 refine Ws ?_
 refine W_drawU [0, 0, 1, 0, 0, 0, 1, 0, 0, 0, 0, 0] [0, 1, 2, 3, 4, 5, 6, 7, 8, 9, 10, 11] mG rfl (by kernel_rfl) ?_
 refine z3 ?_
 refine Xi tG rfl rfl rfl rfl (fun _ => rfl) (by omega) (iN cInt 1 (fun _ => rfl) 0 (by (simp only [dnL] at *; omega))) ?_
 refine z5 ?_
 iterate 3 refine z3 ?_
 refine z5 ?_
 refine z3 ?_
 refine Xa 13 rfl (congrArg (fun z => PV.val (Value.int .i64 z)) w1) ?_
 refine z3 ?_
 refine Xa 14 rfl (congrArg (fun z => PV.val (Value.int .i64 z)) ((minmax_pv (xat x 0) (v.conf.out + 1)).trans w2)) ?_
 refine Xc rfl rfl rfl rfl (fun _ => dC rfl Tryz.func250 rfl rfl ((strings_blanks _ (by omega)) _)) ?_
 iterate 2 refine z3 ?_
 refine WU_nil ?_
 refine zR ?_
 rfl
theorem pr_5 (v : VVm) (x : List Int) (hm : MemOk v.mem) (hx : XOk 2 x) : PureC Tryz.prog 251 [eVm v, sq cInt x] (tShow (memText v.mem (xat x 0) (xat x 1))) := by
 have hl := hx.len
 refine pW tG (rs := [.tmp 4, .tmp 5]) Tryz.func251 rfl rfl rfl (by simp) (by simp) (fun B => ?_)
 refine zu3 ?_
 refine Ws ?_
 refine W_drawU [0, 1, 0, 0, 1, 0, 0, 1, 0, 0, 0, 0, 0, 0] [0, 1, 2, 3, 4, 5, 6, 7, 8, 9, 10, 11, 12, 13] mG rfl (by kernel_rfl) ?_
 refine z3 ?_
 refine z5 ?_
 refine z3 ?_
 refine Xi tG rfl rfl rfl rfl (fun _ => rfl) (by omega) (iN cInt 1 (fun _ => rfl) 0 (by (simp only [dnL] at *; omega))) ?_
 refine z5 ?_
 refine z3 ?_
 refine Xi tG rfl rfl rfl rfl (fun _ => rfl) (by omega) (iN cInt 1 (fun _ => rfl) 0 (by (simp only [dnL] at *; omega))) ?_
 refine z5 ?_
 refine Xc rfl rfl rfl rfl (fun _ => dC rfl Tryz.func165 rfl rfl ((mem_Text _ _ _ hm (hx.fit 0) (hx.fit 1)) _)) ?_
 iterate 5 refine z3 ?_
 refine WU_nil ?_
 refine zp1 ?_
 refine Wd rfl rfl (does_bytes_str (lO tG rfl) rfl (lO tG rfl) rfl (lO tG rfl) rfl rfl rfl) ?_
 refine zs3 ?_
 refine zR ?_
 rfl
theorem pi_2 (v : VVm) (x : List Int) : ∀ (H : List Ob) (i : Nat), H[i]? = some (.cells (cVm v) 36) → HC Tryz.prog 256 (.ptr i 0 :: [sq cInt x]) H (tLv ([], 0)) (H.set i (.cells (cVm (withP v ⟨[], true⟩)) 36)) := by
 refine mut_of_W tG (rs := [.tmp 4, .tmp 5]) Tryz.func256 rfl rfl rfl (by simp) (by simp) (by simp) (by simp) (fun B => ?_)
 refine zu2 ?_
 refine zp1 ?_
 refine Wc rfl rfl (dC rfl Tryz.func257 rfl rfl ((pic_Begin) _)) ?_
 refine zs3 ?_
 refine zu2 ?_
 refine Wq ?_
 refine leafM rfl rfl ?_ ?_
 ·rfl
 ·rfl
theorem pi_3 (v : VVm) (x : List Int) (hp : v.pic.b.length ≤ 1000000) (hm : v.mem.b.length ≤ 140737488355328) (hx : XOk 2 x) : ∀ (H : List Ob) (i : Nat), H[i]? = some (.cells (cVm v) 36) → HC Tryz.prog 258 (.ptr i 0 :: [sq cInt x]) H (tLv (pDig v x).2) (H.set i (.cells (cVm (pDig v x).1) 36)) := by
 have hl := hx.len
 refine mut_of_W tG (rs := [.tmp 4, .tmp 5]) Tryz.func258 rfl rfl rfl (by simp) (by simp) (by simp) (by simp) (fun B => ?_)
 refine zu2 ?_
 refine Ws ?_
 refine W_drawU [0, 0, 0, 1, 0, 0, 1, 0, 0, 1, 0, 0, 1, 0, 0, 0, 0, 0, 0, 0, 2, 3, 0, 0, 0] [0, 1, 2, 3, 4, 5, 6, 7, 8, 9, 10, 11, 12, 13, 14, 15, 16, 17, 18, 19, 20, 21, 22, 23, 24] mG rfl (by kernel_rfl) ?_
 iterate 3 refine z3 ?_
 refine z5 ?_
 refine z3 ?_
 refine Xi tG rfl rfl rfl rfl (fun _ => rfl) (by omega) (iN cInt 1 (fun _ => rfl) 0 (by (simp only [dnL] at *; omega))) ?_
 refine z5 ?_
 refine z3 ?_
 refine Xi tG rfl rfl rfl rfl (fun _ => rfl) (by omega) (iN cInt 1 (fun _ => rfl) 0 (by (simp only [dnL] at *; omega))) ?_
 refine z5 ?_
 iterate 2 refine z3 ?_
 refine z5 ?_
 refine Xc rfl rfl rfl rfl (fun _ => dC rfl Tryz.func245 rfl rfl ((prim_base v hm) _)) ?_
 refine Xc rfl rfl rfl rfl (fun _ => dC rfl Tryz.func259 rfl rfl ((pic_Digit _ _ _ _ hp) _)) ?_
 iterate 5 refine z3 ?_
 refine WU_ev2 tG rfl rfl rfl rfl rfl trivial rfl ?_
 refine WU_ev3 tG rfl rfl rfl rfl rfl trivial ?_
 iterate 3 refine z3 ?_
 refine WU_nil ?_
 refine zu5 ?_
 refine zp3 ?_
 refine Wa 36 rfl (bsL cInt [_, _] rfl rfl) ?_
 refine zs3 ?_
 refine Wq ?_
 refine leafM rfl rfl ?_ ?_
 ·rfl
 ·rfl
theorem pi_4 (v : VVm) (x : List Int) (hp : v.pic.b.length ≤ 1000000) (hm : v.mem.b.length ≤ 140737488355328) (hx : XOk 2 x) : ∀ (H : List Ob) (i : Nat), H[i]? = some (.cells (cVm v) 36) → HC Tryz.prog 260 (.ptr i 0 :: [sq cInt x]) H (tLv (pAll v x).2) (H.set i (.cells (cVm (pAll v x).1) 36)) := by
 have hl := hx.len
 refine mut_of_W tG (rs := [.tmp 4, .tmp 5]) Tryz.func260 rfl rfl rfl (by simp) (by simp) (by simp) (by simp) (fun B => ?_)
 refine zu2 ?_
 refine Ws ?_
 refine W_drawU [0, 0, 0, 1, 0, 0, 1, 0, 0, 1, 0, 0, 1, 0, 0, 0, 0, 0, 2, 3, 0] [0, 1, 2, 3, 4, 5, 6, 7, 8, 9, 10, 11, 12, 13, 14, 15, 16, 17, 18, 19, 20] mG rfl (by kernel_rfl) ?_
 iterate 3 refine z3 ?_
 refine z5 ?_
 refine z3 ?_
 refine Xi tG rfl rfl rfl rfl (fun _ => rfl) (by omega) (iN cInt 1 (fun _ => rfl) 0 (by (simp only [dnL] at *; omega))) ?_
 refine z5 ?_
 refine z3 ?_
 refine Xi tG rfl rfl rfl rfl (fun _ => rfl) (by omega) (iN cInt 1 (fun _ => rfl) 0 (by (simp only [dnL] at *; omega))) ?_
 refine z5 ?_
 iterate 2 refine z3 ?_
 refine z5 ?_
 refine Xc rfl rfl rfl rfl (fun _ => dC rfl Tryz.func245 rfl rfl ((prim_base v hm) _)) ?_
 refine Xc rfl rfl rfl rfl (fun _ => dC rfl Tryz.func261 rfl rfl ((pic_All _ _ _ _ hp) _)) ?_
 iterate 3 refine z3 ?_
 refine WU_ev2 tG rfl rfl rfl rfl rfl trivial rfl ?_
 refine WU_ev3 tG rfl rfl rfl rfl rfl trivial ?_
 refine z3 ?_
 refine WU_nil ?_
 refine zu5 ?_
 refine zp1 ?_
 refine Wa 30 rfl (bsL cInt [_, _] rfl rfl) ?_
 refine zs3 ?_
 refine Wq ?_
 refine leafM rfl rfl ?_ ?_
 ·rfl
 ·rfl
theorem picEnd_len (p : VPic) : (picEnd p).1.length ≤ p.b.length := by unfold picEnd; split <;> simp
theorem pi_5 (v : VVm) (x : List Int) (hp : v.pic.b.length ≤ 1000000) (hm : MemOk v.mem) : ∀ (H : List Ob) (i : Nat), H[i]? = some (.cells (cVm v) 36) → HC Tryz.prog 264 (.ptr i 0 :: [sq cInt x]) H (tLv (pEnd v).2) (H.set i (.cells (cVm (pEnd v).1) 36)) := by
 have hl := picEnd_len v.pic
 refine mut_of_W tG (rs := [.tmp 4, .tmp 5]) Tryz.func264 rfl rfl rfl (by simp) (by simp) (by simp) (by simp) (fun B => ?_)
 refine zu2 ?_
 refine zp4 ?_
 refine Wc rfl rfl (dC rfl Tryz.func265 rfl rfl ((pic_End _ hp) _)) ?_
 refine zs5 ?_
 refine Ws ?_
 refine zu2 ?_
 refine Wi rfl (fun hi1 => ?_) (fun hi1 => ?_)
 ·have h0 : ¬ (picEnd v.pic).2 = 0 := bne_iff_ne.1 hi1
  refine zu3 ?_
  refine Wq ?_
  refine leafM rfl rfl ?_ ?_
  ·rw [pEnd, if_neg h0]; rfl
  ·rw [pEnd, if_neg h0]; rfl
 ·have h0 : (picEnd v.pic).2 = 0 := bne_eq_false_iff_eq.1 hi1
  refine Wj ?_
  refine zp5 ?_
  refine zs2 ?_
  refine zp5 ?_
  refine zy3 ?_
  refine Wa 34 rfl (str_bytes _) ?_
  refine Wc rfl rfl (dC rfl Tryz.func266 rfl rfl ((mem_Write _ _ _ hm (w64_fit _) (by omega)) _)) ?_
  refine zy5 ?_
  refine zs2 ?_
  refine zu5 ?_
  refine zp3 ?_
  refine Wa 46 rfl (str_len _) ?_
  refine z1 ?_
  refine Wa 47 rfl (bsL cInt [_, _] rfl rfl) ?_
  refine zs3 ?_
  refine Wq ?_
  refine leafM rfl rfl ?_ ?_
  ·rw [pEnd, if_pos h0]; rfl
  ·rw [pEnd, if_pos h0]; rfl
def pBodyP (v : VVm) (x : List Int) : List Int × Int := ([W64 (xat x 0 + 16)], if (vmKind v (xat x 0)).2 = 0 ∧ ((vmKind v (xat x 0)).1 < 257 ∨ 260 < (vmKind v (xat x 0)).1) then -31 else (vmKind v (xat x 0)).2)
theorem ot_1 (v : VVm) (x : List Int) (hm : v.mem.b.length ≤ 140737488355328) (hx : XOk 1 x) : ∀ (H : List Ob) (i : Nat), H[i]? = some (.cells (cVm v) 36) → HC Tryz.prog 267 (.ptr i 0 :: [sq cInt x]) H (tLv (pBodyP v x)) (H.set i (.cells (cVm v) 36)) := by
 have hl := hx.len
 refine mut_of_W tG (rs := [.tmp 4, .tmp 5]) Tryz.func267 rfl rfl rfl (by simp) (by simp) (by simp) (by simp) (fun B => ?_)
 refine zu2 ?_
 refine Ws ?_
 refine W_drawU [0, 0, 1, 0, 0, 1, 0, 0, 0, 0, 0, 0] [0, 1, 2, 3, 4, 5, 6, 7, 8, 9, 10, 11] mG rfl (by kernel_rfl) ?_
 iterate 2 refine z3 ?_
 refine z5 ?_
 refine z3 ?_
 refine Xi tG rfl rfl rfl rfl (fun _ => rfl) (by omega) (iN cInt 1 (fun _ => rfl) 0 (by (simp only [dnL] at *; omega))) ?_
 refine z5 ?_
 refine Xc rfl rfl rfl rfl (fun _ => dC rfl Tryz.func62 rfl rfl ((vm_Kind v _ hm (hx.fit 0)) _)) ?_
 iterate 5 refine z3 ?_
 refine WU_nil ?_
 refine Ws ?_
 refine zp3 ?_
 refine Wb 20 rfl (fun hg1 => ?_) (fun hg1 => ?_)
 ·have h0 : (vmKind v (xat x 0)).2 = 0 := beq_iff_eq.1 hg1
  refine zy3 ?_
  refine Wb 23 rfl (fun hg2 => ?_) (fun hg2 => ?_)
  ·have h1 : (vmKind v (xat x 0)).1 < 257 := oT hg2
   iterate 2 refine z6 ?_
   refine zs2 ?_
   refine Wt rfl rfl ?_
   refine W_region rfl ?_
   refine zs1 ?_
   refine zp1 ?_
   refine Wv tG rfl rfl rfl (by omega) (iN cInt 1 (fun _ => rfl) 0 (by (simp only [dnL] at *; omega))) ?_
   refine zy3 ?_
   refine Wa 32 rfl (bsL cInt [_] rfl rfl) ?_
   refine zs3 ?_
   refine Wq ?_
   refine leafM rfl rfl ?_ ?_
   ·(rw [pBodyP, if_pos ⟨h0, by omega⟩]; rfl)
   ·rfl
  ·have h1 : ¬ (vmKind v (xat x 0)).1 < 257 := oF hg2
   refine zs4 ?_
   refine Wi rfl (fun hi1 => ?_) (fun hi1 => ?_)
   ·have h2 : 260 < (vmKind v (xat x 0)).1 := oT hi1
    refine W_region rfl ?_
    refine zs1 ?_
    refine zp1 ?_
    refine Wv tG rfl rfl rfl (by omega) (iN cInt 1 (fun _ => rfl) 0 (by (simp only [dnL] at *; omega))) ?_
    refine zy3 ?_
    refine Wa 32 rfl (bsL cInt [_] rfl rfl) ?_
    refine zs3 ?_
    refine Wq ?_
    refine leafM rfl rfl ?_ ?_
    ·(rw [pBodyP, if_pos ⟨h0, by omega⟩]; rfl)
    ·rfl
   ·have h2 : ¬ 260 < (vmKind v (xat x 0)).1 := oF hi1
    refine Wj ?_
    refine zp1 ?_
    refine Wv tG rfl rfl rfl (by omega) (iN cInt 1 (fun _ => rfl) 0 (by (simp only [dnL] at *; omega))) ?_
    refine zy3 ?_
    refine Wa 32 rfl (bsL cInt [_] rfl rfl) ?_
    refine zs3 ?_
    refine Wq ?_
    refine leafM rfl rfl ?_ ?_
    ·(rw [pBodyP, if_neg (fun h => by omega)]; rfl)
    ·rfl
 ·have h0 : ¬ (vmKind v (xat x 0)).2 = 0 := beq_eq_false_iff_ne.1 hg1
  iterate 6 refine z6 ?_
  refine zs1 ?_
  refine Wf rfl rfl ?_
  refine Wj ?_
  refine zp1 ?_
  refine Wv tG rfl rfl rfl (by omega) (iN cInt 1 (fun _ => rfl) 0 (by (simp only [dnL] at *; omega))) ?_
  refine zy3 ?_
  refine Wa 32 rfl (bsL cInt [_] rfl rfl) ?_
  refine zs3 ?_
  refine Wq ?_
  refine leafM rfl rfl ?_ ?_
  ·(rw [pBodyP, if_neg (fun h => by omega)]; rfl)
  ·rfl
theorem ot_2 (x : List Int) : PureC Tryz.prog 268 [sq cInt x] (tLv ([], -1)) := by
 refine pW tG (rs := [.tmp 2, .tmp 3]) Tryz.func268 rfl rfl rfl (by simp) (by simp) (fun B => ?_)
 refine zu2 ?_
 refine zu2 ?_
 refine zR ?_
 rfl
theorem ot_3 (v : VVm) : PureC Tryz.prog 270 [eVm v] (i64 v.arg) := by
 refine pW tG (rs := [.tmp 2]) Tryz.func270 rfl rfl rfl (by simp) (by simp) (fun B => ?_)
 refine zu2 ?_
 refine zu3 ?_
 refine zR ?_
 rfl
theorem ot_4 (v : VVm) : PureC Tryz.prog 271 [eVm v] (i64 v.self) := by
 refine pW tG (rs := [.tmp 2]) Tryz.func271 rfl rfl rfl (by simp) (by simp) (fun B => ?_)
 refine zu2 ?_
 refine zu3 ?_
 refine zR ?_
 rfl
theorem ot_5 (v : VVm) : PureC Tryz.prog 272 [eVm v] (i64 v.now) := by
 refine pW tG (rs := [.tmp 2]) Tryz.func272 rfl rfl rfl (by simp) (by simp) (fun B => ?_)
 refine zu2 ?_
 refine zu3 ?_
 refine zR ?_
 rfl
theorem ot_6 (v : VVm) (x : List Int) (hm : MemOk v.mem) (hx : XOk 2 x) : ∀ (H : List Ob) (i : Nat), H[i]? = some (.cells (cVm v) 36) → HC Tryz.prog 273 (.ptr i 0 :: [sq cInt x]) H (tLv (pSetState v x).2) (H.set i (.cells (cVm (pSetState v x).1) 36)) := by
 have hl := hx.len
 refine mut_of_W tG (rs := [.tmp 4, .tmp 5]) Tryz.func273 rfl rfl rfl (by simp) (by simp) (by simp) (by simp) (fun B => ?_)
 refine zu2 ?_
 iterate 2 refine Ws ?_
 refine W_drawU [0, 0, 0, 1, 0, 0, 1, 3, 0] [0, 1, 2, 3, 4, 5, 6, 7, 8] mG rfl (by kernel_rfl) ?_
 iterate 2 refine z3 ?_
 refine Xi tG rfl rfl rfl rfl (fun _ => rfl) (by omega) (iN cInt 1 (fun _ => rfl) 0 (by (simp only [dnL] at *; omega))) ?_
 refine z5 ?_
 refine z3 ?_
 refine Xi tG rfl rfl rfl rfl (fun _ => rfl) (by omega) (iN cInt 1 (fun _ => rfl) 0 (by (simp only [dnL] at *; omega))) ?_
 refine z5 ?_
 refine WU_call3 rfl rfl rfl rfl (dC rfl Tryz.func274 rfl rfl ((prim_stated v _ _ (memOk_len hm) (hx.fit 0)) _ _ rfl)) ?_
 refine z3 ?_
 refine WU_nil ?_
 refine zu2 ?_
 refine Wi rfl (fun hi1 => ?_) (fun hi1 => ?_)
 ·have h0 : ¬ stated v (xat x 0) (xat x 1) = 0 := bne_iff_ne.1 hi1
  refine zu3 ?_
  refine Wq ?_
  refine leafM rfl rfl ?_ ?_
  ·rw [pSetState, if_neg h0]; rfl
  ·rw [pSetState, if_neg h0]; rfl
 ·have h0 : stated v (xat x 0) (xat x 1) = 0 := bne_eq_false_iff_eq.1 hi1
  refine Wj ?_
  refine Ws ?_
  refine W_drawU [0, 0, 0, 1, 0, 0, 1, 3, 0, 0] [0, 1, 2, 3, 4, 5, 6, 7, 8, 9] mG rfl (by kernel_rfl) ?_
  iterate 2 refine z3 ?_
  refine Xi tG rfl rfl rfl rfl (fun _ => rfl) (by omega) (iN cInt 1 (fun _ => rfl) 0 (by (simp only [dnL] at *; omega))) ?_
  refine z5 ?_
  refine z3 ?_
  refine Xi tG rfl rfl rfl rfl (fun _ => rfl) (by omega) (iN cInt 1 (fun _ => rfl) 0 (by (simp only [dnL] at *; omega))) ?_
  refine z5 ?_
  refine WU_call3 rfl rfl rfl rfl (dC rfl Tryz.func227 rfl rfl ((prim_store v _ _ hm (hx.fit 1)) _ _ rfl)) ?_
  iterate 2 refine z3 ?_
  refine WU_nil ?_
  refine Wq ?_
  refine leafM rfl rfl ?_ ?_
  ·rw [pSetState, if_pos h0]; rfl
  ·rw [pSetState, if_pos h0]; rfl
theorem ot_7 (v : VVm) (x : List Int) (hm : MemOk v.mem) (hx : XOk 3 x) : ∀ (H : List Ob) (i : Nat), H[i]? = some (.cells (cVm v) 36) → HC Tryz.prog 275 (.ptr i 0 :: [sq cInt x]) H (tLv (pAtState v x).2) (H.set i (.cells (cVm (pAtState v x).1) 36)) := by
 have hl := hx.len
 refine mut_of_W tG (rs := [.tmp 4, .tmp 5]) Tryz.func275 rfl rfl rfl (by simp) (by simp) (by simp) (by simp) (fun B => ?_)
 refine zu2 ?_
 iterate 2 refine Ws ?_
 refine W_drawU [0, 0, 0, 1, 0, 0, 1, 3, 0] [0, 1, 2, 3, 4, 5, 6, 7, 8] mG rfl (by kernel_rfl) ?_
 iterate 2 refine z3 ?_
 refine Xi tG rfl rfl rfl rfl (fun _ => rfl) (by omega) (iN cInt 1 (fun _ => rfl) 0 (by (simp only [dnL] at *; omega))) ?_
 refine z5 ?_
 refine z3 ?_
 refine Xi tG rfl rfl rfl rfl (fun _ => rfl) (by omega) (iN cInt 1 (fun _ => rfl) 0 (by (simp only [dnL] at *; omega))) ?_
 refine z5 ?_
 refine WU_call3 rfl rfl rfl rfl (dC rfl Tryz.func274 rfl rfl ((prim_stated v _ _ (memOk_len hm) (hx.fit 1)) _ _ rfl)) ?_
 refine z3 ?_
 refine WU_nil ?_
 refine zu2 ?_
 refine Wi rfl (fun hi1 => ?_) (fun hi1 => ?_)
 ·have h0 : ¬ stated v (xat x 1) (xat x 2) = 0 := bne_iff_ne.1 hi1
  refine zu3 ?_
  refine Wq ?_
  refine leafM rfl rfl ?_ ?_
  ·rw [pAtState, if_neg h0]; rfl
  ·rw [pAtState, if_neg h0]; rfl
 ·have h0 : stated v (xat x 1) (xat x 2) = 0 := bne_eq_false_iff_eq.1 hi1
  refine Wj ?_
  refine Ws ?_
  refine W_drawU [0, 0, 0, 0, 0, 0, 0, 0, 0, 0, 0, 0, 0, 3, 0, 0] [0, 1, 2, 3, 4, 5, 6, 7, 8, 9, 10, 11, 12, 13, 14, 15] mG rfl (by kernel_rfl) ?_
  iterate 2 refine z3 ?_
  refine Xi tG rfl rfl rfl rfl (fun _ => rfl) (by omega) (iN cInt 1 (fun _ => rfl) 0 (by (simp only [dnL] at *; omega))) ?_
  iterate 3 refine z3 ?_
  refine Xi tG rfl rfl rfl rfl (fun _ => rfl) (by omega) (iN cInt 1 (fun _ => rfl) 0 (by (simp only [dnL] at *; omega))) ?_
  iterate 4 refine z3 ?_
  refine Xi tG rfl rfl rfl rfl (fun _ => rfl) (by omega) (iN cInt 1 (fun _ => rfl) 0 (by (simp only [dnL] at *; omega))) ?_
  refine z3 ?_
  refine WU_call3 rfl rfl rfl rfl (dC rfl Tryz.func227 rfl rfl ((prim_store v _ _ hm (w64_fit _)) _ _ rfl)) ?_
  iterate 2 refine z3 ?_
  refine WU_nil ?_
  refine Wq ?_
  refine leafM rfl rfl ?_ ?_
  ·rw [pAtState, if_pos h0]; rfl
  ·rw [pAtState, if_pos h0]; rfl
end Go.Proofs.YtobhnjnffnbbkaaGreatDoor
namespace Go.Proofs.YtobhnjnffnbbkaaGreatDoor
open Go.RowKit
set_option maxRecDepth 100000
set_option maxHeartbeats 4000000
theorem mk_asks1 : PureC Tryz.prog 269 [i64 1] (deedP 3 335 [.row [i64 1], .row [i64 3]]) := by
 refine pW tG (rs := [.cell 2 169]) Tryz.func269 rfl rfl rfl (by simp) (by simp) (fun B => ?_)
 refine zp1 ?_
 refine WO_freezeP 1 _ rfl rfl rfl ?_
 refine zs1 ?_
 refine z8 ?_
 refine Wd rfl rfl (does_makeMap rfl) ?_
 refine Wd rfl rfl (dI (e := 3) (key := .n (1)) (by kernel_rfl) rfl rfl rfl rfl (by kernel_rfl)) ?_
 refine Wd rfl rfl (dI (e := 3) (key := .n (2)) (by kernel_rfl) rfl rfl rfl rfl (by kernel_rfl)) ?_
 refine Wd rfl rfl (dI (e := 3) (key := .n (3)) (by kernel_rfl) rfl rfl rfl rfl (by kernel_rfl)) ?_
 refine Wd rfl rfl (dI (e := 3) (key := .n (4)) (by kernel_rfl) rfl rfl rfl rfl (by kernel_rfl)) ?_
 refine z1 ?_
 refine WO_freezeM 5 _ rfl rfl rfl ?_
 refine z1 ?_
 refine Wd rfl rfl (does_lookup (b := false) (e := 3) (key := .n 1) (by kernel_rfl) (lO tG rfl) (by kernel_rfl) rfl rfl rfl rfl (by kernel_rfl) (rfl)) ?_
 refine zy2 ?_
 refine WO_freezeP 3 _ rfl rfl rfl ?_
 refine Wn ?_
 refine zu4 ?_
 refine zR ?_
 rfl
theorem mk_asks2 : PureC Tryz.prog 269 [i64 2] (deedP 4 335 [.row [i64 2], .row [i64 4]]) := by
 refine pW tG (rs := [.cell 2 169]) Tryz.func269 rfl rfl rfl (by simp) (by simp) (fun B => ?_)
 refine zp1 ?_
 refine WO_freezeP 1 _ rfl rfl rfl ?_
 refine zs1 ?_
 refine z8 ?_
 refine Wd rfl rfl (does_makeMap rfl) ?_
 refine Wd rfl rfl (dI (e := 3) (key := .n (1)) (by kernel_rfl) rfl rfl rfl rfl (by kernel_rfl)) ?_
 refine Wd rfl rfl (dI (e := 3) (key := .n (2)) (by kernel_rfl) rfl rfl rfl rfl (by kernel_rfl)) ?_
 refine Wd rfl rfl (dI (e := 3) (key := .n (3)) (by kernel_rfl) rfl rfl rfl rfl (by kernel_rfl)) ?_
 refine Wd rfl rfl (dI (e := 3) (key := .n (4)) (by kernel_rfl) rfl rfl rfl rfl (by kernel_rfl)) ?_
 refine z1 ?_
 refine WO_freezeM 5 _ rfl rfl rfl ?_
 refine z1 ?_
 refine Wd rfl rfl (does_lookup (b := false) (e := 3) (key := .n 2) (by kernel_rfl) (lO tG rfl) (by kernel_rfl) rfl rfl rfl rfl (by kernel_rfl) (rfl)) ?_
 refine zy2 ?_
 refine WO_freezeP 3 _ rfl rfl rfl ?_
 refine Wn ?_
 refine zu4 ?_
 refine zR ?_
 rfl
theorem mk_asks3 : PureC Tryz.prog 269 [i64 3] (deedP 4 335 [.row [i64 3], .row [i64 4]]) := by
 refine pW tG (rs := [.cell 2 169]) Tryz.func269 rfl rfl rfl (by simp) (by simp) (fun B => ?_)
 refine zp1 ?_
 refine WO_freezeP 1 _ rfl rfl rfl ?_
 refine zs1 ?_
 refine z8 ?_
 refine Wd rfl rfl (does_makeMap rfl) ?_
 refine Wd rfl rfl (dI (e := 3) (key := .n (1)) (by kernel_rfl) rfl rfl rfl rfl (by kernel_rfl)) ?_
 refine Wd rfl rfl (dI (e := 3) (key := .n (2)) (by kernel_rfl) rfl rfl rfl rfl (by kernel_rfl)) ?_
 refine Wd rfl rfl (dI (e := 3) (key := .n (3)) (by kernel_rfl) rfl rfl rfl rfl (by kernel_rfl)) ?_
 refine Wd rfl rfl (dI (e := 3) (key := .n (4)) (by kernel_rfl) rfl rfl rfl rfl (by kernel_rfl)) ?_
 refine z1 ?_
 refine WO_freezeM 5 _ rfl rfl rfl ?_
 refine z1 ?_
 refine Wd rfl rfl (does_lookup (b := false) (e := 3) (key := .n 3) (by kernel_rfl) (lO tG rfl) (by kernel_rfl) rfl rfl rfl rfl (by kernel_rfl) (rfl)) ?_
 refine zy2 ?_
 refine WO_freezeP 3 _ rfl rfl rfl ?_
 refine Wn ?_
 refine zu4 ?_
 refine zR ?_
 rfl
theorem mk_asks4 : PureC Tryz.prog 269 [i64 4] (deedP 1 335 [.row [i64 4], .row [i64 1]]) := by
 refine pW tG (rs := [.cell 2 169]) Tryz.func269 rfl rfl rfl (by simp) (by simp) (fun B => ?_)
 refine zp1 ?_
 refine WO_freezeP 1 _ rfl rfl rfl ?_
 refine zs1 ?_
 refine z8 ?_
 refine Wd rfl rfl (does_makeMap rfl) ?_
 refine Wd rfl rfl (dI (e := 3) (key := .n (1)) (by kernel_rfl) rfl rfl rfl rfl (by kernel_rfl)) ?_
 refine Wd rfl rfl (dI (e := 3) (key := .n (2)) (by kernel_rfl) rfl rfl rfl rfl (by kernel_rfl)) ?_
 refine Wd rfl rfl (dI (e := 3) (key := .n (3)) (by kernel_rfl) rfl rfl rfl rfl (by kernel_rfl)) ?_
 refine Wd rfl rfl (dI (e := 3) (key := .n (4)) (by kernel_rfl) rfl rfl rfl rfl (by kernel_rfl)) ?_
 refine z1 ?_
 refine WO_freezeM 5 _ rfl rfl rfl ?_
 refine z1 ?_
 refine Wd rfl rfl (does_lookup (b := false) (e := 3) (key := .n 4) (by kernel_rfl) (lO tG rfl) (by kernel_rfl) rfl rfl rfl rfl (by kernel_rfl) (rfl)) ?_
 refine zy2 ?_
 refine WO_freezeP 3 _ rfl rfl rfl ?_
 refine Wn ?_
 refine zu4 ?_
 refine zR ?_
 rfl
theorem d_cancel (v : VVm) (x : List Int) (hr : v.req.length ≤ 100000) (hx : XOk 1 x) : ∀ (H : List Ob) (i : Nat), H[i]? = some (.cells (cVm v) 36) → HC Tryz.prog 335 (.ptr i 0 :: [sq cInt x, .row [i64 4], .row [i64 1]]) H (tLv (pCancel v x).2) (H.set i (.cells (cVm (pCancel v x).1) 36)) := by
 have hl := hx.len
 refine mut_of_W tG (rs := [.tmp 6, .tmp 7]) Tryz.func335 rfl rfl rfl (by simp) (by simp) (by simp) (by simp) (fun B => ?_)
 refine zu2 ?_
 refine zu4 ?_
 refine Ws ?_
 refine zu2 ?_
 refine Wt rfl (by decide) ?_
 refine W_region rfl ?_
 refine z1 ?_
 refine Wv tG rfl rfl rfl (by omega) (iN cInt 1 (fun _ => rfl) 0 (by (simp only [dnL] at *; omega))) ?_
 refine zs3 ?_
 refine zu3 ?_
 refine Ws ?_
 refine zp2 ?_
 refine WO_false 56 rfl (by decide) ?_
 iterate 10 refine z6 ?_
 refine zs1 ?_
 refine Wf rfl rfl ?_
 refine Wj ?_
 refine Ws ?_
 refine zp5 ?_
 refine zs1 ?_
 refine Wi rfl (fun hi2 => ?_) (fun hi2 => ?_)
 ·have h5 : 16 ≤ (v.req.length : Int) := oT hi2
  refine zu2 ?_
  refine Wq ?_
  refine leafM rfl rfl ?_ ?_
  ·rw [pCancel, if_pos h5]; rfl
  ·rw [pCancel, if_pos h5]; rfl
 ·have h5 : ¬ 16 ≤ (v.req.length : Int) := oF hi2
  refine Wj ?_
  refine Ws ?_
  refine zu2 ?_
  refine Wt rfl (by decide) ?_
  refine Ws ?_
  refine W_drawU [0, 0, 0, 0, 1, 0, 1, 0, 0, 0, 0, 3] [0, 1, 2, 3, 4, 5, 6, 7, 8, 9, 10, 11] mG rfl (by kernel_rfl) ?_
  iterate 4 refine z3 ?_
  refine z5 ?_
  refine Xc rfl rfl rfl rfl (fun _ => dC rfl Tryz.func336 rfl rfl ((clip_reqs _ (by omega)) _)) ?_
  refine z5 ?_
  refine z3 ?_
  refine Xa 83 rfl ((show PV.seq 1 _ .clip = .seq (List.length [(⟨4, 0, 0, 0, 0, xat x 0⟩ : VReq)]) (List.flatMap cReq [(⟨4, 0, 0, 0, 0, xat x 0⟩ : VReq)]) .clip from rfl)) ?_
  refine WU_does0 rfl rfl rfl rfl (fun _ => does_append_drawn (lO tG rfl) rfl (lO tG rfl) (lO tG rfl) rfl rfl (by exact ⟨_, rfl⟩) (by exact ⟨rfl, rfl, flatMap_len _ 6 (fun _ => rfl) _, okC_flat _ (fun _ => rfl) _⟩) (by exact flatMap_len _ 6 (fun _ => rfl) _) (by ((simp_all; omega))) (by ((simp_all; omega))) (by exact flatL_app (flatL_map' (fun x => by simp) _) (flatL_map' (fun x => by simp) _))) ?_
  refine Xa 84 rfl (sq_append cReq) ?_
  iterate 2 refine z3 ?_
  refine WU_ev3 tG rfl rfl rfl rfl rfl trivial ?_
  refine WU_nil ?_
  refine zu2 ?_
  refine Wq ?_
  refine leafM rfl rfl ?_ ?_
  ·rw [pCancel, if_neg h5]; rfl
  ·rw [pCancel, if_neg h5]; rfl
theorem d_post (v : VVm) (x : List Int) (hr : v.req.length ≤ 100000) (hd : v.hand.length ≤ 1000000) (hx : XOk 3 x) : ∀ (H : List Ob) (i : Nat), H[i]? = some (.cells (cVm v) 36) → HC Tryz.prog 335 (.ptr i 0 :: [sq cInt x, .row [i64 1], .row [i64 3]]) H (tLv (pPost v x).2) (H.set i (.cells (cVm (pPost v x).1) 36)) := by
 have hl := hx.len
 refine mut_of_W tG (rs := [.tmp 6, .tmp 7]) Tryz.func335 rfl rfl rfl (by simp) (by simp) (by simp) (by simp) (fun B => ?_)
 refine zu2 ?_
 refine zu4 ?_
 refine Ws ?_
 refine zu2 ?_
 refine Wf rfl (by decide) ?_
 refine Ws ?_
 refine W_drawU [0, 0, 0, 0, 0, 0, 0, 0, 0, 0, 3, 0, 3, 0, 3] [0, 1, 2, 3, 4, 5, 6, 7, 8, 9, 10, 11, 12, 13, 14] mG rfl (by kernel_rfl) ?_
 refine z3 ?_
 refine Xi tG rfl rfl rfl rfl (fun _ => rfl) (by omega) (iN cInt 1 (fun _ => rfl) 0 (by (simp only [dnL] at *; omega))) ?_
 iterate 2 refine z3 ?_
 refine Xi tG rfl rfl rfl rfl (fun _ => rfl) (by omega) (iN cInt 1 (fun _ => rfl) 0 (by (simp only [dnL] at *; omega))) ?_
 iterate 2 refine z3 ?_
 refine Xi tG rfl rfl rfl rfl (fun _ => rfl) (by omega) (iN cInt 1 (fun _ => rfl) 0 (by (simp only [dnL] at *; omega))) ?_
 iterate 2 refine z3 ?_
 refine WU_ev3 tG rfl rfl rfl rfl rfl trivial ?_
 refine z3 ?_
 refine WU_ev3 tG rfl rfl rfl rfl rfl trivial ?_
 refine z3 ?_
 refine WU_ev3 tG rfl rfl rfl rfl rfl trivial ?_
 refine WU_nil ?_
 refine Ws ?_
 refine W_drawU [0, 1, 0, 0, 0, 1, 0, 0, 0, 1, 0, 0, 0, 0, 0, 1, 0, 0, 0, 0, 1, 0, 0] [0, 1, 2, 3, 4, 5, 6, 7, 8, 9, 10, 11, 12, 13, 14, 15, 16, 17, 18, 19, 20, 21, 22] mG rfl (by kernel_rfl) ?_
 refine z3 ?_
 refine z5 ?_
 iterate 2 refine z3 ?_
 refine WU_split 33 rfl (fun hg1 => ?_) (fun hg1 => ?_)
 ·have h1 : xat x 1 < 0 := oT hg1
  have hb : pBounds v x := .inl h1
  iterate 8 refine z7 ?_
  iterate 2 refine z3 ?_
  iterate 3 refine z7 ?_
  iterate 2 refine z3 ?_
  iterate 3 refine z7 ?_
  refine z3 ?_
  refine WU_nil ?_
  refine Wt rfl rfl ?_
  refine zu2 ?_
  refine Wq ?_
  refine leafM rfl rfl ?_ ?_
  ·rw [pPost, if_pos hb]; rfl
  ·rw [pPost, if_pos hb]; rfl
 ·have h1 : ¬ xat x 1 < 0 := oF hg1
  refine z3 ?_
  refine z5 ?_
  iterate 3 refine z3 ?_
  refine z5 ?_
  iterate 4 refine z3 ?_
  refine WU_split 43 rfl (fun hg2 => ?_) (fun hg2 => ?_)
  ·have h2 : (v.hand.length : Int) ≤ xat x 1 := oT hg2
   have hb : pBounds v x := .inr (.inl h2)
   iterate 3 refine z7 ?_
   iterate 2 refine z3 ?_
   iterate 3 refine z7 ?_
   refine z3 ?_
   refine WU_nil ?_
   refine Wt rfl rfl ?_
   refine zu2 ?_
   refine Wq ?_
   refine leafM rfl rfl ?_ ?_
   ·rw [pPost, if_pos hb]; rfl
   ·rw [pPost, if_pos hb]; rfl
  ·have h2 : ¬ (v.hand.length : Int) ≤ xat x 1 := oF hg2
   refine z3 ?_
   refine z5 ?_
   iterate 3 refine z3 ?_
   refine WU_split 48 rfl (fun hg3 => ?_) (fun hg3 => ?_)
   ·have h3 : xat x 2 < 0 := oT hg3
    have hb : pBounds v x := .inr (.inr (.inl h3))
    iterate 3 refine z7 ?_
    refine z3 ?_
    refine WU_nil ?_
    refine Wt rfl rfl ?_
    refine zu2 ?_
    refine Wq ?_
    refine leafM rfl rfl ?_ ?_
    ·rw [pPost, if_pos hb]; rfl
    ·rw [pPost, if_pos hb]; rfl
   ·have h3 : ¬ xat x 2 < 0 := oF hg3
    refine z3 ?_
    refine z5 ?_
    iterate 2 refine z3 ?_
    refine WU_nil ?_
    refine Wi rfl (fun hi2 => ?_) (fun hi2 => ?_)
    ·have h4 : 4 ≤ xat x 2 := oT hi2
     have hb : pBounds v x := .inr (.inr (.inr (by omega)))
     refine zu2 ?_
     refine Wq ?_
     refine leafM rfl rfl ?_ ?_
     ·rw [pPost, if_pos hb]; rfl
     ·rw [pPost, if_pos hb]; rfl
    ·have h4 : ¬ 4 ≤ xat x 2 := oF hi2
     have hb : ¬ pBounds v x := by rintro (h | h | h | h) <;> omega
     refine Wj ?_
     refine zu3 ?_
     refine Ws ?_
     refine zp2 ?_
     refine WO_false 56 rfl (by decide) ?_
     iterate 10 refine z6 ?_
     refine zs1 ?_
     refine Wf rfl rfl ?_
     refine Wj ?_
     refine Ws ?_
     refine zp5 ?_
     refine zs1 ?_
     refine Wi rfl (fun hi3 => ?_) (fun hi3 => ?_)
     ·have h5 : 16 ≤ (v.req.length : Int) := oT hi3
      refine zu2 ?_
      refine Wq ?_
      refine leafM rfl rfl ?_ ?_
      ·rw [pPost, if_neg hb, if_pos h5]; rfl
      ·rw [pPost, if_neg hb, if_pos h5]; rfl
     ·have h5 : ¬ 16 ≤ (v.req.length : Int) := oF hi3
      refine Wj ?_
      refine Ws ?_
      refine zu2 ?_
      refine Wt rfl (by decide) ?_
      refine Ws ?_
      refine W_drawU [0, 0, 0, 0, 1, 0, 1, 0, 0, 0, 0, 3] [0, 1, 2, 3, 4, 5, 6, 7, 8, 9, 10, 11] mG rfl (by kernel_rfl) ?_
      iterate 4 refine z3 ?_
      refine z5 ?_
      refine Xc rfl rfl rfl rfl (fun _ => dC rfl Tryz.func336 rfl rfl ((clip_reqs _ (by omega)) _)) ?_
      refine z5 ?_
      refine z3 ?_
      refine Xa 83 rfl ((show PV.seq 1 _ .clip = .seq (List.length [(⟨1, xat x 0, xat x 1, xat x 2, 0, 0⟩ : VReq)]) (List.flatMap cReq [(⟨1, xat x 0, xat x 1, xat x 2, 0, 0⟩ : VReq)]) .clip from rfl)) ?_
      refine WU_does0 rfl rfl rfl rfl (fun _ => does_append_drawn (lO tG rfl) rfl (lO tG rfl) (lO tG rfl) rfl rfl (by exact ⟨_, rfl⟩) (by exact ⟨rfl, rfl, flatMap_len _ 6 (fun _ => rfl) _, okC_flat _ (fun _ => rfl) _⟩) (by exact flatMap_len _ 6 (fun _ => rfl) _) (by ((simp_all; omega))) (by ((simp_all; omega))) (by exact flatL_app (flatL_map' (fun x => by simp) _) (flatL_map' (fun x => by simp) _))) ?_
      refine Xa 84 rfl (sq_append cReq) ?_
      iterate 2 refine z3 ?_
      refine WU_ev3 tG rfl rfl rfl rfl rfl trivial ?_
      refine WU_nil ?_
      refine zu2 ?_
      refine Wq ?_
      refine leafM rfl rfl ?_ ?_
      ·rw [pPost, if_neg hb, if_neg h5]; rfl
      ·rw [pPost, if_neg hb, if_neg h5]; rfl
theorem d_timer (k : Int) (hk : k ≠ 4) (v : VVm) (x : List Int) (hr : v.req.length ≤ 100000) (hd : v.hand.length ≤ 1000000) (hx : XOk 4 x) : ∀ (H : List Ob) (i : Nat), H[i]? = some (.cells (cVm v) 36) → HC Tryz.prog 335 (.ptr i 0 :: [sq cInt x, .row [i64 k], .row [i64 4]]) H (tLv (pTimer k v x).2) (H.set i (.cells (cVm (pTimer k v x).1) 36)) := by
 have hl := hx.len
 refine mut_of_W tG (rs := [.tmp 6, .tmp 7]) Tryz.func335 rfl rfl rfl (by simp) (by simp) (by simp) (by simp) (fun B => ?_)
 refine zu2 ?_
 refine zu4 ?_
 refine Ws ?_
 refine zu2 ?_
 refine Wf rfl (by exact beq_eq_false_iff_ne.2 hk) ?_
 refine Ws ?_
 refine V.W_drawU [0, 0, 0, 0, 0, 0, 0, 0, 0, 0, 3, 0, 3, 0, 3] [0, 1, 2, 3, 4, 5, 6, 7, 8, 9, 10, 11, 12, 13, 14] mG rfl (by kernel_rfl) ?_
 refine V.z3 ?_
 refine V.Xi tG rfl rfl rfl rfl (fun _ => rfl) (by omega) (iN cInt 1 (fun _ => rfl) 0 (by (simp only [dnL] at *; omega))) ?_
 iterate 2 refine V.z3 ?_
 refine V.Xi tG rfl rfl rfl rfl (fun _ => rfl) (by omega) (iN cInt 1 (fun _ => rfl) 0 (by (simp only [dnL] at *; omega))) ?_
 iterate 2 refine V.z3 ?_
 refine V.Xi tG rfl rfl rfl rfl (fun _ => rfl) (by omega) (iN cInt 1 (fun _ => rfl) 0 (by (simp only [dnL] at *; omega))) ?_
 iterate 2 refine V.z3 ?_
 refine V.WU_ev3 tG rfl rfl rfl rfl rfl trivial ?_
 refine V.z3 ?_
 refine V.WU_ev3 tG rfl rfl rfl rfl rfl trivial ?_
 refine V.z3 ?_
 refine V.WU_ev3 tG rfl rfl rfl rfl rfl trivial ?_
 refine V.WU_nil ?_
 refine Ws ?_
 refine V.W_drawU [0, 1, 0, 0, 0, 1, 0, 0, 0, 1, 0, 0, 0, 0, 0, 1, 0, 0, 0, 0, 1, 0, 0] [0, 1, 2, 3, 4, 5, 6, 7, 8, 9, 10, 11, 12, 13, 14, 15, 16, 17, 18, 19, 20, 21, 22] mG rfl (by kernel_rfl) ?_
 refine V.z3 ?_
 refine V.z5 ?_
 iterate 2 refine V.z3 ?_
 refine V.WU_split 33 rfl (fun hg1 => ?_) (fun hg1 => ?_)
 ·have h1 : xat x 1 < 0 := oT hg1
  have hb : pBounds v x := .inl h1
  iterate 8 refine V.z7 ?_
  iterate 2 refine V.z3 ?_
  iterate 3 refine V.z7 ?_
  iterate 2 refine V.z3 ?_
  iterate 3 refine V.z7 ?_
  refine V.z3 ?_
  refine V.WU_nil ?_
  refine Wt rfl rfl ?_
  refine zu2 ?_
  refine Wq ?_
  refine leafM rfl rfl ?_ ?_
  ·rw [pTimer, if_pos hb]; rfl
  ·rw [pTimer, if_pos hb]; rfl
 ·have h1 : ¬ xat x 1 < 0 := oF hg1
  refine V.z3 ?_
  refine V.z5 ?_
  iterate 3 refine V.z3 ?_
  refine V.z5 ?_
  iterate 4 refine V.z3 ?_
  refine V.WU_split 43 rfl (fun hg2 => ?_) (fun hg2 => ?_)
  ·have h2 : (v.hand.length : Int) ≤ xat x 1 := oT hg2
   have hb : pBounds v x := .inr (.inl h2)
   iterate 3 refine V.z7 ?_
   iterate 2 refine V.z3 ?_
   iterate 3 refine V.z7 ?_
   refine V.z3 ?_
   refine V.WU_nil ?_
   refine Wt rfl rfl ?_
   refine zu2 ?_
   refine Wq ?_
   refine leafM rfl rfl ?_ ?_
   ·rw [pTimer, if_pos hb]; rfl
   ·rw [pTimer, if_pos hb]; rfl
  ·have h2 : ¬ (v.hand.length : Int) ≤ xat x 1 := oF hg2
   refine V.z3 ?_
   refine V.z5 ?_
   iterate 3 refine V.z3 ?_
   refine V.WU_split 48 rfl (fun hg3 => ?_) (fun hg3 => ?_)
   ·have h3 : xat x 2 < 0 := oT hg3
    have hb : pBounds v x := .inr (.inr (.inl h3))
    iterate 3 refine V.z7 ?_
    refine V.z3 ?_
    refine V.WU_nil ?_
    refine Wt rfl rfl ?_
    refine zu2 ?_
    refine Wq ?_
    refine leafM rfl rfl ?_ ?_
    ·rw [pTimer, if_pos hb]; rfl
    ·rw [pTimer, if_pos hb]; rfl
   ·have h3 : ¬ xat x 2 < 0 := oF hg3
    refine V.z3 ?_
    refine V.z5 ?_
    iterate 2 refine V.z3 ?_
    refine V.WU_nil ?_
    refine Wi rfl (fun hi2 => ?_) (fun hi2 => ?_)
    ·have h4 : 4 ≤ xat x 2 := oT hi2
     have hb : pBounds v x := .inr (.inr (.inr (by omega)))
     refine zu2 ?_
     refine Wq ?_
     refine leafM rfl rfl ?_ ?_
     ·rw [pTimer, if_pos hb]; rfl
     ·rw [pTimer, if_pos hb]; rfl
    ·have h4 : ¬ 4 ≤ xat x 2 := oF hi2
     have hb : ¬ pBounds v x := by rintro (h | h | h | h) <;> omega
     refine Wj ?_
     refine zu3 ?_
     refine Ws ?_
     refine zp2 ?_
     refine WO_true 56 rfl (by decide) ?_
     refine z1 ?_
     refine Wv tG rfl rfl rfl (by omega) (iN cInt 1 (fun _ => rfl) 0 (by (simp only [dnL] at *; omega))) ?_
     refine zy3 ?_
     refine Wb 61 rfl (fun hg5 => ?_) (fun hg5 => ?_)
     ·have h6 : xat x 3 < 1 := oT hg5
      have hq : xat x 3 < 1 ∨ 4294967295 < xat x 3 := .inl h6
      iterate 4 refine z6 ?_
      refine zs2 ?_
      refine Wt rfl rfl ?_
      refine zu2 ?_
      refine Wq ?_
      refine leafM rfl rfl ?_ ?_
      ·rw [pTimer, if_neg hb, if_pos hq]; rfl
      ·rw [pTimer, if_neg hb, if_pos hq]; rfl
     ·have h6 : ¬ xat x 3 < 1 := oF hg5
      refine z1 ?_
      refine Wv tG rfl rfl rfl (by omega) (iN cInt 1 (fun _ => rfl) 0 (by (simp only [dnL] at *; omega))) ?_
      refine zs4 ?_
      refine Wi rfl (fun hi3 => ?_) (fun hi3 => ?_)
      ·have h7 : 4294967296 ≤ xat x 3 := oT hi3
       have hq : xat x 3 < 1 ∨ 4294967295 < xat x 3 := .inr (by omega)
       refine zu2 ?_
       refine Wq ?_
       refine leafM rfl rfl ?_ ?_
       ·rw [pTimer, if_neg hb, if_pos hq]; rfl
       ·rw [pTimer, if_neg hb, if_pos hq]; rfl
      ·have h7 : ¬ 4294967296 ≤ xat x 3 := oF hi3
       have hq : ¬ (xat x 3 < 1 ∨ 4294967295 < xat x 3) := by omega
       refine Wj ?_
       refine Ws ?_
       refine zp5 ?_
       refine zs1 ?_
       refine Wi rfl (fun hi4 => ?_) (fun hi4 => ?_)
       ·have h5 : 16 ≤ (v.req.length : Int) := oT hi4
        refine zu2 ?_
        refine Wq ?_
        refine leafM rfl rfl ?_ ?_
        ·rw [pTimer, if_neg hb, if_neg hq, if_pos h5]; rfl
        ·rw [pTimer, if_neg hb, if_neg hq, if_pos h5]; rfl
       ·have h5 : ¬ 16 ≤ (v.req.length : Int) := oF hi4
        refine Wj ?_
        refine Ws ?_
        refine zu2 ?_
        refine Wf rfl (by decide) ?_
        refine Wj ?_
        refine Ws ?_
        refine zp5 ?_
        refine z1 ?_
        refine Wb 92 rfl (fun hg6 => ?_) (fun hg6 => ?_)
        ·have h8 : v.free = 0 := beq_iff_eq.1 hg6
         have hw : v.free = 0 ∨ v.next = 4611686018427387904 := .inl h8
         iterate 5 refine z6 ?_
         refine zs1 ?_
         refine Wt rfl rfl ?_
         refine zu2 ?_
         refine Wq ?_
         refine leafM rfl rfl ?_ ?_
         ·rw [pTimer, if_neg hb, if_neg hq, if_neg h5, if_pos hw]; rfl
         ·rw [pTimer, if_neg hb, if_neg hq, if_neg h5, if_pos hw]; rfl
        ·have h8 : ¬ v.free = 0 := beq_eq_false_iff_ne.1 hg6
         refine zy5 ?_
         refine zs1 ?_
         refine Wi rfl (fun hi6 => ?_) (fun hi6 => ?_)
         ·have h9 : v.next = 4611686018427387904 := beq_iff_eq.1 hi6
          have hw : v.free = 0 ∨ v.next = 4611686018427387904 := .inr h9
          refine zu2 ?_
          refine Wq ?_
          refine leafM rfl rfl ?_ ?_
          ·rw [pTimer, if_neg hb, if_neg hq, if_neg h5, if_pos hw]; rfl
          ·rw [pTimer, if_neg hb, if_neg hq, if_neg h5, if_pos hw]; rfl
         ·have h9 : ¬ v.next = 4611686018427387904 := beq_eq_false_iff_ne.1 hi6
          have hw : ¬ (v.free = 0 ∨ v.next = 4611686018427387904) := by rintro (h | h) <;> contradiction
          refine Wj ?_
          refine Ws ?_
          refine V.W_drawU [0, 0, 0, 0, 0, 0, 4, 0, 7, 0, 7] [0, 1, 2, 3, 4, 5, 6, 7, 8, 9, 10] mG rfl (by kernel_rfl) ?_
          refine V.z3 ?_
          refine V.Xi tG rfl rfl rfl rfl (fun _ => rfl) (by omega) (iN cInt 1 (fun _ => rfl) 0 (by (simp only [dnL] at *; omega))) ?_
          iterate 4 refine V.z3 ?_
          refine V.WU_rd 0 rfl rfl rfl rfl rfl (fun H2 h2 => does_load_ptr (lO tG rfl) rfl rfl h2 rfl) ?_
          refine V.z3 ?_
          refine V.WU_wr 1 tG rfl rfl rfl rfl rfl trivial rfl ?_
          refine V.z3 ?_
          refine V.WU_wr 1 tG rfl rfl rfl rfl rfl trivial rfl ?_
          refine V.WU_nil ?_
          refine Ws ?_
          refine V.W_drawU [0, 0, 0, 0, 1, 0, 1, 0, 0, 0, 0, 3] [0, 1, 2, 3, 4, 5, 6, 7, 8, 9, 10, 11] mG rfl (by kernel_rfl) ?_
          iterate 4 refine V.z3 ?_
          refine V.z5 ?_
          refine V.Xc rfl rfl rfl rfl (fun _ => dC rfl Tryz.func336 rfl rfl ((clip_reqs _ (by omega)) _)) ?_
          refine V.z5 ?_
          refine V.z3 ?_
          refine V.Xa 115 rfl ((show PV.seq 1 _ .clip = .seq (List.length [(⟨k, xat x 0, xat x 1, xat x 2, xat x 3, v.next⟩ : VReq)]) (List.flatMap cReq [(⟨k, xat x 0, xat x 1, xat x 2, xat x 3, v.next⟩ : VReq)]) .clip from rfl)) ?_
          refine V.WU_does0 rfl rfl rfl rfl (fun _ => does_append_drawn (lO tG rfl) rfl (lO tG rfl) (lO tG rfl) rfl rfl (by exact ⟨_, rfl⟩) (by exact ⟨rfl, rfl, flatMap_len _ 6 (fun _ => rfl) _, okC_flat _ (fun _ => rfl) _⟩) (by exact flatMap_len _ 6 (fun _ => rfl) _) (by ((simp_all; omega))) (by ((simp_all; omega))) (by exact flatL_app (flatL_map' (fun x => by simp) _) (flatL_map' (fun x => by simp) _))) ?_
          refine V.Xa 116 rfl (sq_append cReq) ?_
          iterate 2 refine V.z3 ?_
          refine V.WU_ev3 tG rfl rfl rfl rfl rfl trivial ?_
          refine V.WU_nil ?_
          refine zp5 ?_
          refine zs3 ?_
          refine zp5 ?_
          refine zs3 ?_
          refine zp3 ?_
          refine Wa 135 rfl (bsL cInt [_] rfl rfl) ?_
          refine Wc rfl rfl (dC rfl Tryz.func152 rfl rfl ((prim_told [v.next]) _)) ?_
          refine zs4 ?_
          refine Wq ?_
          refine leafM rfl rfl ?_ ?_
          ·rw [pTimer, if_neg hb, if_neg hq, if_neg h5, if_neg hw]; rfl
          ·rw [pTimer, if_neg hb, if_neg hq, if_neg h5, if_neg hw]; rfl
end Go.Proofs.YtobhnjnffnbbkaaGreatDoor
namespace Go.Proofs.YtobhnjnffnbbkaaGreatDoor
open Go.RowKit
set_option maxRecDepth 100000
set_option maxHeartbeats 4000000
def rkK : List MKey := [.s [47, 77, 79, 68], .s [42, 47, 77, 79, 68], .s [42, 47], .s [85, 77, 42], .s [77, 42], .s [85, 77, 47, 77, 79, 68], .s [83, 77, 47, 82, 69, 77], .s [70, 77, 47, 77, 79, 68], .s [83, 62, 68], .s [87, 73, 84, 72, 73, 78]]
def rkV : List PV := [deedP 2 186 [.row [fnP 195 capA]], deedP 3 186 [.row [fnP 196 capAB]], deedP 3 186 [.row [fnP 197 capB]], deedP 2 186 [.row [fnP 198 []]], deedP 2 186 [.row [fnP 200 []]], deedP 3 186 [.row [fnP 201 capA]], deedP 3 186 [.row [fnP 203 capA]], deedP 3 186 [.row [fnP 205 capA]], deedP 1 186 [.row [fnP 206 []]], deedP 3 186 [.row [fnP 208 []]]]
theorem flat_rk : Flat (.smap rkK rkV) := by
 unfold Flat rkV
 simp
theorem prim_reckons : PureC Tryz.prog 153 [] (.smap rkK rkV) := by
 refine pW tG (rs := [.tmp 0]) Tryz.func153 rfl rfl rfl (by simp; done) (by exact flat_rk) (fun B => ?_)
 refine zu1 ?_
 refine zp2 ?_
 refine WO_freezeP 1 _ rfl rfl rfl ?_
 refine Wn ?_
 refine zp2 ?_
 refine WO_freezeP 2 _ rfl rfl rfl ?_
 refine z0 ?_
 refine Wd rfl rfl (does_makeMap rfl) ?_
 refine z1 ?_
 refine Wc rfl rfl (dC rfl Tryz.func147 rfl rfl ((mk_pure 2 195 capA (by simp)) _)) ?_
 refine Wd rfl rfl (dI (e := 169) (key := .s [47, 77, 79, 68]) (by kernel_rfl) rfl rfl rfl rfl (by kernel_rfl)) ?_
 refine z1 ?_
 refine Wc rfl rfl (dC rfl Tryz.func147 rfl rfl ((mk_pure 3 196 capAB (by simp)) _)) ?_
 refine Wd rfl rfl (dI (e := 169) (key := .s [42, 47, 77, 79, 68]) (by kernel_rfl) rfl rfl rfl rfl (by kernel_rfl)) ?_
 refine z1 ?_
 refine Wc rfl rfl (dC rfl Tryz.func147 rfl rfl ((mk_pure 3 197 capB (by simp)) _)) ?_
 refine Wd rfl rfl (dI (e := 169) (key := .s [42, 47]) (by kernel_rfl) rfl rfl rfl rfl (by kernel_rfl)) ?_
 refine Wc rfl rfl (dC rfl Tryz.func147 rfl rfl ((mk_pure 2 198 [] (by simp)) _)) ?_
 refine Wd rfl rfl (dI (e := 169) (key := .s [85, 77, 42]) (by kernel_rfl) rfl rfl rfl rfl (by kernel_rfl)) ?_
 refine Wc rfl rfl (dC rfl Tryz.func147 rfl rfl ((mk_pure 2 200 [] (by simp)) _)) ?_
 refine Wd rfl rfl (dI (e := 169) (key := .s [77, 42]) (by kernel_rfl) rfl rfl rfl rfl (by kernel_rfl)) ?_
 refine z1 ?_
 refine Wc rfl rfl (dC rfl Tryz.func147 rfl rfl ((mk_pure 3 201 capA (by simp)) _)) ?_
 refine Wd rfl rfl (dI (e := 169) (key := .s [85, 77, 47, 77, 79, 68]) (by kernel_rfl) rfl rfl rfl rfl (by kernel_rfl)) ?_
 refine z1 ?_
 refine Wc rfl rfl (dC rfl Tryz.func147 rfl rfl ((mk_pure 3 203 capA (by simp)) _)) ?_
 refine Wd rfl rfl (dI (e := 169) (key := .s [83, 77, 47, 82, 69, 77]) (by kernel_rfl) rfl rfl rfl rfl (by kernel_rfl)) ?_
 refine z1 ?_
 refine Wc rfl rfl (dC rfl Tryz.func147 rfl rfl ((mk_pure 3 205 capA (by simp)) _)) ?_
 refine Wd rfl rfl (dI (e := 169) (key := .s [70, 77, 47, 77, 79, 68]) (by kernel_rfl) rfl rfl rfl rfl (by kernel_rfl)) ?_
 refine Wc rfl rfl (dC rfl Tryz.func147 rfl rfl ((mk_pure 1 206 [] (by simp)) _)) ?_
 refine Wd rfl rfl (dI (e := 169) (key := .s [83, 62, 68]) (by kernel_rfl) rfl rfl rfl rfl (by kernel_rfl)) ?_
 refine Wc rfl rfl (dC rfl Tryz.func147 rfl rfl ((mk_pure 3 208 [] (by simp)) _)) ?_
 refine Wd rfl rfl (dI (e := 169) (key := .s [87, 73, 84, 72, 73, 78]) (by kernel_rfl) rfl rfl rfl rfl (by kernel_rfl)) ?_
 refine z1 ?_
 refine WO_freezeM 20 _ rfl rfl rfl ?_
 refine zs1 ?_
 refine zR ?_
 rfl
def meK : List MKey := [.s [64], .s [67, 64], .s [33], .s [67, 33], .s [43, 33], .s [50, 64], .s [50, 33], .s [70, 73, 76, 76], .s [77, 79, 86, 69], .s [67, 79, 85, 78, 84]]
def meV : List PV := [deedP 1 313 [.row [fnP 60 []]], deedP 1 313 [.row [fnP 211 []]], deedP 2 314 [.row [fnP 213 []]], deedP 2 314 [.row [fnP 215 []]], deedP 2 314 [.row [fnP 217 []]], deedP 1 218 [], deedP 3 314 [.row [fnP 219 []]], deedP 3 314 [.row [fnP 220 []]], deedP 3 314 [.row [fnP 222 []]], deedP 1 224 []]
theorem flat_me : Flat (.smap meK meV) := by
 unfold Flat meV
 simp
theorem prim_memories : PureC Tryz.prog 154 [] (.smap meK meV) := by
 refine pW tG (rs := [.tmp 0]) Tryz.func154 rfl rfl rfl (by simp; done) (by exact flat_me) (fun B => ?_)
 refine zu1 ?_
 refine z8 ?_
 refine Wd rfl rfl (does_makeMap rfl) ?_
 refine Wc rfl rfl (dC rfl Tryz.func210 rfl rfl ((mk_fetches 60 [] (by simp)) _)) ?_
 refine Wd rfl rfl (dI (e := 169) (key := .s [64]) (by kernel_rfl) rfl rfl rfl rfl (by kernel_rfl)) ?_
 refine Wc rfl rfl (dC rfl Tryz.func210 rfl rfl ((mk_fetches 211 [] (by simp)) _)) ?_
 refine Wd rfl rfl (dI (e := 169) (key := .s [67, 64]) (by kernel_rfl) rfl rfl rfl rfl (by kernel_rfl)) ?_
 refine Wc rfl rfl (dC rfl Tryz.func212 rfl rfl ((mk_changes 2 213 [] (by simp)) _)) ?_
 refine Wd rfl rfl (dI (e := 169) (key := .s [33]) (by kernel_rfl) rfl rfl rfl rfl (by kernel_rfl)) ?_
 refine Wc rfl rfl (dC rfl Tryz.func212 rfl rfl ((mk_changes 2 215 [] (by simp)) _)) ?_
 refine Wd rfl rfl (dI (e := 169) (key := .s [67, 33]) (by kernel_rfl) rfl rfl rfl rfl (by kernel_rfl)) ?_
 refine Wc rfl rfl (dC rfl Tryz.func212 rfl rfl ((mk_changes 2 217 [] (by simp)) _)) ?_
 refine Wd rfl rfl (dI (e := 169) (key := .s [43, 33]) (by kernel_rfl) rfl rfl rfl rfl (by kernel_rfl)) ?_
 refine z1 ?_
 refine Wd rfl rfl (dI (e := 169) (key := .s [50, 64]) (by kernel_rfl) rfl rfl rfl rfl (by kernel_rfl)) ?_
 refine Wc rfl rfl (dC rfl Tryz.func212 rfl rfl ((mk_changes 3 219 [] (by simp)) _)) ?_
 refine Wd rfl rfl (dI (e := 169) (key := .s [50, 33]) (by kernel_rfl) rfl rfl rfl rfl (by kernel_rfl)) ?_
 refine Wc rfl rfl (dC rfl Tryz.func212 rfl rfl ((mk_changes 3 220 [] (by simp)) _)) ?_
 refine Wd rfl rfl (dI (e := 169) (key := .s [70, 73, 76, 76]) (by kernel_rfl) rfl rfl rfl rfl (by kernel_rfl)) ?_
 refine Wc rfl rfl (dC rfl Tryz.func212 rfl rfl ((mk_changes 3 222 [] (by simp)) _)) ?_
 refine Wd rfl rfl (dI (e := 169) (key := .s [77, 79, 86, 69]) (by kernel_rfl) rfl rfl rfl rfl (by kernel_rfl)) ?_
 refine z1 ?_
 refine Wd rfl rfl (dI (e := 169) (key := .s [67, 79, 85, 78, 84]) (by kernel_rfl) rfl rfl rfl rfl (by kernel_rfl)) ?_
 refine z1 ?_
 refine WO_freezeM 12 _ rfl rfl rfl ?_
 refine zs1 ?_
 refine zR ?_
 rfl
def spK : List MKey := [.s [72, 69, 82, 69], .s [65, 76, 76, 79, 84], .s [44], .s [67, 44], .s [65, 76, 73, 71, 78], .s [66, 65, 83, 69], .s [83, 84, 65, 84, 69], .s [84, 82, 85, 69], .s [70, 65, 76, 83, 69], .s [66, 76], .s [68, 69, 67, 73, 77, 65, 76], .s [72, 69, 88]]
def spV : List PV := [deedP 0 317 [.row [fnP 231 []]], deedP 1 318 [.row [fnP 233 []]], deedP 1 318 [.row [fnP 236 []]], deedP 1 318 [.row [fnP 238 []]], deedP 0 318 [.row [fnP 240 []]], deedP 0 317 [.row [fnP 230 [.row [i64 (0)]]]], deedP 0 317 [.row [fnP 230 [.row [i64 (8)]]]], deedP 0 317 [.row [fnP 230 [.row [i64 (-1)]]]], deedP 0 317 [.row [fnP 230 [.row [i64 (0)]]]], deedP 0 317 [.row [fnP 230 [.row [i64 (32)]]]], deedP 0 226 [.row [i64 10]], deedP 0 226 [.row [i64 16]]]
theorem flat_sp : Flat (.smap spK spV) := by
 unfold Flat spV
 simp
theorem prim_spaces : PureC Tryz.prog 155 [] (.smap spK spV) := by
 refine pW tG (rs := [.tmp 0]) Tryz.func155 rfl rfl rfl (by simp; done) (by exact flat_sp) (fun B => ?_)
 refine zu1 ?_
 refine zu1 ?_
 refine zu1 ?_
 refine z8 ?_
 refine Wd rfl rfl (does_makeMap rfl) ?_
 refine Wc rfl rfl (dC rfl Tryz.func229 rfl rfl ((mk_shown 231 [] (by simp)) _)) ?_
 refine Wd rfl rfl (dI (e := 169) (key := .s [72, 69, 82, 69]) (by kernel_rfl) rfl rfl rfl rfl (by kernel_rfl)) ?_
 refine Wc rfl rfl (dC rfl Tryz.func232 rfl rfl ((mk_lays 1 233 [] (by simp)) _)) ?_
 refine Wd rfl rfl (dI (e := 169) (key := .s [65, 76, 76, 79, 84]) (by kernel_rfl) rfl rfl rfl rfl (by kernel_rfl)) ?_
 refine Wc rfl rfl (dC rfl Tryz.func232 rfl rfl ((mk_lays 1 236 [] (by simp)) _)) ?_
 refine Wd rfl rfl (dI (e := 169) (key := .s [44]) (by kernel_rfl) rfl rfl rfl rfl (by kernel_rfl)) ?_
 refine Wc rfl rfl (dC rfl Tryz.func232 rfl rfl ((mk_lays 1 238 [] (by simp)) _)) ?_
 refine Wd rfl rfl (dI (e := 169) (key := .s [67, 44]) (by kernel_rfl) rfl rfl rfl rfl (by kernel_rfl)) ?_
 refine Wc rfl rfl (dC rfl Tryz.func232 rfl rfl ((mk_lays 0 240 [] (by simp)) _)) ?_
 refine Wd rfl rfl (dI (e := 169) (key := .s [65, 76, 73, 71, 78]) (by kernel_rfl) rfl rfl rfl rfl (by kernel_rfl)) ?_
 refine z1 ?_
 refine Wc rfl rfl (doesCWv rfl rfl Tryz.func228 rfl rfl (mk_always (0) _)) ?_
 refine Wd rfl rfl (dI (e := 169) (key := .s [66, 65, 83, 69]) (by kernel_rfl) rfl rfl rfl rfl (by kernel_rfl)) ?_
 refine z1 ?_
 refine Wc rfl rfl (doesCWv rfl rfl Tryz.func228 rfl rfl (mk_always (8) _)) ?_
 refine Wd rfl rfl (dI (e := 169) (key := .s [83, 84, 65, 84, 69]) (by kernel_rfl) rfl rfl rfl rfl (by kernel_rfl)) ?_
 refine z1 ?_
 refine Wc rfl rfl (doesCWv rfl rfl Tryz.func228 rfl rfl (mk_always (-1) _)) ?_
 refine Wd rfl rfl (dI (e := 169) (key := .s [84, 82, 85, 69]) (by kernel_rfl) rfl rfl rfl rfl (by kernel_rfl)) ?_
 refine z1 ?_
 refine Wc rfl rfl (doesCWv rfl rfl Tryz.func228 rfl rfl (mk_always (0) _)) ?_
 refine Wd rfl rfl (dI (e := 169) (key := .s [70, 65, 76, 83, 69]) (by kernel_rfl) rfl rfl rfl rfl (by kernel_rfl)) ?_
 refine z1 ?_
 refine Wc rfl rfl (doesCWv rfl rfl Tryz.func228 rfl rfl (mk_always (32) _)) ?_
 refine Wd rfl rfl (dI (e := 169) (key := .s [66, 76]) (by kernel_rfl) rfl rfl rfl rfl (by kernel_rfl)) ?_
 refine z1 ?_
 refine Wc rfl rfl (doesCWv rfl rfl Tryz.func225 rfl rfl (mk_base 10 _)) ?_
 refine Wd rfl rfl (dI (e := 169) (key := .s [68, 69, 67, 73, 77, 65, 76]) (by kernel_rfl) rfl rfl rfl rfl (by kernel_rfl)) ?_
 refine z1 ?_
 refine Wc rfl rfl (doesCWv rfl rfl Tryz.func225 rfl rfl (mk_base 16 _)) ?_
 refine Wd rfl rfl (dI (e := 169) (key := .s [72, 69, 88]) (by kernel_rfl) rfl rfl rfl rfl (by kernel_rfl)) ?_
 refine z1 ?_
 refine WO_freezeM 23 _ rfl rfl rfl ?_
 refine zs1 ?_
 refine zR ?_
 rfl
def prK : List MKey := [.s [69, 77, 73, 84], .s [67, 82], .s [83, 80, 65, 67, 69], .s [83, 80, 65, 67, 69, 83], .s [84, 89, 80, 69], .s [46], .s [85, 46]]
def prV : List PV := [deedP 1 320 [.row [fnP 248 []]], deedP 0 320 [.row [fnP 247 [.row [str [10]]]]], deedP 0 320 [.row [fnP 247 [.row [str [32]]]]], deedP 1 320 [.row [fnP 249 []]], deedP 2 320 [.row [fnP 251 []]], deedP 1 320 [.row [fnP 244 [.row [fnP 252 []]]]], deedP 1 320 [.row [fnP 244 [.row [fnP 253 []]]]]]
theorem flat_pr : Flat (.smap prK prV) := by
 unfold Flat prV
 simp
theorem prim_prints : PureC Tryz.prog 156 [] (.smap prK prV) := by
 refine pW tG (rs := [.tmp 0]) Tryz.func156 rfl rfl rfl (by simp; done) (by exact flat_pr) (fun B => ?_)
 refine zu1 ?_
 refine zu1 ?_
 refine zu1 ?_
 refine z8 ?_
 refine Wd rfl rfl (does_makeMap rfl) ?_
 refine Wc rfl rfl (dC rfl Tryz.func243 rfl rfl ((mk_puts 1 248 [] (by simp)) _)) ?_
 refine Wd rfl rfl (dI (e := 169) (key := .s [69, 77, 73, 84]) (by kernel_rfl) rfl rfl rfl rfl (by kernel_rfl)) ?_
 refine z1 ?_
 refine Wc rfl rfl (doesCWv rfl rfl Tryz.func246 rfl rfl (mk_text [10] _)) ?_
 refine Wd rfl rfl (dI (e := 169) (key := .s [67, 82]) (by kernel_rfl) rfl rfl rfl rfl (by kernel_rfl)) ?_
 refine z1 ?_
 refine Wc rfl rfl (doesCWv rfl rfl Tryz.func246 rfl rfl (mk_text [32] _)) ?_
 refine Wd rfl rfl (dI (e := 169) (key := .s [83, 80, 65, 67, 69]) (by kernel_rfl) rfl rfl rfl rfl (by kernel_rfl)) ?_
 refine Wc rfl rfl (dC rfl Tryz.func243 rfl rfl ((mk_puts 1 249 [] (by simp)) _)) ?_
 refine Wd rfl rfl (dI (e := 169) (key := .s [83, 80, 65, 67, 69, 83]) (by kernel_rfl) rfl rfl rfl rfl (by kernel_rfl)) ?_
 refine Wc rfl rfl (dC rfl Tryz.func243 rfl rfl ((mk_puts 2 251 [] (by simp)) _)) ?_
 refine Wd rfl rfl (dI (e := 169) (key := .s [84, 89, 80, 69]) (by kernel_rfl) rfl rfl rfl rfl (by kernel_rfl)) ?_
 refine z1 ?_
 refine Wc rfl rfl (doesCWv rfl rfl Tryz.func242 rfl rfl (mk_number 252 [] (by simp) _)) ?_
 refine Wd rfl rfl (dI (e := 169) (key := .s [46]) (by kernel_rfl) rfl rfl rfl rfl (by kernel_rfl)) ?_
 refine z1 ?_
 refine Wc rfl rfl (doesCWv rfl rfl Tryz.func242 rfl rfl (mk_number 253 [] (by simp) _)) ?_
 refine Wd rfl rfl (dI (e := 169) (key := .s [85, 46]) (by kernel_rfl) rfl rfl rfl rfl (by kernel_rfl)) ?_
 refine z1 ?_
 refine WO_freezeM 15 _ rfl rfl rfl ?_
 refine zs1 ?_
 refine zR ?_
 rfl
def piK : List MKey := [.s [60, 35], .s [35], .s [35, 83], .s [72, 79, 76, 68], .s [83, 73, 71, 78], .s [35, 62]]
def piV : List PV := [deedP 0 256 [], deedP 2 258 [], deedP 2 260 [], deedP 1 255 [.row [fnP 262 []]], deedP 1 255 [.row [fnP 263 []]], deedP 2 264 []]
theorem flat_pi : Flat (.smap piK piV) := by
 unfold Flat piV
 simp
theorem prim_pics : PureC Tryz.prog 157 [] (.smap piK piV) := by
 refine pW tG (rs := [.tmp 0]) Tryz.func157 rfl rfl rfl (by simp; done) (by exact flat_pi) (fun B => ?_)
 refine zu1 ?_
 refine zu1 ?_
 refine z8 ?_
 refine Wd rfl rfl (does_makeMap rfl) ?_
 refine z1 ?_
 refine Wd rfl rfl (dI (e := 169) (key := .s [60, 35]) (by kernel_rfl) rfl rfl rfl rfl (by kernel_rfl)) ?_
 refine z1 ?_
 refine Wd rfl rfl (dI (e := 169) (key := .s [35]) (by kernel_rfl) rfl rfl rfl rfl (by kernel_rfl)) ?_
 refine z1 ?_
 refine Wd rfl rfl (dI (e := 169) (key := .s [35, 83]) (by kernel_rfl) rfl rfl rfl rfl (by kernel_rfl)) ?_
 refine z1 ?_
 refine Wc rfl rfl (doesCWv rfl rfl Tryz.func254 rfl rfl (mk_lay 262 [] (by simp) _)) ?_
 refine Wd rfl rfl (dI (e := 169) (key := .s [72, 79, 76, 68]) (by kernel_rfl) rfl rfl rfl rfl (by kernel_rfl)) ?_
 refine z1 ?_
 refine Wc rfl rfl (doesCWv rfl rfl Tryz.func254 rfl rfl (mk_lay 263 [] (by simp) _)) ?_
 refine Wd rfl rfl (dI (e := 169) (key := .s [83, 73, 71, 78]) (by kernel_rfl) rfl rfl rfl rfl (by kernel_rfl)) ?_
 refine z1 ?_
 refine Wd rfl rfl (dI (e := 169) (key := .s [35, 62]) (by kernel_rfl) rfl rfl rfl rfl (by kernel_rfl)) ?_
 refine z1 ?_
 refine WO_freezeM 11 _ rfl rfl rfl ?_
 refine zs1 ?_
 refine zR ?_
 rfl
def otK : List MKey := [.s [62, 66, 79, 68, 89], .s [65, 66, 79, 82, 84], .s [80, 79, 83, 84], .s [65, 70, 84, 69, 82], .s [69, 86, 69, 82, 89], .s [67, 65, 78, 67, 69, 76], .s [65, 82, 71], .s [83, 69, 76, 70], .s [78, 79, 87], .s [83, 69, 84, 45, 83, 84, 65, 84, 69], .s [65, 84, 45, 83, 84, 65, 84, 69], .s [71, 69, 84, 45, 83, 84, 65, 84, 69]]
def otV : List PV := [deedP 1 267 [], deedP 0 186 [.row [fnP 268 []]], deedP 3 335 [.row [i64 1], .row [i64 3]], deedP 4 335 [.row [i64 2], .row [i64 4]], deedP 4 335 [.row [i64 3], .row [i64 4]], deedP 1 335 [.row [i64 4], .row [i64 1]], deedP 0 317 [.row [fnP 270 []]], deedP 0 317 [.row [fnP 271 []]], deedP 0 317 [.row [fnP 272 []]], deedP 2 273 [], deedP 3 275 [], deedP 1 313 [.row [fnP 60 []]]]
theorem flat_ot : Flat (.smap otK otV) := by
 unfold Flat otV
 simp
theorem prim_others : PureC Tryz.prog 158 [] (.smap otK otV) := by
 refine pW tG (rs := [.tmp 0]) Tryz.func158 rfl rfl rfl (by simp; done) (by exact flat_ot) (fun B => ?_)
 refine zu1 ?_
 refine z8 ?_
 refine Wd rfl rfl (does_makeMap rfl) ?_
 refine z1 ?_
 refine Wd rfl rfl (dI (e := 169) (key := .s [62, 66, 79, 68, 89]) (by kernel_rfl) rfl rfl rfl rfl (by kernel_rfl)) ?_
 refine Wc rfl rfl (dC rfl Tryz.func147 rfl rfl ((mk_pure 0 268 [] (by simp)) _)) ?_
 refine Wd rfl rfl (dI (e := 169) (key := .s [65, 66, 79, 82, 84]) (by kernel_rfl) rfl rfl rfl rfl (by kernel_rfl)) ?_
 refine Wc rfl rfl (dC rfl Tryz.func269 rfl rfl ((mk_asks1) _)) ?_
 refine Wd rfl rfl (dI (e := 169) (key := .s [80, 79, 83, 84]) (by kernel_rfl) rfl rfl rfl rfl (by kernel_rfl)) ?_
 refine Wc rfl rfl (dC rfl Tryz.func269 rfl rfl ((mk_asks2) _)) ?_
 refine Wd rfl rfl (dI (e := 169) (key := .s [65, 70, 84, 69, 82]) (by kernel_rfl) rfl rfl rfl rfl (by kernel_rfl)) ?_
 refine Wc rfl rfl (dC rfl Tryz.func269 rfl rfl ((mk_asks3) _)) ?_
 refine Wd rfl rfl (dI (e := 169) (key := .s [69, 86, 69, 82, 89]) (by kernel_rfl) rfl rfl rfl rfl (by kernel_rfl)) ?_
 refine Wc rfl rfl (dC rfl Tryz.func269 rfl rfl ((mk_asks4) _)) ?_
 refine Wd rfl rfl (dI (e := 169) (key := .s [67, 65, 78, 67, 69, 76]) (by kernel_rfl) rfl rfl rfl rfl (by kernel_rfl)) ?_
 refine Wc rfl rfl (dC rfl Tryz.func229 rfl rfl ((mk_shown 270 [] (by simp)) _)) ?_
 refine Wd rfl rfl (dI (e := 169) (key := .s [65, 82, 71]) (by kernel_rfl) rfl rfl rfl rfl (by kernel_rfl)) ?_
 refine Wc rfl rfl (dC rfl Tryz.func229 rfl rfl ((mk_shown 271 [] (by simp)) _)) ?_
 refine Wd rfl rfl (dI (e := 169) (key := .s [83, 69, 76, 70]) (by kernel_rfl) rfl rfl rfl rfl (by kernel_rfl)) ?_
 refine Wc rfl rfl (dC rfl Tryz.func229 rfl rfl ((mk_shown 272 [] (by simp)) _)) ?_
 refine Wd rfl rfl (dI (e := 169) (key := .s [78, 79, 87]) (by kernel_rfl) rfl rfl rfl rfl (by kernel_rfl)) ?_
 refine z1 ?_
 refine Wd rfl rfl (dI (e := 169) (key := .s [83, 69, 84, 45, 83, 84, 65, 84, 69]) (by kernel_rfl) rfl rfl rfl rfl (by kernel_rfl)) ?_
 refine z1 ?_
 refine Wd rfl rfl (dI (e := 169) (key := .s [65, 84, 45, 83, 84, 65, 84, 69]) (by kernel_rfl) rfl rfl rfl rfl (by kernel_rfl)) ?_
 refine Wc rfl rfl (dC rfl Tryz.func210 rfl rfl ((mk_fetches 60 [] (by simp)) _)) ?_
 refine Wd rfl rfl (dI (e := 169) (key := .s [71, 69, 84, 45, 83, 84, 65, 84, 69]) (by kernel_rfl) rfl rfl rfl rfl (by kernel_rfl)) ?_
 refine z1 ?_
 refine WO_freezeM 14 _ rfl rfl rfl ?_
 refine zs1 ?_
 refine zR ?_
 rfl
abbrev zDeed : PV := .agg [i64 0, .val .nilFunc]
theorem found_rk (n : Int) (name : Str) (k : Int) (f : FuncId) (cap : List PV) (hn : 72 < n) (hc : FlatL cap)  (h0 : lkPV rkK rkV (.s name) zDeed = (deedP k f cap, true)) : PureC Tryz.prog 111 [i64 n, str name] (deedP k f cap) := by
 refine pW tG (rs := [.cell 4 169]) Tryz.func111 rfl rfl rfl (by simp [hc]) (by simp [hc]) (fun B => ?_)
 refine zu2 ?_
 refine Ws ?_
 refine Wl ?_
 refine zu3 ?_
 refine Wf rfl (by exact decide_eq_false (by omega)) ?_
 refine zu3 ?_
 refine Wf rfl (by exact decide_eq_false (by omega)) ?_
 refine Wj ?_
 refine Ws ?_
 refine z8 ?_
 refine Wc rfl rfl (dC rfl Tryz.func153 rfl rfl ((prim_reckons) _)) ?_
 refine Wc rfl rfl (dC rfl Tryz.func154 rfl rfl ((prim_memories) _)) ?_
 refine Wc rfl rfl (dC rfl Tryz.func155 rfl rfl ((prim_spaces) _)) ?_
 refine Wc rfl rfl (dC rfl Tryz.func156 rfl rfl ((prim_prints) _)) ?_
 refine Wc rfl rfl (dC rfl Tryz.func157 rfl rfl ((prim_pics) _)) ?_
 refine zs2 ?_
 refine Wl ?_
 refine W_rounds 7 ?_
 show W _ _ _ _ _ _ _
 refine zu1 ?_
 refine Ws ?_
 refine Wt rfl (by rfl) ?_
 refine Wj ?_
 refine Ws ?_
 refine Wl ?_
 refine z8 ?_
 refine z2 ?_ (q := (by decide))
 refine zs1 ?_
 refine zp2 ?_
 refine Wd rfl rfl (does_lookup (b := true) (e := 169) (key := .s name) (by kernel_rfl) (lO tG rfl) (by kernel_rfl) rfl rfl rfl rfl (by kernel_rfl) ((by exact h0))) ?_
 refine zy5 ?_
 refine zs1 ?_
 refine zu1 ?_
 refine Wt rfl (by rfl) ?_
 refine zu2 ?_
 refine zR ?_
 rfl
theorem found_me (n : Int) (name : Str) (k : Int) (f : FuncId) (cap : List PV) (hn : 72 < n) (hc : FlatL cap) (h0 : lkPV rkK rkV (.s name) zDeed = (zDeed, false)) (h1 : lkPV meK meV (.s name) zDeed = (deedP k f cap, true)) : PureC Tryz.prog 111 [i64 n, str name] (deedP k f cap) := by
 refine pW tG (rs := [.cell 4 169]) Tryz.func111 rfl rfl rfl (by simp [hc]) (by simp [hc]) (fun B => ?_)
 refine zu2 ?_
 refine Ws ?_
 refine Wl ?_
 refine zu3 ?_
 refine Wf rfl (by exact decide_eq_false (by omega)) ?_
 refine zu3 ?_
 refine Wf rfl (by exact decide_eq_false (by omega)) ?_
 refine Wj ?_
 refine Ws ?_
 refine z8 ?_
 refine Wc rfl rfl (dC rfl Tryz.func153 rfl rfl ((prim_reckons) _)) ?_
 refine Wc rfl rfl (dC rfl Tryz.func154 rfl rfl ((prim_memories) _)) ?_
 refine Wc rfl rfl (dC rfl Tryz.func155 rfl rfl ((prim_spaces) _)) ?_
 refine Wc rfl rfl (dC rfl Tryz.func156 rfl rfl ((prim_prints) _)) ?_
 refine Wc rfl rfl (dC rfl Tryz.func157 rfl rfl ((prim_pics) _)) ?_
 refine zs2 ?_
 refine Wl ?_
 refine W_rounds 7 ?_
 show W _ _ _ _ _ _ _
 refine zu1 ?_
 refine Ws ?_
 refine Wt rfl (by rfl) ?_
 refine Wj ?_
 refine Ws ?_
 refine Wl ?_
 refine z8 ?_
 refine z2 ?_ (q := (by decide))
 refine zs1 ?_
 refine zp2 ?_
 refine Wd rfl rfl (does_lookup (b := true) (e := 169) (key := .s name) (by kernel_rfl) (lO tG rfl) (by kernel_rfl) rfl rfl rfl rfl (by kernel_rfl) ((by exact h0))) ?_
 refine zy5 ?_
 refine zs1 ?_
 refine zu1 ?_
 refine Wf rfl (by rfl) ?_
 refine Wj ?_
 refine W_region rfl ?_
 refine z1 ?_
 refine Wa 36 rfl (show _ = PV.val (.int .i64 1) from rfl) ?_
 refine zs1 ?_
 show W _ _ _ _ _ _ _
 refine zu1 ?_
 refine Ws ?_
 refine Wt rfl (by rfl) ?_
 refine Wj ?_
 refine Ws ?_
 refine Wl ?_
 refine z8 ?_
 refine z2 ?_ (q := (by decide))
 refine zs1 ?_
 refine zp2 ?_
 refine Wd rfl rfl (does_lookup (b := true) (e := 169) (key := .s name) (by kernel_rfl) (lO tG rfl) (by kernel_rfl) rfl rfl rfl rfl (by kernel_rfl) ((by exact h1))) ?_
 refine zy5 ?_
 refine zs1 ?_
 refine zu1 ?_
 refine Wt rfl (by rfl) ?_
 refine zu2 ?_
 refine zR ?_
 rfl
theorem found_sp (n : Int) (name : Str) (k : Int) (f : FuncId) (cap : List PV) (hn : 72 < n) (hc : FlatL cap) (h0 : lkPV rkK rkV (.s name) zDeed = (zDeed, false)) (h1 : lkPV meK meV (.s name) zDeed = (zDeed, false)) (h2 : lkPV spK spV (.s name) zDeed = (deedP k f cap, true)) : PureC Tryz.prog 111 [i64 n, str name] (deedP k f cap) := by
 refine pW tG (rs := [.cell 4 169]) Tryz.func111 rfl rfl rfl (by simp [hc]) (by simp [hc]) (fun B => ?_)
 refine zu2 ?_
 refine Ws ?_
 refine Wl ?_
 refine zu3 ?_
 refine Wf rfl (by exact decide_eq_false (by omega)) ?_
 refine zu3 ?_
 refine Wf rfl (by exact decide_eq_false (by omega)) ?_
 refine Wj ?_
 refine Ws ?_
 refine z8 ?_
 refine Wc rfl rfl (dC rfl Tryz.func153 rfl rfl ((prim_reckons) _)) ?_
 refine Wc rfl rfl (dC rfl Tryz.func154 rfl rfl ((prim_memories) _)) ?_
 refine Wc rfl rfl (dC rfl Tryz.func155 rfl rfl ((prim_spaces) _)) ?_
 refine Wc rfl rfl (dC rfl Tryz.func156 rfl rfl ((prim_prints) _)) ?_
 refine Wc rfl rfl (dC rfl Tryz.func157 rfl rfl ((prim_pics) _)) ?_
 refine zs2 ?_
 refine Wl ?_
 refine W_rounds 7 ?_
 show W _ _ _ _ _ _ _
 refine zu1 ?_
 refine Ws ?_
 refine Wt rfl (by rfl) ?_
 refine Wj ?_
 refine Ws ?_
 refine Wl ?_
 refine z8 ?_
 refine z2 ?_ (q := (by decide))
 refine zs1 ?_
 refine zp2 ?_
 refine Wd rfl rfl (does_lookup (b := true) (e := 169) (key := .s name) (by kernel_rfl) (lO tG rfl) (by kernel_rfl) rfl rfl rfl rfl (by kernel_rfl) ((by exact h0))) ?_
 refine zy5 ?_
 refine zs1 ?_
 refine zu1 ?_
 refine Wf rfl (by rfl) ?_
 refine Wj ?_
 refine W_region rfl ?_
 refine z1 ?_
 refine Wa 36 rfl (show _ = PV.val (.int .i64 1) from rfl) ?_
 refine zs1 ?_
 show W _ _ _ _ _ _ _
 refine zu1 ?_
 refine Ws ?_
 refine Wt rfl (by rfl) ?_
 refine Wj ?_
 refine Ws ?_
 refine Wl ?_
 refine z8 ?_
 refine z2 ?_ (q := (by decide))
 refine zs1 ?_
 refine zp2 ?_
 refine Wd rfl rfl (does_lookup (b := true) (e := 169) (key := .s name) (by kernel_rfl) (lO tG rfl) (by kernel_rfl) rfl rfl rfl rfl (by kernel_rfl) ((by exact h1))) ?_
 refine zy5 ?_
 refine zs1 ?_
 refine zu1 ?_
 refine Wf rfl (by rfl) ?_
 refine Wj ?_
 refine W_region rfl ?_
 refine z1 ?_
 refine Wa 36 rfl (show _ = PV.val (.int .i64 2) from rfl) ?_
 refine zs1 ?_
 show W _ _ _ _ _ _ _
 refine zu1 ?_
 refine Ws ?_
 refine Wt rfl (by rfl) ?_
 refine Wj ?_
 refine Ws ?_
 refine Wl ?_
 refine z8 ?_
 refine z2 ?_ (q := (by decide))
 refine zs1 ?_
 refine zp2 ?_
 refine Wd rfl rfl (does_lookup (b := true) (e := 169) (key := .s name) (by kernel_rfl) (lO tG rfl) (by kernel_rfl) rfl rfl rfl rfl (by kernel_rfl) ((by exact h2))) ?_
 refine zy5 ?_
 refine zs1 ?_
 refine zu1 ?_
 refine Wt rfl (by rfl) ?_
 refine zu2 ?_
 refine zR ?_
 rfl
theorem found_pr (n : Int) (name : Str) (k : Int) (f : FuncId) (cap : List PV) (hn : 72 < n) (hc : FlatL cap) (h0 : lkPV rkK rkV (.s name) zDeed = (zDeed, false)) (h1 : lkPV meK meV (.s name) zDeed = (zDeed, false)) (h2 : lkPV spK spV (.s name) zDeed = (zDeed, false)) (h3 : lkPV prK prV (.s name) zDeed = (deedP k f cap, true)) : PureC Tryz.prog 111 [i64 n, str name] (deedP k f cap) := by
 refine pW tG (rs := [.cell 4 169]) Tryz.func111 rfl rfl rfl (by simp [hc]) (by simp [hc]) (fun B => ?_)
 refine zu2 ?_
 refine Ws ?_
 refine Wl ?_
 refine zu3 ?_
 refine Wf rfl (by exact decide_eq_false (by omega)) ?_
 refine zu3 ?_
 refine Wf rfl (by exact decide_eq_false (by omega)) ?_
 refine Wj ?_
 refine Ws ?_
 refine z8 ?_
 refine Wc rfl rfl (dC rfl Tryz.func153 rfl rfl ((prim_reckons) _)) ?_
 refine Wc rfl rfl (dC rfl Tryz.func154 rfl rfl ((prim_memories) _)) ?_
 refine Wc rfl rfl (dC rfl Tryz.func155 rfl rfl ((prim_spaces) _)) ?_
 refine Wc rfl rfl (dC rfl Tryz.func156 rfl rfl ((prim_prints) _)) ?_
 refine Wc rfl rfl (dC rfl Tryz.func157 rfl rfl ((prim_pics) _)) ?_
 refine zs2 ?_
 refine Wl ?_
 refine W_rounds 7 ?_
 show W _ _ _ _ _ _ _
 refine zu1 ?_
 refine Ws ?_
 refine Wt rfl (by rfl) ?_
 refine Wj ?_
 refine Ws ?_
 refine Wl ?_
 refine z8 ?_
 refine z2 ?_ (q := (by decide))
 refine zs1 ?_
 refine zp2 ?_
 refine Wd rfl rfl (does_lookup (b := true) (e := 169) (key := .s name) (by kernel_rfl) (lO tG rfl) (by kernel_rfl) rfl rfl rfl rfl (by kernel_rfl) ((by exact h0))) ?_
 refine zy5 ?_
 refine zs1 ?_
 refine zu1 ?_
 refine Wf rfl (by rfl) ?_
 refine Wj ?_
 refine W_region rfl ?_
 refine z1 ?_
 refine Wa 36 rfl (show _ = PV.val (.int .i64 1) from rfl) ?_
 refine zs1 ?_
 show W _ _ _ _ _ _ _
 refine zu1 ?_
 refine Ws ?_
 refine Wt rfl (by rfl) ?_
 refine Wj ?_
 refine Ws ?_
 refine Wl ?_
 refine z8 ?_
 refine z2 ?_ (q := (by decide))
 refine zs1 ?_
 refine zp2 ?_
 refine Wd rfl rfl (does_lookup (b := true) (e := 169) (key := .s name) (by kernel_rfl) (lO tG rfl) (by kernel_rfl) rfl rfl rfl rfl (by kernel_rfl) ((by exact h1))) ?_
 refine zy5 ?_
 refine zs1 ?_
 refine zu1 ?_
 refine Wf rfl (by rfl) ?_
 refine Wj ?_
 refine W_region rfl ?_
 refine z1 ?_
 refine Wa 36 rfl (show _ = PV.val (.int .i64 2) from rfl) ?_
 refine zs1 ?_
 show W _ _ _ _ _ _ _
 refine zu1 ?_
 refine Ws ?_
 refine Wt rfl (by rfl) ?_
 refine Wj ?_
 refine Ws ?_
 refine Wl ?_
 refine z8 ?_
 refine z2 ?_ (q := (by decide))
 refine zs1 ?_
 refine zp2 ?_
 refine Wd rfl rfl (does_lookup (b := true) (e := 169) (key := .s name) (by kernel_rfl) (lO tG rfl) (by kernel_rfl) rfl rfl rfl rfl (by kernel_rfl) ((by exact h2))) ?_
 refine zy5 ?_
 refine zs1 ?_
 refine zu1 ?_
 refine Wf rfl (by rfl) ?_
 refine Wj ?_
 refine W_region rfl ?_
 refine z1 ?_
 refine Wa 36 rfl (show _ = PV.val (.int .i64 3) from rfl) ?_
 refine zs1 ?_
 show W _ _ _ _ _ _ _
 refine zu1 ?_
 refine Ws ?_
 refine Wt rfl (by rfl) ?_
 refine Wj ?_
 refine Ws ?_
 refine Wl ?_
 refine z8 ?_
 refine z2 ?_ (q := (by decide))
 refine zs1 ?_
 refine zp2 ?_
 refine Wd rfl rfl (does_lookup (b := true) (e := 169) (key := .s name) (by kernel_rfl) (lO tG rfl) (by kernel_rfl) rfl rfl rfl rfl (by kernel_rfl) ((by exact h3))) ?_
 refine zy5 ?_
 refine zs1 ?_
 refine zu1 ?_
 refine Wt rfl (by rfl) ?_
 refine zu2 ?_
 refine zR ?_
 rfl
theorem found_pi (n : Int) (name : Str) (k : Int) (f : FuncId) (cap : List PV) (hn : 72 < n) (hc : FlatL cap) (h0 : lkPV rkK rkV (.s name) zDeed = (zDeed, false)) (h1 : lkPV meK meV (.s name) zDeed = (zDeed, false)) (h2 : lkPV spK spV (.s name) zDeed = (zDeed, false)) (h3 : lkPV prK prV (.s name) zDeed = (zDeed, false)) (h4 : lkPV piK piV (.s name) zDeed = (deedP k f cap, true)) : PureC Tryz.prog 111 [i64 n, str name] (deedP k f cap) := by
 refine pW tG (rs := [.cell 4 169]) Tryz.func111 rfl rfl rfl (by simp [hc]) (by simp [hc]) (fun B => ?_)
 refine zu2 ?_
 refine Ws ?_
 refine Wl ?_
 refine zu3 ?_
 refine Wf rfl (by exact decide_eq_false (by omega)) ?_
 refine zu3 ?_
 refine Wf rfl (by exact decide_eq_false (by omega)) ?_
 refine Wj ?_
 refine Ws ?_
 refine z8 ?_
 refine Wc rfl rfl (dC rfl Tryz.func153 rfl rfl ((prim_reckons) _)) ?_
 refine Wc rfl rfl (dC rfl Tryz.func154 rfl rfl ((prim_memories) _)) ?_
 refine Wc rfl rfl (dC rfl Tryz.func155 rfl rfl ((prim_spaces) _)) ?_
 refine Wc rfl rfl (dC rfl Tryz.func156 rfl rfl ((prim_prints) _)) ?_
 refine Wc rfl rfl (dC rfl Tryz.func157 rfl rfl ((prim_pics) _)) ?_
 refine zs2 ?_
 refine Wl ?_
 refine W_rounds 7 ?_
 show W _ _ _ _ _ _ _
 refine zu1 ?_
 refine Ws ?_
 refine Wt rfl (by rfl) ?_
 refine Wj ?_
 refine Ws ?_
 refine Wl ?_
 refine z8 ?_
 refine z2 ?_ (q := (by decide))
 refine zs1 ?_
 refine zp2 ?_
 refine Wd rfl rfl (does_lookup (b := true) (e := 169) (key := .s name) (by kernel_rfl) (lO tG rfl) (by kernel_rfl) rfl rfl rfl rfl (by kernel_rfl) ((by exact h0))) ?_
 refine zy5 ?_
 refine zs1 ?_
 refine zu1 ?_
 refine Wf rfl (by rfl) ?_
 refine Wj ?_
 refine W_region rfl ?_
 refine z1 ?_
 refine Wa 36 rfl (show _ = PV.val (.int .i64 1) from rfl) ?_
 refine zs1 ?_
 show W _ _ _ _ _ _ _
 refine zu1 ?_
 refine Ws ?_
 refine Wt rfl (by rfl) ?_
 refine Wj ?_
 refine Ws ?_
 refine Wl ?_
 refine z8 ?_
 refine z2 ?_ (q := (by decide))
 refine zs1 ?_
 refine zp2 ?_
 refine Wd rfl rfl (does_lookup (b := true) (e := 169) (key := .s name) (by kernel_rfl) (lO tG rfl) (by kernel_rfl) rfl rfl rfl rfl (by kernel_rfl) ((by exact h1))) ?_
 refine zy5 ?_
 refine zs1 ?_
 refine zu1 ?_
 refine Wf rfl (by rfl) ?_
 refine Wj ?_
 refine W_region rfl ?_
 refine z1 ?_
 refine Wa 36 rfl (show _ = PV.val (.int .i64 2) from rfl) ?_
 refine zs1 ?_
 show W _ _ _ _ _ _ _
 refine zu1 ?_
 refine Ws ?_
 refine Wt rfl (by rfl) ?_
 refine Wj ?_
 refine Ws ?_
 refine Wl ?_
 refine z8 ?_
 refine z2 ?_ (q := (by decide))
 refine zs1 ?_
 refine zp2 ?_
 refine Wd rfl rfl (does_lookup (b := true) (e := 169) (key := .s name) (by kernel_rfl) (lO tG rfl) (by kernel_rfl) rfl rfl rfl rfl (by kernel_rfl) ((by exact h2))) ?_
 refine zy5 ?_
 refine zs1 ?_
 refine zu1 ?_
 refine Wf rfl (by rfl) ?_
 refine Wj ?_
 refine W_region rfl ?_
 refine z1 ?_
 refine Wa 36 rfl (show _ = PV.val (.int .i64 3) from rfl) ?_
 refine zs1 ?_
 show W _ _ _ _ _ _ _
 refine zu1 ?_
 refine Ws ?_
 refine Wt rfl (by rfl) ?_
 refine Wj ?_
 refine Ws ?_
 refine Wl ?_
 refine z8 ?_
 refine z2 ?_ (q := (by decide))
 refine zs1 ?_
 refine zp2 ?_
 refine Wd rfl rfl (does_lookup (b := true) (e := 169) (key := .s name) (by kernel_rfl) (lO tG rfl) (by kernel_rfl) rfl rfl rfl rfl (by kernel_rfl) ((by exact h3))) ?_
 refine zy5 ?_
 refine zs1 ?_
 refine zu1 ?_
 refine Wf rfl (by rfl) ?_
 refine Wj ?_
 refine W_region rfl ?_
 refine z1 ?_
 refine Wa 36 rfl (show _ = PV.val (.int .i64 4) from rfl) ?_
 refine zs1 ?_
 show W _ _ _ _ _ _ _
 refine zu1 ?_
 refine Ws ?_
 refine Wt rfl (by rfl) ?_
 refine Wj ?_
 refine Ws ?_
 refine Wl ?_
 refine z8 ?_
 refine z2 ?_ (q := (by decide))
 refine zs1 ?_
 refine zp2 ?_
 refine Wd rfl rfl (does_lookup (b := true) (e := 169) (key := .s name) (by kernel_rfl) (lO tG rfl) (by kernel_rfl) rfl rfl rfl rfl (by kernel_rfl) ((by exact h4))) ?_
 refine zy5 ?_
 refine zs1 ?_
 refine zu1 ?_
 refine Wt rfl (by rfl) ?_
 refine zu2 ?_
 refine zR ?_
 rfl
theorem found_ot (n : Int) (name : Str) (k : Int) (f : FuncId) (cap : List PV) (hn : 72 < n) (hc : FlatL cap) (h0 : lkPV rkK rkV (.s name) zDeed = (zDeed, false)) (h1 : lkPV meK meV (.s name) zDeed = (zDeed, false)) (h2 : lkPV spK spV (.s name) zDeed = (zDeed, false)) (h3 : lkPV prK prV (.s name) zDeed = (zDeed, false)) (h4 : lkPV piK piV (.s name) zDeed = (zDeed, false)) (h5 : lkPV otK otV (.s name) zDeed = (deedP k f cap, true)) : PureC Tryz.prog 111 [i64 n, str name] (deedP k f cap) := by
 refine pW tG (rs := [.cell 4 169]) Tryz.func111 rfl rfl rfl (by simp [hc]) (by simp [hc]) (fun B => ?_)
 refine zu2 ?_
 refine Ws ?_
 refine Wl ?_
 refine zu3 ?_
 refine Wf rfl (by exact decide_eq_false (by omega)) ?_
 refine zu3 ?_
 refine Wf rfl (by exact decide_eq_false (by omega)) ?_
 refine Wj ?_
 refine Ws ?_
 refine z8 ?_
 refine Wc rfl rfl (dC rfl Tryz.func153 rfl rfl ((prim_reckons) _)) ?_
 refine Wc rfl rfl (dC rfl Tryz.func154 rfl rfl ((prim_memories) _)) ?_
 refine Wc rfl rfl (dC rfl Tryz.func155 rfl rfl ((prim_spaces) _)) ?_
 refine Wc rfl rfl (dC rfl Tryz.func156 rfl rfl ((prim_prints) _)) ?_
 refine Wc rfl rfl (dC rfl Tryz.func157 rfl rfl ((prim_pics) _)) ?_
 refine zs2 ?_
 refine Wl ?_
 refine W_rounds 7 ?_
 show W _ _ _ _ _ _ _
 refine zu1 ?_
 refine Ws ?_
 refine Wt rfl (by rfl) ?_
 refine Wj ?_
 refine Ws ?_
 refine Wl ?_
 refine z8 ?_
 refine z2 ?_ (q := (by decide))
 refine zs1 ?_
 refine zp2 ?_
 refine Wd rfl rfl (does_lookup (b := true) (e := 169) (key := .s name) (by kernel_rfl) (lO tG rfl) (by kernel_rfl) rfl rfl rfl rfl (by kernel_rfl) ((by exact h0))) ?_
 refine zy5 ?_
 refine zs1 ?_
 refine zu1 ?_
 refine Wf rfl (by rfl) ?_
 refine Wj ?_
 refine W_region rfl ?_
 refine z1 ?_
 refine Wa 36 rfl (show _ = PV.val (.int .i64 1) from rfl) ?_
 refine zs1 ?_
 show W _ _ _ _ _ _ _
 refine zu1 ?_
 refine Ws ?_
 refine Wt rfl (by rfl) ?_
 refine Wj ?_
 refine Ws ?_
 refine Wl ?_
 refine z8 ?_
 refine z2 ?_ (q := (by decide))
 refine zs1 ?_
 refine zp2 ?_
 refine Wd rfl rfl (does_lookup (b := true) (e := 169) (key := .s name) (by kernel_rfl) (lO tG rfl) (by kernel_rfl) rfl rfl rfl rfl (by kernel_rfl) ((by exact h1))) ?_
 refine zy5 ?_
 refine zs1 ?_
 refine zu1 ?_
 refine Wf rfl (by rfl) ?_
 refine Wj ?_
 refine W_region rfl ?_
 refine z1 ?_
 refine Wa 36 rfl (show _ = PV.val (.int .i64 2) from rfl) ?_
 refine zs1 ?_
 show W _ _ _ _ _ _ _
 refine zu1 ?_
 refine Ws ?_
 refine Wt rfl (by rfl) ?_
 refine Wj ?_
 refine Ws ?_
 refine Wl ?_
 refine z8 ?_
 refine z2 ?_ (q := (by decide))
 refine zs1 ?_
 refine zp2 ?_
 refine Wd rfl rfl (does_lookup (b := true) (e := 169) (key := .s name) (by kernel_rfl) (lO tG rfl) (by kernel_rfl) rfl rfl rfl rfl (by kernel_rfl) ((by exact h2))) ?_
 refine zy5 ?_
 refine zs1 ?_
 refine zu1 ?_
 refine Wf rfl (by rfl) ?_
 refine Wj ?_
 refine W_region rfl ?_
 refine z1 ?_
 refine Wa 36 rfl (show _ = PV.val (.int .i64 3) from rfl) ?_
 refine zs1 ?_
 show W _ _ _ _ _ _ _
 refine zu1 ?_
 refine Ws ?_
 refine Wt rfl (by rfl) ?_
 refine Wj ?_
 refine Ws ?_
 refine Wl ?_
 refine z8 ?_
 refine z2 ?_ (q := (by decide))
 refine zs1 ?_
 refine zp2 ?_
 refine Wd rfl rfl (does_lookup (b := true) (e := 169) (key := .s name) (by kernel_rfl) (lO tG rfl) (by kernel_rfl) rfl rfl rfl rfl (by kernel_rfl) ((by exact h3))) ?_
 refine zy5 ?_
 refine zs1 ?_
 refine zu1 ?_
 refine Wf rfl (by rfl) ?_
 refine Wj ?_
 refine W_region rfl ?_
 refine z1 ?_
 refine Wa 36 rfl (show _ = PV.val (.int .i64 4) from rfl) ?_
 refine zs1 ?_
 show W _ _ _ _ _ _ _
 refine zu1 ?_
 refine Ws ?_
 refine Wt rfl (by rfl) ?_
 refine Wj ?_
 refine Ws ?_
 refine Wl ?_
 refine z8 ?_
 refine z2 ?_ (q := (by decide))
 refine zs1 ?_
 refine zp2 ?_
 refine Wd rfl rfl (does_lookup (b := true) (e := 169) (key := .s name) (by kernel_rfl) (lO tG rfl) (by kernel_rfl) rfl rfl rfl rfl (by kernel_rfl) ((by exact h4))) ?_
 refine zy5 ?_
 refine zs1 ?_
 refine zu1 ?_
 refine Wf rfl (by rfl) ?_
 refine Wj ?_
 refine W_region rfl ?_
 refine z1 ?_
 refine Wa 36 rfl (show _ = PV.val (.int .i64 5) from rfl) ?_
 refine zs1 ?_
 show W _ _ _ _ _ _ _
 refine zu1 ?_
 refine Ws ?_
 refine Wf rfl (by rfl) ?_
 refine W_exit ?_
 refine Ws ?_
 refine W_drawU [0, 1, 0, 3] [0, 1, 2, 3] mG rfl (by kernel_rfl) ?_
 refine Xc rfl rfl rfl rfl (fun _ => dC rfl Tryz.func158 rfl rfl ((prim_others) _)) ?_
 refine z5 ?_
 refine WU_does0 rfl rfl rfl rfl (fun _ => does_lookup (b := false) (e := 169) (key := .s name) (by kernel_rfl) (lO tG rfl) (by kernel_rfl) rfl rfl rfl rfl (by kernel_rfl) ((by exact h5))) ?_
 refine WU_ev3 tG rfl rfl rfl rfl rfl trivial ?_
 refine WU_nil ?_
 refine zR ?_
 rfl
end Go.Proofs.YtobhnjnffnbbkaaGreatDoor
namespace Go.Proofs.YtobhnjnffnbbkaaGreatDoor
open Go.RowKit
set_option maxRecDepth 100000
set_option maxHeartbeats 4000000
theorem clone_new (l : List Int) (hl : l.length ≤ 1000000) : NewC Tryz.prog 112 [sq cInt l] l.length (l.flatMap cInt) 1 := by
 refine new_of_WR tG (rs := [.tmp 2]) Tryz.func112 rfl rfl rfl (by simp) (flatL_map' (fun x => by simp) _) (fun B => ?_)
 refine zp1 ?_
 refine WO_own 2 0 1 rfl rfl ?_
 refine Wn ?_
 refine Ws ?_
 refine zp1 ?_
 refine WO_nilS (lO tG rfl) rfl rfl rfl rfl rfl (fun bn1 hn1 => ?_)
 refine Wn ?_
 refine Wi rfl (fun hi1 => ?_) (fun hi1 => ?_)
 ·refine zp1 ?_
  refine WO_own 2 0 1 rfl rfl ?_
  refine Wn ?_
  refine Wq ?_
  exact leafN rfl (hn1 hi1).1.symm (hn1 hi1).2.symm rfl (by omega)
 ·refine Wj ?_
  refine zp2 ?_
  refine Wd rfl rfl (does_append_clip (lO tG rfl) rfl (lO tG rfl) (lO tG rfl) rfl rfl (by exact ⟨_, rfl⟩) (by exact ⟨rfl, rfl, flatMap_len _ 1 (fun _ => rfl) _, okC_flat _ (fun _ => rfl) _⟩) (by rfl) (by (dsimp only; omega)) (by (omega))) ?_
  refine Wa 7 rfl (sq_none cInt) ?_
  refine z1 ?_
  skip
  refine Wn ?_
  refine Wq ?_
  exact leafN rfl rfl rfl rfl (by show (0 + l.length) * 1 ≤ _; omega)
def stkDeep (s : List Int) (roll : Bool) (limit : Int) : List Int × Bool × Int :=
 if (stkPop s).2.2 ≠ 0 ∨ (stkPop s).1 < 0 ∨ ((stkPop s).2.1.length : Int) ≤ (stkPop s).1 then (s, true, -4) else
  if roll then stkLaid s ((stkPop s).1.toNat + 2) ((stkPop s).2.1.drop ((stkPop s).2.1.length - 1 - (stkPop s).1.toNat + 1) ++ [(stkPop s).2.1.getD ((stkPop s).2.1.length - 1 - (stkPop s).1.toNat) 0]) limit
  else stkLaid s 1 [(stkPop s).2.1.getD ((stkPop s).2.1.length - 1 - (stkPop s).1.toNat) 0] limit
theorem stkPop_len {s : List Int} (h : (stkPop s).2.2 = 0) : (stkPop s).2.1.length + 1 = s.length := by
 unfold stkPop at h ⊢
 split at h
 ·cases h
 ·rename_i h0
  rw [if_neg h0]
  simp only [List.length_take]; omega
theorem stk_deep (s : List Int) (roll : Bool) (limit : Int) (hs : s.length ≤ 100000) (hm : -9223372036854775808 ≤ limit ∧ limit ≤ 9223372036854775807) :
  PureC Tryz.prog 145 [sq cInt s, boo roll, i64 limit] (tStk (stkDeep s roll limit)) := by
 refine pW tG (rs := [.tmp 6, .tmp 7, .tmp 8]) Tryz.func145 rfl rfl rfl (by simp) (by simp) (fun B => ?_)
 refine zu3 ?_
 refine zp1 ?_
 refine Wc rfl rfl (dC rfl Tryz.func185 rfl rfl ((stk_Pop s hs) _)) ?_
 refine zy5 ?_
 refine zs2 ?_
 refine Ws ?_
 refine zp3 ?_
 refine Wb 21 rfl (fun hg1 => ?_) (fun hg1 => ?_)
 ·have h0 : (stkPop s).2.2 ≠ 0 := by simpa using hg1
  iterate 2 refine z6 ?_
  refine zy2 ?_
  iterate 4 refine z6 ?_
  refine zs1 ?_
  refine Wt rfl rfl ?_
  refine zu4 ?_
  refine zR ?_
  rw [stkDeep, if_pos (.inl h0)]; rfl
 ·have h0 : (stkPop s).2.2 = 0 := by simpa using hg1
  have hl := stkPop_len h0
  refine zy4 ?_
  refine Wb 25 rfl (fun hg2 => ?_) (fun hg2 => ?_)
  ·have h1 : (stkPop s).1 < 0 := by simpa using hg2
   iterate 4 refine z6 ?_
   refine zs1 ?_
   refine Wt rfl rfl ?_
   refine zu4 ?_
   refine zR ?_
   rw [stkDeep, if_pos (.inr (.inl h1))]; rfl
  ·have h1 : ¬ (stkPop s).1 < 0 := by simpa using hg2
   refine zs5 ?_
   refine Wi rfl (fun hi1 => ?_) (fun hi1 => ?_)
   ·have h2 : ((stkPop s).2.1.length : Int) ≤ (stkPop s).1 := by simpa using hi1
    refine zu4 ?_
    refine zR ?_
    rw [stkDeep, if_pos (.inr (.inr h2))]; rfl
   ·have h2 : ¬ ((stkPop s).2.1.length : Int) ≤ (stkPop s).1 := by simpa using hi1
    have hc : ¬ ((stkPop s).2.2 ≠ 0 ∨ (stkPop s).1 < 0 ∨ ((stkPop s).2.1.length : Int) ≤ (stkPop s).1) := by rintro (h | h | h) <;> contradiction
    have w1 : IntKind.i64.wrap (IntKind.i64.wrap (((stkPop s).2.1.length : Int) - 1) - (stkPop s).1) = (((stkPop s).2.1.length - 1 - (stkPop s).1.toNat : Nat) : Int) := by simp only [i64w]; unfold wrap64; omega
    have w2 : IntKind.i64.wrap ((((stkPop s).2.1.length - 1 - (stkPop s).1.toNat : Nat) : Int) + 1) = (((stkPop s).2.1.length - 1 - (stkPop s).1.toNat + 1 : Nat) : Int) := by simp only [i64w]; unfold wrap64; omega
    have w3 : IntKind.i64.wrap ((stkPop s).1 + 2) = (((stkPop s).1.toNat + 2 : Nat) : Int) := by simp only [i64w]; unfold wrap64; omega
    refine Wj ?_
    refine zp5 ?_
    refine Wa 36 rfl (congrArg (fun z => PV.val (Value.int .i64 z)) w1) ?_
    refine zs1 ?_
    refine Ws ?_
    refine zu1 ?_
    refine Wi rfl (fun hi2 => ?_) (fun hi2 => ?_)
    ·refine Ws ?_
     refine W_drawU [0, 0, 0, 0, 0, 0, 0, 2, 0, 0, 0, 0, 0, 3, 0, 0, 0, 0, 0, 0, 0, 0] [0, 1, 2, 3, 4, 5, 6, 8, 9, 10, 11, 12, 14, 7, 13, 15, 16, 17, 18, 19, 20, 21] mG rfl (by kernel_rfl) ?_
     iterate 3 refine z3 ?_
     refine Xa 40 rfl (congrArg (fun z => PV.val (Value.int .i64 z)) w3) ?_
     iterate 3 refine z3 ?_
     refine Xa 43 rfl (congrArg (fun z => PV.val (Value.int .i64 z)) w2) ?_
     refine z4 ?_ (q := (by (simp_all; omega)))
     refine Xa 44 rfl (sq_slice cInt 1 (fun _ => rfl) (by omega)) ?_
     refine Xa 44 rfl ((show _ = sq cInt ((stkPop s).2.1.drop ((stkPop s).2.1.length - 1 - (stkPop s).1.toNat + 1)) by rw [List.take_length, Int.toNat_natCast]; rfl)) ?_
     iterate 2 refine z3 ?_
     refine Xi tG rfl rfl rfl rfl (fun _ => rfl) (by omega) (iN cInt 1 (fun _ => rfl) 0 (by omega)) ?_
     iterate 2 refine z3 ?_
     refine Xa 50 rfl (bsL cInt [_] rfl rfl) ?_
     refine z3 ?_
     refine WU_call2 rfl rfl rfl rfl (dC rfl Tryz.func112 rfl rfl (clone_new _ (by simp; omega) _)) ?_
     refine WU_does3 rfl rfl rfl rfl (does_append_own (lO tG rfl) rfl (lO tG rfl) (lO tG rfl) rfl rfl rfl rfl (by simp) (by exact ⟨_, rfl⟩) (by exact ⟨rfl, rfl, flatMap_len _ 1 (fun _ => rfl) _, okC_flat _ (fun _ => rfl) _⟩) (by (simp; omega)) (by (simp; omega))) ?_
     refine Xa 51 rfl (sq_append cInt) ?_
     refine Xc rfl rfl rfl rfl (fun _ => dC rfl Tryz.func144 rfl rfl ((stk_laid s _ _ _ hs (by omega) (by simp; omega) hm) _)) ?_
     iterate 6 refine z3 ?_
     refine WU_nil ?_
     refine zR ?_
     rw [stkDeep, if_neg hc, if_pos hi2]; rfl
    ·refine Wj ?_
     refine zp3 ?_
     refine Wv tG rfl rfl rfl (by omega) (iN cInt 1 (fun _ => rfl) 0 (by omega)) ?_
     refine zy2 ?_
     refine Wa 62 rfl (bsL cInt [_] rfl rfl) ?_
     refine z1 ?_
     refine Wc rfl rfl (dC rfl Tryz.func144 rfl rfl ((stk_laid s 1 _ _ hs (by omega) (by simp) hm) _)) ?_
     refine zy5 ?_
     refine zs1 ?_
     refine zR ?_
     rw [stkDeep, if_neg hc, if_neg (by rw [hi2]; simp)]; rfl
end Go.Proofs.YtobhnjnffnbbkaaGreatDoor
namespace Go.Proofs.YtobhnjnffnbbkaaGreatDoor
open Go.RowKit
set_option maxRecDepth 100000
set_option maxHeartbeats 4000000
def shapeT : List (Str × Nat × Str) := [([68, 85, 80], 1, [97, 97]), ([68, 82, 79, 80], 1, []), ([83, 87, 65, 80], 2, [98, 97]), ([79, 86, 69, 82], 2, [97, 98, 97]), ([78, 73, 80], 2, [98]), ([84, 85, 67, 75], 2, [98, 97, 98]), ([82, 79, 84], 3, [98, 99, 97]), ([45, 82, 79, 84], 3, [99, 97, 98]), ([50, 68, 85, 80], 2, [97, 98, 97, 98]), ([50, 68, 82, 79, 80], 2, []), ([50, 83, 87, 65, 80], 4, [99, 100, 97, 98]), ([50, 79, 86, 69, 82], 4, [97, 98, 99, 100, 97, 98])]
def shapeK : List MKey := shapeT.map fun q => .s q.1
def shapeV : List PV := shapeT.map fun q => .agg [i64 q.2.1, str q.2.2]
theorem flat_shapes : Flat (.smap shapeK shapeV) := by
 unfold Flat shapeV
 exact flatL_map _ (fun q => by simp) _
theorem stk_shapes : PureC Tryz.prog 146 [] (.smap shapeK shapeV) := by
 refine pW tG (rs := [.tmp 0]) Tryz.func146 rfl rfl rfl (by simp; done) (by exact flat_shapes) (fun B => ?_)
 refine zu1 ?_
 refine z8 ?_
 refine Wd rfl rfl (does_makeMap rfl) ?_
 refine z1 ?_
 refine Wd rfl rfl (dI (e := 209) (key := .s [68, 85, 80]) (by kernel_rfl) rfl rfl rfl rfl (by kernel_rfl)) ?_
 refine z1 ?_
 refine Wd rfl rfl (dI (e := 209) (key := .s [68, 82, 79, 80]) (by kernel_rfl) rfl rfl rfl rfl (by kernel_rfl)) ?_
 refine z1 ?_
 refine Wd rfl rfl (dI (e := 209) (key := .s [83, 87, 65, 80]) (by kernel_rfl) rfl rfl rfl rfl (by kernel_rfl)) ?_
 refine z1 ?_
 refine Wd rfl rfl (dI (e := 209) (key := .s [79, 86, 69, 82]) (by kernel_rfl) rfl rfl rfl rfl (by kernel_rfl)) ?_
 refine z1 ?_
 refine Wd rfl rfl (dI (e := 209) (key := .s [78, 73, 80]) (by kernel_rfl) rfl rfl rfl rfl (by kernel_rfl)) ?_
 refine z1 ?_
 refine Wd rfl rfl (dI (e := 209) (key := .s [84, 85, 67, 75]) (by kernel_rfl) rfl rfl rfl rfl (by kernel_rfl)) ?_
 refine z1 ?_
 refine Wd rfl rfl (dI (e := 209) (key := .s [82, 79, 84]) (by kernel_rfl) rfl rfl rfl rfl (by kernel_rfl)) ?_
 refine z1 ?_
 refine Wd rfl rfl (dI (e := 209) (key := .s [45, 82, 79, 84]) (by kernel_rfl) rfl rfl rfl rfl (by kernel_rfl)) ?_
 refine z1 ?_
 refine Wd rfl rfl (dI (e := 209) (key := .s [50, 68, 85, 80]) (by kernel_rfl) rfl rfl rfl rfl (by kernel_rfl)) ?_
 refine z1 ?_
 refine Wd rfl rfl (dI (e := 209) (key := .s [50, 68, 82, 79, 80]) (by kernel_rfl) rfl rfl rfl rfl (by kernel_rfl)) ?_
 refine z1 ?_
 refine Wd rfl rfl (dI (e := 209) (key := .s [50, 83, 87, 65, 80]) (by kernel_rfl) rfl rfl rfl rfl (by kernel_rfl)) ?_
 refine z1 ?_
 refine Wd rfl rfl (dI (e := 209) (key := .s [50, 79, 86, 69, 82]) (by kernel_rfl) rfl rfl rfl rfl (by kernel_rfl)) ?_
 refine z1 ?_
 refine WO_freezeM 14 _ rfl rfl rfl ?_
 refine zs1 ?_
 refine zR ?_
 rfl
def shapeS (s : List Int) (tk : Nat) (lv : Str) (limit : Int) : List Int × Bool × Int :=
 if s.length < tk then (s, true, -4) else stkLaid s tk (lv.map fun c => (s.drop (s.length - tk)).getD (c.toNat - 97) 0) limit
theorem map_snoc_pv {lv : Str} {f : UInt8 → Int} {k : Nat} {q : SK} (hk : k < lv.length) : PV.seq ((lv.take k).map f ++ [f (lv.getD k 0)]).length (((lv.take k).map f ++ [f (lv.getD k 0)]).flatMap cInt) q = .seq ((lv.take (k + 1)).map f).length (((lv.take (k + 1)).map f).flatMap cInt) q := by
 rw [take_snoc' lv k 0 hk, List.map_append]; rfl
theorem stk_word (name : Str) (s : List Int) (limit : Int) (tk : Nat) (lv : Str) (hs : s.length ≤ 100000) (hm : -9223372036854775808 ≤ limit ∧ limit ≤ 9223372036854775807) (h1 : name ≠ [68, 69, 80, 84, 72]) (h2 : name ≠ [80, 73, 67, 75]) (h3 : name ≠ [82, 79, 76, 76]) (h4 : name ≠ [63, 68, 85, 80])
  (hk : lkPV shapeK shapeV (.s name) (.agg [i64 0, str []]) = (.agg [i64 tk, str lv], true)) (hl : ∀ c ∈ lv, 97 ≤ c.toNat ∧ c.toNat < 97 + tk) (hlen : lv.length ≤ 10) (htk : tk ≤ 4) :
  PureC Tryz.prog 110 [str name, sq cInt s, i64 limit] (tStk (shapeS s tk lv limit)) := by
 refine pW tG (rs := [.tmp 6, .tmp 7, .tmp 8]) Tryz.func110 rfl rfl rfl (by simp) (by simp) (fun B => ?_)
 refine zu3 ?_
 refine Ws ?_
 refine zu1 ?_
 refine Wl ?_
 refine zp1 ?_
 refine Wa 17 rfl (str_eql _ _) ?_
 refine zs1 ?_
 refine Wf rfl (by exact decide_eq_false h1) ?_
 refine Ws ?_
 refine zp1 ?_
 refine Wa 28 rfl (str_eql _ _) ?_
 refine zs1 ?_
 refine Wf rfl (by exact decide_eq_false h2) ?_
 refine W_region rfl ?_
 refine z1 ?_
 refine Wa 29 rfl (str_eql _ _) ?_
 refine zs1 ?_
 refine Wf rfl (by exact decide_eq_false h3) ?_
 refine Wj ?_
 refine z8 ?_
 refine Wc rfl rfl (dC rfl Tryz.func146 rfl rfl ((stk_shapes) _)) ?_
 refine z1 ?_
 refine Wd rfl rfl (does_lookup (b := true) (e := 209) (key := .s name) (by kernel_rfl) (lO tG rfl) (by kernel_rfl) rfl rfl rfl rfl (by kernel_rfl) (hk)) ?_
 refine zy5 ?_
 refine zs1 ?_
 refine Ws ?_
 refine zp2 ?_
 refine Wa 45 rfl (str_eql _ _) ?_
 refine Wn ?_
 refine Wf rfl (by exact decide_eq_false h4) ?_
 refine Wj ?_
 refine Ws ?_
 refine zu2 ?_
 refine Wf rfl (by rfl) ?_
 refine Wj ?_
 refine Ws ?_
 refine zu5 ?_
 refine Wi rfl (fun hi6 => ?_) (fun hi6 => ?_)
 ·have h0 : s.length < tk := by (try simp only [dnL] at *); omega
  refine zu4 ?_
  refine zR ?_
  rw [shapeS, if_pos h0]; rfl
 ·have h0 : ¬ s.length < tk := by (try simp only [dnL] at *); omega
  have w1 : IntKind.i64.wrap ((s.length : Int) - (tk : Int)) = ((s.length - tk : Nat) : Int) := by ((rw [i64w]; unfold wrap64; (try simp only [dnL] at *); omega))
  refine Wj ?_
  refine zp5 ?_
  refine z1 ?_
  refine Wa 74 rfl (congrArg (fun z => PV.val (Value.int .i64 z)) w1) ?_
  refine z2 ?_ (q := (by (simp_all; done)))
  refine Wa 75 rfl (sq_slice cInt 1 (fun _ => rfl) (by omega)) ?_
  refine Wa 75 rfl ((show _ = sq cInt (s.drop (s.length - tk)) by rw [List.take_length, Int.toNat_natCast]; rfl)) ?_
  refine zs1 ?_
  refine zp1 ?_
  refine WO_own 12 0 1 rfl rfl ?_
  refine Wn ?_
  refine Ws ?_
  refine zp2 ?_
  refine Wd rfl rfl (does_rangeStr (lO tG rfl) rfl rfl rfl) ?_
  refine Wn ?_
  refine Wl ?_
  show W _ _ _ _ _ _ _
  refine W_loopS (fun (k : Nat) => [(1, sq cInt s), (2, i64 limit), (9, .ptr 0 0), (11, sq cInt (s.drop (s.length - tk))), (78, .ptr 3 0), (12, .seq ((lv.take k).map fun c => (s.drop (s.length - tk)).getD (c.toNat - 97) 0).length (((lv.take k).map fun c => (s.drop (s.length - tk)).getD (c.toNat - 97) 0).flatMap cInt) (.own 4 1))]) (fun (k : Nat) => [.cells [i64 tk, str lv] 209, .dead, .dead]) (fun (k : Nat) => [.iter lv k, .free (((lv.take k).map fun c => (s.drop (s.length - tk)).getD (c.toNat - 97) 0).length * 1)]) (fun (k : Nat) => k ≤ lv.length) (fun (k : Nat) => lv.length - k) (0) (by omega) [2, 1] ?_ ?_
  ·exact fitT
  ·intro k hk
   refine z8 ?_
   by_cases hx1 : k < lv.length
   ·have hc := hl (lv.getD k 0) (by simp only [List.getD, List.getElem?_eq_getElem hx1, Option.getD_some]; exact List.getElem_mem hx1)
    have w2 : IntKind.i32.wrap (((lv.getD k 0).toNat : Int) - 97) = (((lv.getD k 0).toNat - 97 : Nat) : Int) := by rw [IntWalk.i32_left]; unfold wrap32; omega
    refine Wd rfl rfl (does_next rfl rfl rfl (by exact hx1) (by omega)) ?_
    refine zs1 ?_
    refine Ws ?_
    refine Wt rfl rfl ?_
    refine Wj ?_
    refine Wl ?_
    refine zu2 ?_
    refine W_region rfl ?_
    refine zy4 ?_
    refine Wa 85 rfl (congrArg (fun z => PV.val (Value.int .i32 z)) w2) ?_
    refine Wv tG rfl rfl rfl (by simp only [List.length_drop, Int.toNat_natCast]; omega) (iN cInt 1 (fun _ => rfl) 0 (by simp only [List.length_drop, Int.toNat_natCast]; omega)) ?_
    refine zy2 ?_
    refine Wa 88 rfl (bsL cInt [_] rfl rfl) ?_
    refine Wd rfl rfl (does_append_own (lO tG rfl) rfl (lO tG rfl) (lO tG rfl) rfl rfl rfl rfl (by simp) (by exact ⟨_, rfl⟩) (by exact ⟨rfl, rfl, flatMap_len _ 1 (fun _ => rfl) _, okC_flat _ (fun _ => rfl) _⟩) (by ((simp_all; omega))) (by ((simp_all; omega)))) ?_
    refine Wa 89 rfl (sq_append cInt) ?_
    refine z1 ?_
    skip
    refine Wn ?_
    exact ⟨k + 1, [3, 5], (by omega), (by omega), (fitT (sub := by repeat (first | exact subL_nil | refine subL_cons (by first | exact imp_of rfl | exact imp_of (map_snoc_pv hx1)) ?_)))⟩
   ·refine Wd rfl rfl (does_next_end rfl rfl rfl (by omega)) ?_
    refine zs1 ?_
    refine Ws ?_
    refine Wf rfl rfl ?_
    refine W_exit ?_
    refine zp5 ?_
    refine Wc rfl rfl (dC rfl Tryz.func144 rfl rfl ((stk_laid s tk _ limit hs (by omega) (by simp; omega) hm) _)) ?_
    refine zy5 ?_
    refine zs1 ?_
    refine zR ?_
    rw [shapeS, if_neg h0, take_all' lv k (by omega)]; rfl
end Go.Proofs.YtobhnjnffnbbkaaGreatDoor
namespace Go.Proofs.YtobhnjnffnbbkaaGreatDoor
open Go.RowKit
set_option maxRecDepth 100000
set_option maxHeartbeats 4000000
def pickK (s : List Int) : Int := if s.length = 0 ∨ s.getD (s.length - 1) 0 < 0 ∨ (s.length : Int) - 1 ≤ s.getD (s.length - 1) 0 then (s.length : Int) + 1 else s.getD (s.length - 1) 0 + 2
end Go.Proofs.YtobhnjnffnbbkaaGreatDoor
