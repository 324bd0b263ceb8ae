import Derived.Test.YtphgdofmjpdhaaaGreatPk7
set_option linter.unusedVariables false
set_option linter.unusedSimpArgs false
namespace Go.Proofs.YtphgdofmjpdhaaaGreat
open Go.RowKit
set_option linter.unusedVariables false
set_option maxRecDepth 100000
set_option maxHeartbeats 4000000
theorem mk_asks1 : PureC Tryz.prog 166 [i64 1] (deedP 3 244 [.row [i64 1], .row [i64 3]]) := by
 refine pW tG (rs := [.cell 2 75]) Tryz.func166 rfl rfl rfl (by simp) (by simp) (fun B => ?_)
 refine Ws ?_
 refine W_region rfl ?_
 refine We tG rfl rfl rfl trivial ?_
 refine WO_freezeP 1 _ rfl rfl rfl ?_
 refine We tG rfl rfl rfl trivial ?_
 refine Wn ?_
 refine Ws ?_
 refine W_region rfl ?_
 refine Wd rfl rfl (does_makeMap rfl) ?_
 refine Wd rfl rfl (dI (e := 3) (key := .n (1)) (by kernel_rfl) rfl rfl rfl rfl (by kernel_rfl)) ?_
 refine Wd rfl rfl (dI (e := 3) (key := .n (2)) (by kernel_rfl) rfl rfl rfl rfl (by kernel_rfl)) ?_
 refine Wd rfl rfl (dI (e := 3) (key := .n (3)) (by kernel_rfl) rfl rfl rfl rfl (by kernel_rfl)) ?_
 refine Wd rfl rfl (dI (e := 3) (key := .n (4)) (by kernel_rfl) rfl rfl rfl rfl (by kernel_rfl)) ?_
 refine We tG rfl rfl rfl trivial ?_
 refine WO_freezeM 5 _ rfl rfl rfl ?_
 refine We tG rfl rfl rfl trivial ?_
 refine Wd rfl rfl (does_lookup (e := 3) (key := .n 1) (by kernel_rfl) (lO tG rfl) (by kernel_rfl) rfl rfl rfl rfl (by kernel_rfl) (rfl)) ?_
 iterate 2 refine We tG rfl rfl rfl trivial ?_
 refine WO_freezeP 3 _ rfl rfl rfl ?_
 refine Wn ?_
 refine Ws ?_
 refine W_region rfl ?_
 iterate 4 refine We tG rfl rfl rfl trivial ?_
 refine Wn ?_
 refine Wq ?_
 refine lP rfl ?_
 rfl
theorem mk_asks2 : PureC Tryz.prog 166 [i64 2] (deedP 4 244 [.row [i64 2], .row [i64 4]]) := by
 refine pW tG (rs := [.cell 2 75]) Tryz.func166 rfl rfl rfl (by simp) (by simp) (fun B => ?_)
 refine Ws ?_
 refine W_region rfl ?_
 refine We tG rfl rfl rfl trivial ?_
 refine WO_freezeP 1 _ rfl rfl rfl ?_
 refine We tG rfl rfl rfl trivial ?_
 refine Wn ?_
 refine Ws ?_
 refine W_region rfl ?_
 refine Wd rfl rfl (does_makeMap rfl) ?_
 refine Wd rfl rfl (dI (e := 3) (key := .n (1)) (by kernel_rfl) rfl rfl rfl rfl (by kernel_rfl)) ?_
 refine Wd rfl rfl (dI (e := 3) (key := .n (2)) (by kernel_rfl) rfl rfl rfl rfl (by kernel_rfl)) ?_
 refine Wd rfl rfl (dI (e := 3) (key := .n (3)) (by kernel_rfl) rfl rfl rfl rfl (by kernel_rfl)) ?_
 refine Wd rfl rfl (dI (e := 3) (key := .n (4)) (by kernel_rfl) rfl rfl rfl rfl (by kernel_rfl)) ?_
 refine We tG rfl rfl rfl trivial ?_
 refine WO_freezeM 5 _ rfl rfl rfl ?_
 refine We tG rfl rfl rfl trivial ?_
 refine Wd rfl rfl (does_lookup (e := 3) (key := .n 2) (by kernel_rfl) (lO tG rfl) (by kernel_rfl) rfl rfl rfl rfl (by kernel_rfl) (rfl)) ?_
 iterate 2 refine We tG rfl rfl rfl trivial ?_
 refine WO_freezeP 3 _ rfl rfl rfl ?_
 refine Wn ?_
 refine Ws ?_
 refine W_region rfl ?_
 iterate 4 refine We tG rfl rfl rfl trivial ?_
 refine Wn ?_
 refine Wq ?_
 refine lP rfl ?_
 rfl
theorem mk_asks3 : PureC Tryz.prog 166 [i64 3] (deedP 4 244 [.row [i64 3], .row [i64 4]]) := by
 refine pW tG (rs := [.cell 2 75]) Tryz.func166 rfl rfl rfl (by simp) (by simp) (fun B => ?_)
 refine Ws ?_
 refine W_region rfl ?_
 refine We tG rfl rfl rfl trivial ?_
 refine WO_freezeP 1 _ rfl rfl rfl ?_
 refine We tG rfl rfl rfl trivial ?_
 refine Wn ?_
 refine Ws ?_
 refine W_region rfl ?_
 refine Wd rfl rfl (does_makeMap rfl) ?_
 refine Wd rfl rfl (dI (e := 3) (key := .n (1)) (by kernel_rfl) rfl rfl rfl rfl (by kernel_rfl)) ?_
 refine Wd rfl rfl (dI (e := 3) (key := .n (2)) (by kernel_rfl) rfl rfl rfl rfl (by kernel_rfl)) ?_
 refine Wd rfl rfl (dI (e := 3) (key := .n (3)) (by kernel_rfl) rfl rfl rfl rfl (by kernel_rfl)) ?_
 refine Wd rfl rfl (dI (e := 3) (key := .n (4)) (by kernel_rfl) rfl rfl rfl rfl (by kernel_rfl)) ?_
 refine We tG rfl rfl rfl trivial ?_
 refine WO_freezeM 5 _ rfl rfl rfl ?_
 refine We tG rfl rfl rfl trivial ?_
 refine Wd rfl rfl (does_lookup (e := 3) (key := .n 3) (by kernel_rfl) (lO tG rfl) (by kernel_rfl) rfl rfl rfl rfl (by kernel_rfl) (rfl)) ?_
 iterate 2 refine We tG rfl rfl rfl trivial ?_
 refine WO_freezeP 3 _ rfl rfl rfl ?_
 refine Wn ?_
 refine Ws ?_
 refine W_region rfl ?_
 iterate 4 refine We tG rfl rfl rfl trivial ?_
 refine Wn ?_
 refine Wq ?_
 refine lP rfl ?_
 rfl
theorem mk_asks4 : PureC Tryz.prog 166 [i64 4] (deedP 1 244 [.row [i64 4], .row [i64 1]]) := by
 refine pW tG (rs := [.cell 2 75]) Tryz.func166 rfl rfl rfl (by simp) (by simp) (fun B => ?_)
 refine Ws ?_
 refine W_region rfl ?_
 refine We tG rfl rfl rfl trivial ?_
 refine WO_freezeP 1 _ rfl rfl rfl ?_
 refine We tG rfl rfl rfl trivial ?_
 refine Wn ?_
 refine Ws ?_
 refine W_region rfl ?_
 refine Wd rfl rfl (does_makeMap rfl) ?_
 refine Wd rfl rfl (dI (e := 3) (key := .n (1)) (by kernel_rfl) rfl rfl rfl rfl (by kernel_rfl)) ?_
 refine Wd rfl rfl (dI (e := 3) (key := .n (2)) (by kernel_rfl) rfl rfl rfl rfl (by kernel_rfl)) ?_
 refine Wd rfl rfl (dI (e := 3) (key := .n (3)) (by kernel_rfl) rfl rfl rfl rfl (by kernel_rfl)) ?_
 refine Wd rfl rfl (dI (e := 3) (key := .n (4)) (by kernel_rfl) rfl rfl rfl rfl (by kernel_rfl)) ?_
 refine We tG rfl rfl rfl trivial ?_
 refine WO_freezeM 5 _ rfl rfl rfl ?_
 refine We tG rfl rfl rfl trivial ?_
 refine Wd rfl rfl (does_lookup (e := 3) (key := .n 4) (by kernel_rfl) (lO tG rfl) (by kernel_rfl) rfl rfl rfl rfl (by kernel_rfl) (rfl)) ?_
 iterate 2 refine We tG rfl rfl rfl trivial ?_
 refine WO_freezeP 3 _ rfl rfl rfl ?_
 refine Wn ?_
 refine Ws ?_
 refine W_region rfl ?_
 iterate 4 refine We tG rfl rfl rfl trivial ?_
 refine Wn ?_
 refine Wq ?_
 refine lP rfl ?_
 rfl
theorem d_cancel (v : VVm) (x : List Int) (hr : v.req.length ≤ 100000) (hx : XOk 1 x) : ∀ (H : List Ob) (i : Nat), H[i]? = some (.cells (cVm v) 36) → HC Tryz.prog 244 (.ptr i 0 :: [sq cInt x, .row [i64 4], .row [i64 1]]) H (tLv (pCancel v x).2) (H.set i (.cells (cVm (pCancel v x).1) 36)) := by
 have hl := hx.len
 refine mut_of_W tG (rs := [.tmp 6, .tmp 7]) Tryz.func244 rfl rfl rfl (by simp) (by simp) (by simp) (by simp) (fun B => ?_)
 refine Ws ?_
 refine W_region rfl ?_
 iterate 2 refine We tG rfl rfl rfl trivial ?_
 refine Wn ?_
 refine Ws ?_
 refine W_region rfl ?_
 iterate 4 refine We tG rfl rfl rfl trivial ?_
 refine Wn ?_
 iterate 2 refine Ws ?_
 refine W_region rfl ?_
 iterate 2 refine We tG rfl rfl rfl trivial ?_
 refine Wn ?_
 refine Wt rfl (by decide) ?_
 refine W_region rfl ?_
 refine We tG rfl rfl rfl trivial ?_
 first | refine Wv tG rfl rfl rfl (by first | exact trivial | omega | (simp only [dnL] at *; omega) | (simp_all; done) | (simp_all; omega)) (iN cInt 1 (fun _ => rfl) 0 (by first | exact trivial | omega | (simp only [dnL] at *; omega) | (simp_all; done) | (simp_all; omega))) ?_ | refine Wv tG rfl rfl rfl (by first | exact trivial | omega | (simp only [dnL] at *; omega) | (simp_all; done) | (simp_all; omega)) (iR cInt 1 (fun _ => rfl) 0 (by first | exact trivial | omega | (simp only [dnL] at *; omega) | (simp_all; done) | (simp_all; omega))) ?_
 iterate 3 refine We tG rfl rfl rfl trivial ?_
 refine Wn ?_
 refine Ws ?_
 refine W_region rfl ?_
 iterate 3 refine We tG rfl rfl rfl trivial ?_
 refine Wn ?_
 iterate 2 refine Ws ?_
 refine W_region rfl ?_
 iterate 2 refine We tG rfl rfl rfl trivial ?_
 refine WO_false 56 rfl (by decide) ?_
 iterate 10 refine Wk rfl rfl ?_
 refine We tG rfl rfl rfl trivial ?_
 refine Wn ?_
 refine Wf rfl rfl ?_
 refine Wj ?_
 iterate 2 refine Ws ?_
 refine W_region rfl ?_
 iterate 6 refine We tG rfl rfl rfl trivial ?_
 refine Wn ?_
 refine Wi rfl (fun hi2 => ?_) (fun hi2 => ?_)
 ·have h5 : 16 ≤ (v.req.length : Int) := of_decide_eq_true hi2
  refine Ws ?_
  refine W_region rfl ?_
  iterate 2 refine We tG rfl rfl rfl trivial ?_
  refine Wn ?_
  refine Wq ?_
  first | refine leafM rfl rfl ?_ ?_ | refine leafMs rfl rfl ?_ ?_
  ·rw [pCancel, if_pos h5]; rfl
  ·rw [pCancel, if_pos h5]; rfl
 ·have h5 : ¬ 16 ≤ (v.req.length : Int) := of_decide_eq_false hi2
  refine Wj ?_
  iterate 2 refine Ws ?_
  refine W_region rfl ?_
  iterate 2 refine We tG rfl rfl rfl trivial ?_
  refine Wn ?_
  refine Wt rfl (by decide) ?_
  refine Ws ?_
  refine W_drawU [0, 0, 0, 0, 1, 0, 1, 0, 0, 0, 0, 3] [0, 1, 2, 3, 4, 5, 6, 7, 8, 9, 10, 11] mG rfl (by kernel_rfl) ?_
  refine Xe tG rfl rfl rfl rfl (fun _ => rfl) trivial ?_
  refine Xe tG rfl rfl rfl rfl (fun _ => rfl) trivial ?_
  refine Xe tG rfl rfl rfl rfl (fun _ => rfl) trivial ?_
  refine Xe tG rfl rfl rfl rfl (fun _ => rfl) trivial ?_
  refine Xf tG rfl rfl rfl rfl (fun _ => rfl) trivial ?_
  refine Xc rfl rfl rfl rfl (fun _ => dC rfl Tryz.func245 rfl rfl ((clip_reqs _ (by omega)) _)) ?_
  refine Xf tG rfl rfl rfl rfl (fun _ => rfl) trivial ?_
  refine Xe tG rfl rfl rfl rfl (fun _ => rfl) trivial ?_
  refine Xa 83 rfl ((show PV.seq 1 _ .clip = .seq (List.length [(⟨4, 0, 0, 0, 0, xat x 0⟩ : VReq)]) (List.flatMap cReq [(⟨4, 0, 0, 0, 0, xat x 0⟩ : VReq)]) .clip from rfl)) ?_
  refine WU_does0 rfl rfl rfl rfl (fun _ => does_append_drawn (lO tG rfl) rfl (lO tG rfl) (lO tG rfl) rfl rfl (by first | exact ⟨_, rfl⟩ | rfl) (by first | exact ⟨rfl, rfl, flatMap_len _ 6 (fun _ => rfl) _, okC_flat _ (fun _ => rfl) _⟩ | exact ⟨rfl, rfl, by simp, by simp [okC]⟩ | exact ⟨rfl, rfl, rfl⟩) (by first | exact flatMap_len _ 6 (fun _ => rfl) _ | rfl | simp) (by first | (dsimp only; omega) | (first | exact trivial | omega | (simp only [dnL] at *; omega) | (simp_all; done) | (simp_all; omega))) (by first | (dsimp only; omega) | (first | exact trivial | omega | (simp only [dnL] at *; omega) | (simp_all; done) | (simp_all; omega))) (by first | exact flatL_app (flatL_map' (fun x => by simp) _) (flatL_map' (fun x => by simp) _) | (simp [FlatL, Flat]; done))) ?_
  first | refine Xa 84 rfl (sq_append cReq) ?_ | refine Xa 84 rfl (sq_snoc cReq _) ?_ | refine Xa 84 rfl (sq_one cReq _) ?_ | refine Xa 84 rfl (sq_none cReq) ?_
  refine Xe tG rfl rfl rfl rfl (fun _ => rfl) trivial ?_
  refine Xe tG rfl rfl rfl rfl (fun _ => rfl) trivial ?_
  refine WU_ev3 tG rfl rfl rfl rfl rfl trivial ?_
  refine WU_nil ?_
  refine Ws ?_
  refine W_region rfl ?_
  iterate 2 refine We tG rfl rfl rfl trivial ?_
  refine Wn ?_
  refine Wq ?_
  first | refine leafM rfl rfl ?_ ?_ | refine leafMs rfl rfl ?_ ?_
  ·rw [pCancel, if_neg h5]; rfl
  ·rw [pCancel, if_neg h5]; rfl
theorem d_post (v : VVm) (x : List Int) (hr : v.req.length ≤ 100000) (hd : v.hand.length ≤ 1000000) (hx : XOk 3 x) : ∀ (H : List Ob) (i : Nat), H[i]? = some (.cells (cVm v) 36) → HC Tryz.prog 244 (.ptr i 0 :: [sq cInt x, .row [i64 1], .row [i64 3]]) H (tLv (pPost v x).2) (H.set i (.cells (cVm (pPost v x).1) 36)) := by
 have hl := hx.len
 refine mut_of_W tG (rs := [.tmp 6, .tmp 7]) Tryz.func244 rfl rfl rfl (by simp) (by simp) (by simp) (by simp) (fun B => ?_)
 refine Ws ?_
 refine W_region rfl ?_
 iterate 2 refine We tG rfl rfl rfl trivial ?_
 refine Wn ?_
 refine Ws ?_
 refine W_region rfl ?_
 iterate 4 refine We tG rfl rfl rfl trivial ?_
 refine Wn ?_
 iterate 2 refine Ws ?_
 refine W_region rfl ?_
 iterate 2 refine We tG rfl rfl rfl trivial ?_
 refine Wn ?_
 refine Wf rfl (by decide) ?_
 refine Ws ?_
 refine W_drawU [0, 0, 0, 0, 0, 0, 0, 0, 0, 0, 3, 0, 3, 0, 3] [0, 1, 2, 3, 4, 5, 6, 7, 8, 9, 10, 11, 12, 13, 14] mG rfl (by kernel_rfl) ?_
 refine Xe tG rfl rfl rfl rfl (fun _ => rfl) trivial ?_
 first | refine Xi tG rfl rfl rfl rfl (fun _ => rfl) (by first | exact trivial | omega | (simp only [dnL] at *; omega) | (simp_all; done) | (simp_all; omega)) (iN cInt 1 (fun _ => rfl) 0 (by first | exact trivial | omega | (simp only [dnL] at *; omega) | (simp_all; done) | (simp_all; omega))) ?_ | refine Xi tG rfl rfl rfl rfl (fun _ => rfl) (by first | exact trivial | omega | (simp only [dnL] at *; omega) | (simp_all; done) | (simp_all; omega)) (iR cInt 1 (fun _ => rfl) 0 (by first | exact trivial | omega | (simp only [dnL] at *; omega) | (simp_all; done) | (simp_all; omega))) ?_
 refine Xe tG rfl rfl rfl rfl (fun _ => rfl) trivial ?_
 refine Xe tG rfl rfl rfl rfl (fun _ => rfl) trivial ?_
 first | refine Xi tG rfl rfl rfl rfl (fun _ => rfl) (by first | exact trivial | omega | (simp only [dnL] at *; omega) | (simp_all; done) | (simp_all; omega)) (iN cInt 1 (fun _ => rfl) 0 (by first | exact trivial | omega | (simp only [dnL] at *; omega) | (simp_all; done) | (simp_all; omega))) ?_ | refine Xi tG rfl rfl rfl rfl (fun _ => rfl) (by first | exact trivial | omega | (simp only [dnL] at *; omega) | (simp_all; done) | (simp_all; omega)) (iR cInt 1 (fun _ => rfl) 0 (by first | exact trivial | omega | (simp only [dnL] at *; omega) | (simp_all; done) | (simp_all; omega))) ?_
 refine Xe tG rfl rfl rfl rfl (fun _ => rfl) trivial ?_
 refine Xe tG rfl rfl rfl rfl (fun _ => rfl) trivial ?_
 first | refine Xi tG rfl rfl rfl rfl (fun _ => rfl) (by first | exact trivial | omega | (simp only [dnL] at *; omega) | (simp_all; done) | (simp_all; omega)) (iN cInt 1 (fun _ => rfl) 0 (by first | exact trivial | omega | (simp only [dnL] at *; omega) | (simp_all; done) | (simp_all; omega))) ?_ | refine Xi tG rfl rfl rfl rfl (fun _ => rfl) (by first | exact trivial | omega | (simp only [dnL] at *; omega) | (simp_all; done) | (simp_all; omega)) (iR cInt 1 (fun _ => rfl) 0 (by first | exact trivial | omega | (simp only [dnL] at *; omega) | (simp_all; done) | (simp_all; omega))) ?_
 refine Xe tG rfl rfl rfl rfl (fun _ => rfl) trivial ?_
 refine Xe tG rfl rfl rfl rfl (fun _ => rfl) trivial ?_
 refine WU_ev3 tG rfl rfl rfl rfl rfl trivial ?_
 refine Xe tG rfl rfl rfl rfl (fun _ => rfl) trivial ?_
 refine WU_ev3 tG rfl rfl rfl rfl rfl trivial ?_
 refine Xe tG rfl rfl rfl rfl (fun _ => rfl) trivial ?_
 refine WU_ev3 tG rfl rfl rfl rfl rfl trivial ?_
 refine WU_nil ?_
 refine Ws ?_
 refine W_drawU [0, 1, 0, 0, 0, 1, 0, 0, 0, 1, 0, 0, 0, 0, 0, 1, 0, 0, 0, 0, 1, 0, 0] [0, 1, 2, 3, 4, 5, 6, 7, 8, 9, 10, 11, 12, 13, 14, 15, 16, 17, 18, 19, 20, 21, 22] mG rfl (by kernel_rfl) ?_
 refine Xe tG rfl rfl rfl rfl (fun _ => rfl) trivial ?_
 refine Xf tG rfl rfl rfl rfl (fun _ => rfl) trivial ?_
 refine Xe tG rfl rfl rfl rfl (fun _ => rfl) trivial ?_
 refine Xe tG rfl rfl rfl rfl (fun _ => rfl) trivial ?_
 refine WU_split 33 rfl (fun hg1 => ?_) (fun hg1 => ?_)
 ·have h1 : xat x 1 < 0 := of_decide_eq_true hg1
  have hb : pBounds v x := .inl h1
  iterate 8 refine WU_skip rfl rfl rfl rfl ?_
  refine Xe tG rfl rfl rfl rfl (fun _ => rfl) trivial ?_
  refine Xe tG rfl rfl rfl rfl (fun _ => rfl) trivial ?_
  iterate 3 refine WU_skip rfl rfl rfl rfl ?_
  refine Xe tG rfl rfl rfl rfl (fun _ => rfl) trivial ?_
  refine Xe tG rfl rfl rfl rfl (fun _ => rfl) trivial ?_
  iterate 3 refine WU_skip rfl rfl rfl rfl ?_
  refine Xe tG rfl rfl rfl rfl (fun _ => rfl) trivial ?_
  refine WU_nil ?_
  refine Wt rfl rfl ?_
  refine Ws ?_
  refine W_region rfl ?_
  iterate 2 refine We tG rfl rfl rfl trivial ?_
  refine Wn ?_
  refine Wq ?_
  first | refine leafM rfl rfl ?_ ?_ | refine leafMs rfl rfl ?_ ?_
  ·rw [pPost, if_pos hb]; rfl
  ·rw [pPost, if_pos hb]; rfl
 ·have h1 : ¬ xat x 1 < 0 := of_decide_eq_false hg1
  refine Xe tG rfl rfl rfl rfl (fun _ => rfl) trivial ?_
  refine Xf tG rfl rfl rfl rfl (fun _ => rfl) trivial ?_
  refine Xe tG rfl rfl rfl rfl (fun _ => rfl) trivial ?_
  refine Xe tG rfl rfl rfl rfl (fun _ => rfl) trivial ?_
  refine Xe tG rfl rfl rfl rfl (fun _ => rfl) trivial ?_
  refine Xf tG rfl rfl rfl rfl (fun _ => rfl) trivial ?_
  refine Xe tG rfl rfl rfl rfl (fun _ => rfl) trivial ?_
  refine Xe tG rfl rfl rfl rfl (fun _ => rfl) trivial ?_
  refine Xe tG rfl rfl rfl rfl (fun _ => rfl) trivial ?_
  refine Xe tG rfl rfl rfl rfl (fun _ => rfl) trivial ?_
  refine WU_split 43 rfl (fun hg2 => ?_) (fun hg2 => ?_)
  ·have h2 : (v.hand.length : Int) ≤ xat x 1 := of_decide_eq_true hg2
   have hb : pBounds v x := .inr (.inl h2)
   iterate 3 refine WU_skip rfl rfl rfl rfl ?_
   refine Xe tG rfl rfl rfl rfl (fun _ => rfl) trivial ?_
   refine Xe tG rfl rfl rfl rfl (fun _ => rfl) trivial ?_
   iterate 3 refine WU_skip rfl rfl rfl rfl ?_
   refine Xe tG rfl rfl rfl rfl (fun _ => rfl) trivial ?_
   refine WU_nil ?_
   refine Wt rfl rfl ?_
   refine Ws ?_
   refine W_region rfl ?_
   iterate 2 refine We tG rfl rfl rfl trivial ?_
   refine Wn ?_
   refine Wq ?_
   first | refine leafM rfl rfl ?_ ?_ | refine leafMs rfl rfl ?_ ?_
   ·rw [pPost, if_pos hb]; rfl
   ·rw [pPost, if_pos hb]; rfl
  ·have h2 : ¬ (v.hand.length : Int) ≤ xat x 1 := of_decide_eq_false hg2
   refine Xe tG rfl rfl rfl rfl (fun _ => rfl) trivial ?_
   refine Xf tG rfl rfl rfl rfl (fun _ => rfl) trivial ?_
   refine Xe tG rfl rfl rfl rfl (fun _ => rfl) trivial ?_
   refine Xe tG rfl rfl rfl rfl (fun _ => rfl) trivial ?_
   refine Xe tG rfl rfl rfl rfl (fun _ => rfl) trivial ?_
   refine WU_split 48 rfl (fun hg3 => ?_) (fun hg3 => ?_)
   ·have h3 : xat x 2 < 0 := of_decide_eq_true hg3
    have hb : pBounds v x := .inr (.inr (.inl h3))
    iterate 3 refine WU_skip rfl rfl rfl rfl ?_
    refine Xe tG rfl rfl rfl rfl (fun _ => rfl) trivial ?_
    refine WU_nil ?_
    refine Wt rfl rfl ?_
    refine Ws ?_
    refine W_region rfl ?_
    iterate 2 refine We tG rfl rfl rfl trivial ?_
    refine Wn ?_
    refine Wq ?_
    first | refine leafM rfl rfl ?_ ?_ | refine leafMs rfl rfl ?_ ?_
    ·rw [pPost, if_pos hb]; rfl
    ·rw [pPost, if_pos hb]; rfl
   ·have h3 : ¬ xat x 2 < 0 := of_decide_eq_false hg3
    refine Xe tG rfl rfl rfl rfl (fun _ => rfl) trivial ?_
    refine Xf tG rfl rfl rfl rfl (fun _ => rfl) trivial ?_
    refine Xe tG rfl rfl rfl rfl (fun _ => rfl) trivial ?_
    refine Xe tG rfl rfl rfl rfl (fun _ => rfl) trivial ?_
    refine WU_nil ?_
    refine Wi rfl (fun hi2 => ?_) (fun hi2 => ?_)
    ·have h4 : 4 ≤ xat x 2 := of_decide_eq_true hi2
     have hb : pBounds v x := .inr (.inr (.inr (by omega)))
     refine Ws ?_
     refine W_region rfl ?_
     iterate 2 refine We tG rfl rfl rfl trivial ?_
     refine Wn ?_
     refine Wq ?_
     first | refine leafM rfl rfl ?_ ?_ | refine leafMs rfl rfl ?_ ?_
     ·rw [pPost, if_pos hb]; rfl
     ·rw [pPost, if_pos hb]; rfl
    ·have h4 : ¬ 4 ≤ xat x 2 := of_decide_eq_false hi2
     have hb : ¬ pBounds v x := by rintro (h | h | h | h) <;> omega
     refine Wj ?_
     refine Ws ?_
     refine W_region rfl ?_
     iterate 3 refine We tG rfl rfl rfl trivial ?_
     refine Wn ?_
     iterate 2 refine Ws ?_
     refine W_region rfl ?_
     iterate 2 refine We tG rfl rfl rfl trivial ?_
     refine WO_false 56 rfl (by decide) ?_
     iterate 10 refine Wk rfl rfl ?_
     refine We tG rfl rfl rfl trivial ?_
     refine Wn ?_
     refine Wf rfl rfl ?_
     refine Wj ?_
     iterate 2 refine Ws ?_
     refine W_region rfl ?_
     iterate 6 refine We tG rfl rfl rfl trivial ?_
     refine Wn ?_
     refine Wi rfl (fun hi3 => ?_) (fun hi3 => ?_)
     ·have h5 : 16 ≤ (v.req.length : Int) := of_decide_eq_true hi3
      refine Ws ?_
      refine W_region rfl ?_
      iterate 2 refine We tG rfl rfl rfl trivial ?_
      refine Wn ?_
      refine Wq ?_
      first | refine leafM rfl rfl ?_ ?_ | refine leafMs rfl rfl ?_ ?_
      ·rw [pPost, if_neg hb, if_pos h5]; rfl
      ·rw [pPost, if_neg hb, if_pos h5]; rfl
     ·have h5 : ¬ 16 ≤ (v.req.length : Int) := of_decide_eq_false hi3
      refine Wj ?_
      iterate 2 refine Ws ?_
      refine W_region rfl ?_
      iterate 2 refine We tG rfl rfl rfl trivial ?_
      refine Wn ?_
      refine Wt rfl (by decide) ?_
      refine Ws ?_
      refine W_drawU [0, 0, 0, 0, 1, 0, 1, 0, 0, 0, 0, 3] [0, 1, 2, 3, 4, 5, 6, 7, 8, 9, 10, 11] mG rfl (by kernel_rfl) ?_
      refine Xe tG rfl rfl rfl rfl (fun _ => rfl) trivial ?_
      refine Xe tG rfl rfl rfl rfl (fun _ => rfl) trivial ?_
      refine Xe tG rfl rfl rfl rfl (fun _ => rfl) trivial ?_
      refine Xe tG rfl rfl rfl rfl (fun _ => rfl) trivial ?_
      refine Xf tG rfl rfl rfl rfl (fun _ => rfl) trivial ?_
      refine Xc rfl rfl rfl rfl (fun _ => dC rfl Tryz.func245 rfl rfl ((clip_reqs _ (by omega)) _)) ?_
      refine Xf tG rfl rfl rfl rfl (fun _ => rfl) trivial ?_
      refine Xe tG rfl rfl rfl rfl (fun _ => rfl) trivial ?_
      refine Xa 83 rfl ((show PV.seq 1 _ .clip = .seq (List.length [(⟨1, xat x 0, xat x 1, xat x 2, 0, 0⟩ : VReq)]) (List.flatMap cReq [(⟨1, xat x 0, xat x 1, xat x 2, 0, 0⟩ : VReq)]) .clip from rfl)) ?_
      refine WU_does0 rfl rfl rfl rfl (fun _ => does_append_drawn (lO tG rfl) rfl (lO tG rfl) (lO tG rfl) rfl rfl (by first | exact ⟨_, rfl⟩ | rfl) (by first | exact ⟨rfl, rfl, flatMap_len _ 6 (fun _ => rfl) _, okC_flat _ (fun _ => rfl) _⟩ | exact ⟨rfl, rfl, by simp, by simp [okC]⟩ | exact ⟨rfl, rfl, rfl⟩) (by first | exact flatMap_len _ 6 (fun _ => rfl) _ | rfl | simp) (by first | (dsimp only; omega) | (first | exact trivial | omega | (simp only [dnL] at *; omega) | (simp_all; done) | (simp_all; omega))) (by first | (dsimp only; omega) | (first | exact trivial | omega | (simp only [dnL] at *; omega) | (simp_all; done) | (simp_all; omega))) (by first | exact flatL_app (flatL_map' (fun x => by simp) _) (flatL_map' (fun x => by simp) _) | (simp [FlatL, Flat]; done))) ?_
      first | refine Xa 84 rfl (sq_append cReq) ?_ | refine Xa 84 rfl (sq_snoc cReq _) ?_ | refine Xa 84 rfl (sq_one cReq _) ?_ | refine Xa 84 rfl (sq_none cReq) ?_
      refine Xe tG rfl rfl rfl rfl (fun _ => rfl) trivial ?_
      refine Xe tG rfl rfl rfl rfl (fun _ => rfl) trivial ?_
      refine WU_ev3 tG rfl rfl rfl rfl rfl trivial ?_
      refine WU_nil ?_
      refine Ws ?_
      refine W_region rfl ?_
      iterate 2 refine We tG rfl rfl rfl trivial ?_
      refine Wn ?_
      refine Wq ?_
      first | refine leafM rfl rfl ?_ ?_ | refine leafMs rfl rfl ?_ ?_
      ·rw [pPost, if_neg hb, if_neg h5]; rfl
      ·rw [pPost, if_neg hb, if_neg h5]; rfl
theorem d_timer (k : Int) (hk : k ≠ 4) (v : VVm) (x : List Int) (hr : v.req.length ≤ 100000) (hd : v.hand.length ≤ 1000000) (hx : XOk 4 x) : ∀ (H : List Ob) (i : Nat), H[i]? = some (.cells (cVm v) 36) → HC Tryz.prog 244 (.ptr i 0 :: [sq cInt x, .row [i64 k], .row [i64 4]]) H (tLv (pTimer k v x).2) (H.set i (.cells (cVm (pTimer k v x).1) 36)) := by
 have hl := hx.len
 refine mut_of_W tG (rs := [.tmp 6, .tmp 7]) Tryz.func244 rfl rfl rfl (by simp) (by simp) (by simp) (by simp) (fun B => ?_)
 refine Ws ?_
 refine W_region rfl ?_
 iterate 2 refine We tG rfl rfl rfl trivial ?_
 refine Wn ?_
 refine Ws ?_
 refine W_region rfl ?_
 iterate 4 refine We tG rfl rfl rfl trivial ?_
 refine Wn ?_
 iterate 2 refine Ws ?_
 refine W_region rfl ?_
 iterate 2 refine We tG rfl rfl rfl trivial ?_
 refine Wn ?_
 refine Wf rfl (by exact beq_eq_false_iff_ne.2 hk) ?_
 refine Ws ?_
 refine V.W_drawU [0, 0, 0, 0, 0, 0, 0, 0, 0, 0, 3, 0, 3, 0, 3] [0, 1, 2, 3, 4, 5, 6, 7, 8, 9, 10, 11, 12, 13, 14] mG rfl (by kernel_rfl) ?_
 refine V.Xe tG rfl rfl rfl rfl (fun _ => rfl) trivial ?_
 first | refine V.Xi tG rfl rfl rfl rfl (fun _ => rfl) (by first | exact trivial | omega | (simp only [dnL] at *; omega) | (simp_all; done) | (simp_all; omega)) (iN cInt 1 (fun _ => rfl) 0 (by first | exact trivial | omega | (simp only [dnL] at *; omega) | (simp_all; done) | (simp_all; omega))) ?_ | refine V.Xi tG rfl rfl rfl rfl (fun _ => rfl) (by first | exact trivial | omega | (simp only [dnL] at *; omega) | (simp_all; done) | (simp_all; omega)) (iR cInt 1 (fun _ => rfl) 0 (by first | exact trivial | omega | (simp only [dnL] at *; omega) | (simp_all; done) | (simp_all; omega))) ?_
 refine V.Xe tG rfl rfl rfl rfl (fun _ => rfl) trivial ?_
 refine V.Xe tG rfl rfl rfl rfl (fun _ => rfl) trivial ?_
 first | refine V.Xi tG rfl rfl rfl rfl (fun _ => rfl) (by first | exact trivial | omega | (simp only [dnL] at *; omega) | (simp_all; done) | (simp_all; omega)) (iN cInt 1 (fun _ => rfl) 0 (by first | exact trivial | omega | (simp only [dnL] at *; omega) | (simp_all; done) | (simp_all; omega))) ?_ | refine V.Xi tG rfl rfl rfl rfl (fun _ => rfl) (by first | exact trivial | omega | (simp only [dnL] at *; omega) | (simp_all; done) | (simp_all; omega)) (iR cInt 1 (fun _ => rfl) 0 (by first | exact trivial | omega | (simp only [dnL] at *; omega) | (simp_all; done) | (simp_all; omega))) ?_
 refine V.Xe tG rfl rfl rfl rfl (fun _ => rfl) trivial ?_
 refine V.Xe tG rfl rfl rfl rfl (fun _ => rfl) trivial ?_
 first | refine V.Xi tG rfl rfl rfl rfl (fun _ => rfl) (by first | exact trivial | omega | (simp only [dnL] at *; omega) | (simp_all; done) | (simp_all; omega)) (iN cInt 1 (fun _ => rfl) 0 (by first | exact trivial | omega | (simp only [dnL] at *; omega) | (simp_all; done) | (simp_all; omega))) ?_ | refine V.Xi tG rfl rfl rfl rfl (fun _ => rfl) (by first | exact trivial | omega | (simp only [dnL] at *; omega) | (simp_all; done) | (simp_all; omega)) (iR cInt 1 (fun _ => rfl) 0 (by first | exact trivial | omega | (simp only [dnL] at *; omega) | (simp_all; done) | (simp_all; omega))) ?_
 refine V.Xe tG rfl rfl rfl rfl (fun _ => rfl) trivial ?_
 refine V.Xe tG rfl rfl rfl rfl (fun _ => rfl) trivial ?_
 refine V.WU_ev3 tG rfl rfl rfl rfl rfl trivial ?_
 refine V.Xe tG rfl rfl rfl rfl (fun _ => rfl) trivial ?_
 refine V.WU_ev3 tG rfl rfl rfl rfl rfl trivial ?_
 refine V.Xe tG rfl rfl rfl rfl (fun _ => rfl) trivial ?_
 refine V.WU_ev3 tG rfl rfl rfl rfl rfl trivial ?_
 refine V.WU_nil ?_
 refine Ws ?_
 refine V.W_drawU [0, 1, 0, 0, 0, 1, 0, 0, 0, 1, 0, 0, 0, 0, 0, 1, 0, 0, 0, 0, 1, 0, 0] [0, 1, 2, 3, 4, 5, 6, 7, 8, 9, 10, 11, 12, 13, 14, 15, 16, 17, 18, 19, 20, 21, 22] mG rfl (by kernel_rfl) ?_
 refine V.Xe tG rfl rfl rfl rfl (fun _ => rfl) trivial ?_
 refine V.Xf tG rfl rfl rfl rfl (fun _ => rfl) trivial ?_
 refine V.Xe tG rfl rfl rfl rfl (fun _ => rfl) trivial ?_
 refine V.Xe tG rfl rfl rfl rfl (fun _ => rfl) trivial ?_
 refine V.WU_split 33 rfl (fun hg1 => ?_) (fun hg1 => ?_)
 ·have h1 : xat x 1 < 0 := of_decide_eq_true hg1
  have hb : pBounds v x := .inl h1
  iterate 8 refine V.WU_skip rfl rfl rfl rfl ?_
  refine V.Xe tG rfl rfl rfl rfl (fun _ => rfl) trivial ?_
  refine V.Xe tG rfl rfl rfl rfl (fun _ => rfl) trivial ?_
  iterate 3 refine V.WU_skip rfl rfl rfl rfl ?_
  refine V.Xe tG rfl rfl rfl rfl (fun _ => rfl) trivial ?_
  refine V.Xe tG rfl rfl rfl rfl (fun _ => rfl) trivial ?_
  iterate 3 refine V.WU_skip rfl rfl rfl rfl ?_
  refine V.Xe tG rfl rfl rfl rfl (fun _ => rfl) trivial ?_
  refine V.WU_nil ?_
  refine Wt rfl rfl ?_
  refine Ws ?_
  refine W_region rfl ?_
  iterate 2 refine We tG rfl rfl rfl trivial ?_
  refine Wn ?_
  refine Wq ?_
  first | refine leafM rfl rfl ?_ ?_ | refine leafMs rfl rfl ?_ ?_
  ·rw [pTimer, if_pos hb]; rfl
  ·rw [pTimer, if_pos hb]; rfl
 ·have h1 : ¬ xat x 1 < 0 := of_decide_eq_false hg1
  refine V.Xe tG rfl rfl rfl rfl (fun _ => rfl) trivial ?_
  refine V.Xf tG rfl rfl rfl rfl (fun _ => rfl) trivial ?_
  refine V.Xe tG rfl rfl rfl rfl (fun _ => rfl) trivial ?_
  refine V.Xe tG rfl rfl rfl rfl (fun _ => rfl) trivial ?_
  refine V.Xe tG rfl rfl rfl rfl (fun _ => rfl) trivial ?_
  refine V.Xf tG rfl rfl rfl rfl (fun _ => rfl) trivial ?_
  refine V.Xe tG rfl rfl rfl rfl (fun _ => rfl) trivial ?_
  refine V.Xe tG rfl rfl rfl rfl (fun _ => rfl) trivial ?_
  refine V.Xe tG rfl rfl rfl rfl (fun _ => rfl) trivial ?_
  refine V.Xe tG rfl rfl rfl rfl (fun _ => rfl) trivial ?_
  refine V.WU_split 43 rfl (fun hg2 => ?_) (fun hg2 => ?_)
  ·have h2 : (v.hand.length : Int) ≤ xat x 1 := of_decide_eq_true hg2
   have hb : pBounds v x := .inr (.inl h2)
   iterate 3 refine V.WU_skip rfl rfl rfl rfl ?_
   refine V.Xe tG rfl rfl rfl rfl (fun _ => rfl) trivial ?_
   refine V.Xe tG rfl rfl rfl rfl (fun _ => rfl) trivial ?_
   iterate 3 refine V.WU_skip rfl rfl rfl rfl ?_
   refine V.Xe tG rfl rfl rfl rfl (fun _ => rfl) trivial ?_
   refine V.WU_nil ?_
   refine Wt rfl rfl ?_
   refine Ws ?_
   refine W_region rfl ?_
   iterate 2 refine We tG rfl rfl rfl trivial ?_
   refine Wn ?_
   refine Wq ?_
   first | refine leafM rfl rfl ?_ ?_ | refine leafMs rfl rfl ?_ ?_
   ·rw [pTimer, if_pos hb]; rfl
   ·rw [pTimer, if_pos hb]; rfl
  ·have h2 : ¬ (v.hand.length : Int) ≤ xat x 1 := of_decide_eq_false hg2
   refine V.Xe tG rfl rfl rfl rfl (fun _ => rfl) trivial ?_
   refine V.Xf tG rfl rfl rfl rfl (fun _ => rfl) trivial ?_
   refine V.Xe tG rfl rfl rfl rfl (fun _ => rfl) trivial ?_
   refine V.Xe tG rfl rfl rfl rfl (fun _ => rfl) trivial ?_
   refine V.Xe tG rfl rfl rfl rfl (fun _ => rfl) trivial ?_
   refine V.WU_split 48 rfl (fun hg3 => ?_) (fun hg3 => ?_)
   ·have h3 : xat x 2 < 0 := of_decide_eq_true hg3
    have hb : pBounds v x := .inr (.inr (.inl h3))
    iterate 3 refine V.WU_skip rfl rfl rfl rfl ?_
    refine V.Xe tG rfl rfl rfl rfl (fun _ => rfl) trivial ?_
    refine V.WU_nil ?_
    refine Wt rfl rfl ?_
    refine Ws ?_
    refine W_region rfl ?_
    iterate 2 refine We tG rfl rfl rfl trivial ?_
    refine Wn ?_
    refine Wq ?_
    first | refine leafM rfl rfl ?_ ?_ | refine leafMs rfl rfl ?_ ?_
    ·rw [pTimer, if_pos hb]; rfl
    ·rw [pTimer, if_pos hb]; rfl
   ·have h3 : ¬ xat x 2 < 0 := of_decide_eq_false hg3
    refine V.Xe tG rfl rfl rfl rfl (fun _ => rfl) trivial ?_
    refine V.Xf tG rfl rfl rfl rfl (fun _ => rfl) trivial ?_
    refine V.Xe tG rfl rfl rfl rfl (fun _ => rfl) trivial ?_
    refine V.Xe tG rfl rfl rfl rfl (fun _ => rfl) trivial ?_
    refine V.WU_nil ?_
    refine Wi rfl (fun hi2 => ?_) (fun hi2 => ?_)
    ·have h4 : 4 ≤ xat x 2 := of_decide_eq_true hi2
     have hb : pBounds v x := .inr (.inr (.inr (by omega)))
     refine Ws ?_
     refine W_region rfl ?_
     iterate 2 refine We tG rfl rfl rfl trivial ?_
     refine Wn ?_
     refine Wq ?_
     first | refine leafM rfl rfl ?_ ?_ | refine leafMs rfl rfl ?_ ?_
     ·rw [pTimer, if_pos hb]; rfl
     ·rw [pTimer, if_pos hb]; rfl
    ·have h4 : ¬ 4 ≤ xat x 2 := of_decide_eq_false hi2
     have hb : ¬ pBounds v x := by rintro (h | h | h | h) <;> omega
     refine Wj ?_
     refine Ws ?_
     refine W_region rfl ?_
     iterate 3 refine We tG rfl rfl rfl trivial ?_
     refine Wn ?_
     iterate 2 refine Ws ?_
     refine W_region rfl ?_
     iterate 2 refine We tG rfl rfl rfl trivial ?_
     refine WO_true 56 rfl (by decide) ?_
     refine We tG rfl rfl rfl trivial ?_
     first | refine Wv tG rfl rfl rfl (by first | exact trivial | omega | (simp only [dnL] at *; omega) | (simp_all; done) | (simp_all; omega)) (iN cInt 1 (fun _ => rfl) 0 (by first | exact trivial | omega | (simp only [dnL] at *; omega) | (simp_all; done) | (simp_all; omega))) ?_ | refine Wv tG rfl rfl rfl (by first | exact trivial | omega | (simp only [dnL] at *; omega) | (simp_all; done) | (simp_all; omega)) (iR cInt 1 (fun _ => rfl) 0 (by first | exact trivial | omega | (simp only [dnL] at *; omega) | (simp_all; done) | (simp_all; omega))) ?_
     iterate 3 refine We tG rfl rfl rfl trivial ?_
     refine Wb 61 rfl (fun hg5 => ?_) (fun hg5 => ?_)
     ·have h6 : xat x 3 < 1 := of_decide_eq_true hg5
      have hq : xat x 3 < 1 ∨ 4294967295 < xat x 3 := .inl h6
      iterate 4 refine Wk rfl rfl ?_
      iterate 2 refine We tG rfl rfl rfl trivial ?_
      refine Wn ?_
      refine Wt rfl rfl ?_
      refine Ws ?_
      refine W_region rfl ?_
      iterate 2 refine We tG rfl rfl rfl trivial ?_
      refine Wn ?_
      refine Wq ?_
      first | refine leafM rfl rfl ?_ ?_ | refine leafMs rfl rfl ?_ ?_
      ·rw [pTimer, if_neg hb, if_pos hq]; rfl
      ·rw [pTimer, if_neg hb, if_pos hq]; rfl
     ·have h6 : ¬ xat x 3 < 1 := of_decide_eq_false hg5
      refine We tG rfl rfl rfl trivial ?_
      first | refine Wv tG rfl rfl rfl (by first | exact trivial | omega | (simp only [dnL] at *; omega) | (simp_all; done) | (simp_all; omega)) (iN cInt 1 (fun _ => rfl) 0 (by first | exact trivial | omega | (simp only [dnL] at *; omega) | (simp_all; done) | (simp_all; omega))) ?_ | refine Wv tG rfl rfl rfl (by first | exact trivial | omega | (simp only [dnL] at *; omega) | (simp_all; done) | (simp_all; omega)) (iR cInt 1 (fun _ => rfl) 0 (by first | exact trivial | omega | (simp only [dnL] at *; omega) | (simp_all; done) | (simp_all; omega))) ?_
      iterate 4 refine We tG rfl rfl rfl trivial ?_
      refine Wn ?_
      refine Wi rfl (fun hi3 => ?_) (fun hi3 => ?_)
      ·have h7 : 4294967296 ≤ xat x 3 := of_decide_eq_true hi3
       have hq : xat x 3 < 1 ∨ 4294967295 < xat x 3 := .inr (by omega)
       refine Ws ?_
       refine W_region rfl ?_
       iterate 2 refine We tG rfl rfl rfl trivial ?_
       refine Wn ?_
       refine Wq ?_
       first | refine leafM rfl rfl ?_ ?_ | refine leafMs rfl rfl ?_ ?_
       ·rw [pTimer, if_neg hb, if_pos hq]; rfl
       ·rw [pTimer, if_neg hb, if_pos hq]; rfl
      ·have h7 : ¬ 4294967296 ≤ xat x 3 := of_decide_eq_false hi3
       have hq : ¬ (xat x 3 < 1 ∨ 4294967295 < xat x 3) := by omega
       refine Wj ?_
       iterate 2 refine Ws ?_
       refine W_region rfl ?_
       iterate 6 refine We tG rfl rfl rfl trivial ?_
       refine Wn ?_
       refine Wi rfl (fun hi4 => ?_) (fun hi4 => ?_)
       ·have h5 : 16 ≤ (v.req.length : Int) := of_decide_eq_true hi4
        refine Ws ?_
        refine W_region rfl ?_
        iterate 2 refine We tG rfl rfl rfl trivial ?_
        refine Wn ?_
        refine Wq ?_
        first | refine leafM rfl rfl ?_ ?_ | refine leafMs rfl rfl ?_ ?_
        ·rw [pTimer, if_neg hb, if_neg hq, if_pos h5]; rfl
        ·rw [pTimer, if_neg hb, if_neg hq, if_pos h5]; rfl
       ·have h5 : ¬ 16 ≤ (v.req.length : Int) := of_decide_eq_false hi4
        refine Wj ?_
        iterate 2 refine Ws ?_
        refine W_region rfl ?_
        iterate 2 refine We tG rfl rfl rfl trivial ?_
        refine Wn ?_
        refine Wf rfl (by decide) ?_
        refine Wj ?_
        iterate 2 refine Ws ?_
        refine W_region rfl ?_
        iterate 6 refine We tG rfl rfl rfl trivial ?_
        refine Wb 92 rfl (fun hg6 => ?_) (fun hg6 => ?_)
        ·have h8 : v.free = 0 := beq_iff_eq.1 hg6
         have hw : v.free = 0 ∨ v.next = 4611686018427387904 := .inl h8
         iterate 5 refine Wk rfl rfl ?_
         refine We tG rfl rfl rfl trivial ?_
         refine Wn ?_
         refine Wt rfl rfl ?_
         refine Ws ?_
         refine W_region rfl ?_
         iterate 2 refine We tG rfl rfl rfl trivial ?_
         refine Wn ?_
         refine Wq ?_
         first | refine leafM rfl rfl ?_ ?_ | refine leafMs rfl rfl ?_ ?_
         ·rw [pTimer, if_neg hb, if_neg hq, if_neg h5, if_pos hw]; rfl
         ·rw [pTimer, if_neg hb, if_neg hq, if_neg h5, if_pos hw]; rfl
        ·have h8 : ¬ v.free = 0 := beq_eq_false_iff_ne.1 hg6
         iterate 6 refine We tG rfl rfl rfl trivial ?_
         refine Wn ?_
         refine Wi rfl (fun hi6 => ?_) (fun hi6 => ?_)
         ·have h9 : v.next = 4611686018427387904 := beq_iff_eq.1 hi6
          have hw : v.free = 0 ∨ v.next = 4611686018427387904 := .inr h9
          refine Ws ?_
          refine W_region rfl ?_
          iterate 2 refine We tG rfl rfl rfl trivial ?_
          refine Wn ?_
          refine Wq ?_
          first | refine leafM rfl rfl ?_ ?_ | refine leafMs rfl rfl ?_ ?_
          ·rw [pTimer, if_neg hb, if_neg hq, if_neg h5, if_pos hw]; rfl
          ·rw [pTimer, if_neg hb, if_neg hq, if_neg h5, if_pos hw]; rfl
         ·have h9 : ¬ v.next = 4611686018427387904 := beq_eq_false_iff_ne.1 hi6
          have hw : ¬ (v.free = 0 ∨ v.next = 4611686018427387904) := by rintro (h | h) <;> contradiction
          refine Wj ?_
          refine Ws ?_
          refine V.W_drawU [0, 0, 0, 0, 0, 0, 4, 0, 7, 0, 7] [0, 1, 2, 3, 4, 5, 6, 7, 8, 9, 10] mG rfl (by kernel_rfl) ?_
          refine V.Xe tG rfl rfl rfl rfl (fun _ => rfl) trivial ?_
          first | refine V.Xi tG rfl rfl rfl rfl (fun _ => rfl) (by first | exact trivial | omega | (simp only [dnL] at *; omega) | (simp_all; done) | (simp_all; omega)) (iN cInt 1 (fun _ => rfl) 0 (by first | exact trivial | omega | (simp only [dnL] at *; omega) | (simp_all; done) | (simp_all; omega))) ?_ | refine V.Xi tG rfl rfl rfl rfl (fun _ => rfl) (by first | exact trivial | omega | (simp only [dnL] at *; omega) | (simp_all; done) | (simp_all; omega)) (iR cInt 1 (fun _ => rfl) 0 (by first | exact trivial | omega | (simp only [dnL] at *; omega) | (simp_all; done) | (simp_all; omega))) ?_
          refine V.Xe tG rfl rfl rfl rfl (fun _ => rfl) trivial ?_
          refine V.Xe tG rfl rfl rfl rfl (fun _ => rfl) trivial ?_
          refine V.Xe tG rfl rfl rfl rfl (fun _ => rfl) trivial ?_
          refine V.Xe tG rfl rfl rfl rfl (fun _ => rfl) trivial ?_
          refine V.WU_rd 0 rfl rfl rfl rfl rfl (fun H2 h2 => does_load_ptr (lO tG rfl) rfl rfl h2 rfl) ?_
          refine V.Xe tG rfl rfl rfl rfl (fun _ => rfl) trivial ?_
          refine V.WU_wr 1 tG rfl rfl rfl rfl rfl trivial rfl ?_
          refine V.Xe tG rfl rfl rfl rfl (fun _ => rfl) trivial ?_
          refine V.WU_wr 1 tG rfl rfl rfl rfl rfl trivial rfl ?_
          refine V.WU_nil ?_
          refine Ws ?_
          refine V.W_drawU [0, 0, 0, 0, 1, 0, 1, 0, 0, 0, 0, 3] [0, 1, 2, 3, 4, 5, 6, 7, 8, 9, 10, 11] mG rfl (by kernel_rfl) ?_
          refine V.Xe tG rfl rfl rfl rfl (fun _ => rfl) trivial ?_
          refine V.Xe tG rfl rfl rfl rfl (fun _ => rfl) trivial ?_
          refine V.Xe tG rfl rfl rfl rfl (fun _ => rfl) trivial ?_
          refine V.Xe tG rfl rfl rfl rfl (fun _ => rfl) trivial ?_
          refine V.Xf tG rfl rfl rfl rfl (fun _ => rfl) trivial ?_
          refine V.Xc rfl rfl rfl rfl (fun _ => dC rfl Tryz.func245 rfl rfl ((clip_reqs _ (by omega)) _)) ?_
          refine V.Xf tG rfl rfl rfl rfl (fun _ => rfl) trivial ?_
          refine V.Xe tG rfl rfl rfl rfl (fun _ => rfl) trivial ?_
          refine V.Xa 115 rfl ((show PV.seq 1 _ .clip = .seq (List.length [(⟨k, xat x 0, xat x 1, xat x 2, xat x 3, v.next⟩ : VReq)]) (List.flatMap cReq [(⟨k, xat x 0, xat x 1, xat x 2, xat x 3, v.next⟩ : VReq)]) .clip from rfl)) ?_
          refine V.WU_does0 rfl rfl rfl rfl (fun _ => does_append_drawn (lO tG rfl) rfl (lO tG rfl) (lO tG rfl) rfl rfl (by first | exact ⟨_, rfl⟩ | rfl) (by first | exact ⟨rfl, rfl, flatMap_len _ 6 (fun _ => rfl) _, okC_flat _ (fun _ => rfl) _⟩ | exact ⟨rfl, rfl, by simp, by simp [okC]⟩ | exact ⟨rfl, rfl, rfl⟩) (by first | exact flatMap_len _ 6 (fun _ => rfl) _ | rfl | simp) (by first | (dsimp only; omega) | (first | exact trivial | omega | (simp only [dnL] at *; omega) | (simp_all; done) | (simp_all; omega))) (by first | (dsimp only; omega) | (first | exact trivial | omega | (simp only [dnL] at *; omega) | (simp_all; done) | (simp_all; omega))) (by first | exact flatL_app (flatL_map' (fun x => by simp) _) (flatL_map' (fun x => by simp) _) | (simp [FlatL, Flat]; done))) ?_
          first | refine V.Xa 116 rfl (sq_append cReq) ?_ | refine V.Xa 116 rfl (sq_snoc cReq _) ?_ | refine V.Xa 116 rfl (sq_one cReq _) ?_ | refine V.Xa 116 rfl (sq_none cReq) ?_
          refine V.Xe tG rfl rfl rfl rfl (fun _ => rfl) trivial ?_
          refine V.Xe tG rfl rfl rfl rfl (fun _ => rfl) trivial ?_
          refine V.WU_ev3 tG rfl rfl rfl rfl rfl trivial ?_
          refine V.WU_nil ?_
          refine Ws ?_
          refine W_region rfl ?_
          iterate 8 refine We tG rfl rfl rfl trivial ?_
          refine Wn ?_
          refine Ws ?_
          refine W_region rfl ?_
          iterate 8 refine We tG rfl rfl rfl trivial ?_
          refine Wn ?_
          refine Ws ?_
          refine W_region rfl ?_
          iterate 3 refine We tG rfl rfl rfl trivial ?_
          first | refine Wa 135 rfl (bsL cInt [_] rfl rfl) ?_ | skip
          refine Wc rfl rfl (dC rfl Tryz.func55 rfl rfl ((prim_told [v.next]) _)) ?_
          iterate 4 refine We tG rfl rfl rfl trivial ?_
          refine Wn ?_
          refine Wq ?_
          first | refine leafM rfl rfl ?_ ?_ | refine leafMs rfl rfl ?_ ?_
          ·rw [pTimer, if_neg hb, if_neg hq, if_neg h5, if_neg hw]; rfl
          ·rw [pTimer, if_neg hb, if_neg hq, if_neg h5, if_neg hw]; rfl
end Go.Proofs.YtphgdofmjpdhaaaGreat
namespace Go.Proofs.YtphgdofmjpdhaaaGreat
open Go.RowKit
set_option linter.unusedVariables false
set_option maxRecDepth 100000
set_option maxHeartbeats 4000000
def rkK : List MKey := [.s [47, 77, 79, 68], .s [42, 47, 77, 79, 68], .s [42, 47], .s [85, 77, 42], .s [77, 42], .s [85, 77, 47, 77, 79, 68], .s [83, 77, 47, 82, 69, 77], .s [70, 77, 47, 77, 79, 68], .s [83, 62, 68], .s [87, 73, 84, 72, 73, 78]]
def rkV : List PV := [deedP 2 80 [.row [fnP 89 capA]], deedP 3 80 [.row [fnP 90 capAB]], deedP 3 80 [.row [fnP 91 capB]], deedP 2 80 [.row [fnP 92 []]], deedP 2 80 [.row [fnP 94 []]], deedP 3 80 [.row [fnP 95 capA]], deedP 3 80 [.row [fnP 97 capA]], deedP 3 80 [.row [fnP 99 capA]], deedP 1 80 [.row [fnP 100 []]], deedP 3 80 [.row [fnP 102 []]]]
theorem flat_rk : Flat (.smap rkK rkV) := by
 unfold Flat rkV
 simp
theorem prim_reckons : PureC Tryz.prog 56 [] (.smap rkK rkV) := by
 refine pW tG (rs := [.tmp 0]) Tryz.func56 rfl rfl rfl (by first | simp; done | exact flat_rk) (by first | simp; done | exact flat_rk) (fun B => ?_)
 refine Ws ?_
 refine W_region rfl ?_
 refine We tG rfl rfl rfl trivial ?_
 refine Wn ?_
 refine Ws ?_
 refine W_region rfl ?_
 iterate 2 refine We tG rfl rfl rfl trivial ?_
 refine WO_freezeP 1 _ rfl rfl rfl ?_
 refine Wn ?_
 refine Ws ?_
 refine W_region rfl ?_
 iterate 2 refine We tG rfl rfl rfl trivial ?_
 refine WO_freezeP 2 _ rfl rfl rfl ?_
 refine Wn ?_
 refine Ws ?_
 refine W_region rfl ?_
 refine Wd rfl rfl (does_makeMap rfl) ?_
 refine We tG rfl rfl rfl trivial ?_
 refine Wc rfl rfl (dC rfl Tryz.func50 rfl rfl ((mk_pure 2 89 capA (by simp)) _)) ?_
 refine Wd rfl rfl (dI (e := 75) (key := .s [47, 77, 79, 68]) (by kernel_rfl) rfl rfl rfl rfl (by kernel_rfl)) ?_
 refine We tG rfl rfl rfl trivial ?_
 refine Wc rfl rfl (dC rfl Tryz.func50 rfl rfl ((mk_pure 3 90 capAB (by simp)) _)) ?_
 refine Wd rfl rfl (dI (e := 75) (key := .s [42, 47, 77, 79, 68]) (by kernel_rfl) rfl rfl rfl rfl (by kernel_rfl)) ?_
 refine We tG rfl rfl rfl trivial ?_
 refine Wc rfl rfl (dC rfl Tryz.func50 rfl rfl ((mk_pure 3 91 capB (by simp)) _)) ?_
 refine Wd rfl rfl (dI (e := 75) (key := .s [42, 47]) (by kernel_rfl) rfl rfl rfl rfl (by kernel_rfl)) ?_
 refine Wc rfl rfl (dC rfl Tryz.func50 rfl rfl ((mk_pure 2 92 [] (by simp)) _)) ?_
 refine Wd rfl rfl (dI (e := 75) (key := .s [85, 77, 42]) (by kernel_rfl) rfl rfl rfl rfl (by kernel_rfl)) ?_
 refine Wc rfl rfl (dC rfl Tryz.func50 rfl rfl ((mk_pure 2 94 [] (by simp)) _)) ?_
 refine Wd rfl rfl (dI (e := 75) (key := .s [77, 42]) (by kernel_rfl) rfl rfl rfl rfl (by kernel_rfl)) ?_
 refine We tG rfl rfl rfl trivial ?_
 refine Wc rfl rfl (dC rfl Tryz.func50 rfl rfl ((mk_pure 3 95 capA (by simp)) _)) ?_
 refine Wd rfl rfl (dI (e := 75) (key := .s [85, 77, 47, 77, 79, 68]) (by kernel_rfl) rfl rfl rfl rfl (by kernel_rfl)) ?_
 refine We tG rfl rfl rfl trivial ?_
 refine Wc rfl rfl (dC rfl Tryz.func50 rfl rfl ((mk_pure 3 97 capA (by simp)) _)) ?_
 refine Wd rfl rfl (dI (e := 75) (key := .s [83, 77, 47, 82, 69, 77]) (by kernel_rfl) rfl rfl rfl rfl (by kernel_rfl)) ?_
 refine We tG rfl rfl rfl trivial ?_
 refine Wc rfl rfl (dC rfl Tryz.func50 rfl rfl ((mk_pure 3 99 capA (by simp)) _)) ?_
 refine Wd rfl rfl (dI (e := 75) (key := .s [70, 77, 47, 77, 79, 68]) (by kernel_rfl) rfl rfl rfl rfl (by kernel_rfl)) ?_
 refine Wc rfl rfl (dC rfl Tryz.func50 rfl rfl ((mk_pure 1 100 [] (by simp)) _)) ?_
 refine Wd rfl rfl (dI (e := 75) (key := .s [83, 62, 68]) (by kernel_rfl) rfl rfl rfl rfl (by kernel_rfl)) ?_
 refine Wc rfl rfl (dC rfl Tryz.func50 rfl rfl ((mk_pure 3 102 [] (by simp)) _)) ?_
 refine Wd rfl rfl (dI (e := 75) (key := .s [87, 73, 84, 72, 73, 78]) (by kernel_rfl) rfl rfl rfl rfl (by kernel_rfl)) ?_
 refine We tG rfl rfl rfl trivial ?_
 refine WO_freezeM 20 _ rfl rfl rfl ?_
 refine We tG rfl rfl rfl trivial ?_
 refine Wn ?_
 refine Wq ?_
 refine lP rfl ?_
 rfl
def meK : List MKey := [.s [64], .s [67, 64], .s [33], .s [67, 33], .s [43, 33], .s [50, 64], .s [50, 33], .s [70, 73, 76, 76], .s [77, 79, 86, 69], .s [67, 79, 85, 78, 84]]
def meV : List PV := [deedP 1 216 [.row [fnP 105 []]], deedP 1 216 [.row [fnP 106 []]], deedP 2 220 [.row [fnP 108 []]], deedP 2 220 [.row [fnP 110 []]], deedP 2 220 [.row [fnP 112 []]], deedP 1 113 [], deedP 3 220 [.row [fnP 114 []]], deedP 3 220 [.row [fnP 115 []]], deedP 3 220 [.row [fnP 117 []]], deedP 1 119 []]
theorem flat_me : Flat (.smap meK meV) := by
 unfold Flat meV
 simp
theorem prim_memories : PureC Tryz.prog 57 [] (.smap meK meV) := by
 refine pW tG (rs := [.tmp 0]) Tryz.func57 rfl rfl rfl (by first | simp; done | exact flat_me) (by first | simp; done | exact flat_me) (fun B => ?_)
 refine Ws ?_
 refine W_region rfl ?_
 refine We tG rfl rfl rfl trivial ?_
 refine Wn ?_
 refine Ws ?_
 refine W_region rfl ?_
 refine Wd rfl rfl (does_makeMap rfl) ?_
 refine Wc rfl rfl (dC rfl Tryz.func104 rfl rfl ((mk_fetches 105 [] (by simp)) _)) ?_
 refine Wd rfl rfl (dI (e := 75) (key := .s [64]) (by kernel_rfl) rfl rfl rfl rfl (by kernel_rfl)) ?_
 refine Wc rfl rfl (dC rfl Tryz.func104 rfl rfl ((mk_fetches 106 [] (by simp)) _)) ?_
 refine Wd rfl rfl (dI (e := 75) (key := .s [67, 64]) (by kernel_rfl) rfl rfl rfl rfl (by kernel_rfl)) ?_
 refine Wc rfl rfl (dC rfl Tryz.func107 rfl rfl ((mk_changes 2 108 [] (by simp)) _)) ?_
 refine Wd rfl rfl (dI (e := 75) (key := .s [33]) (by kernel_rfl) rfl rfl rfl rfl (by kernel_rfl)) ?_
 refine Wc rfl rfl (dC rfl Tryz.func107 rfl rfl ((mk_changes 2 110 [] (by simp)) _)) ?_
 refine Wd rfl rfl (dI (e := 75) (key := .s [67, 33]) (by kernel_rfl) rfl rfl rfl rfl (by kernel_rfl)) ?_
 refine Wc rfl rfl (dC rfl Tryz.func107 rfl rfl ((mk_changes 2 112 [] (by simp)) _)) ?_
 refine Wd rfl rfl (dI (e := 75) (key := .s [43, 33]) (by kernel_rfl) rfl rfl rfl rfl (by kernel_rfl)) ?_
 refine We tG rfl rfl rfl trivial ?_
 refine Wd rfl rfl (dI (e := 75) (key := .s [50, 64]) (by kernel_rfl) rfl rfl rfl rfl (by kernel_rfl)) ?_
 refine Wc rfl rfl (dC rfl Tryz.func107 rfl rfl ((mk_changes 3 114 [] (by simp)) _)) ?_
 refine Wd rfl rfl (dI (e := 75) (key := .s [50, 33]) (by kernel_rfl) rfl rfl rfl rfl (by kernel_rfl)) ?_
 refine Wc rfl rfl (dC rfl Tryz.func107 rfl rfl ((mk_changes 3 115 [] (by simp)) _)) ?_
 refine Wd rfl rfl (dI (e := 75) (key := .s [70, 73, 76, 76]) (by kernel_rfl) rfl rfl rfl rfl (by kernel_rfl)) ?_
 refine Wc rfl rfl (dC rfl Tryz.func107 rfl rfl ((mk_changes 3 117 [] (by simp)) _)) ?_
 refine Wd rfl rfl (dI (e := 75) (key := .s [77, 79, 86, 69]) (by kernel_rfl) rfl rfl rfl rfl (by kernel_rfl)) ?_
 refine We tG rfl rfl rfl trivial ?_
 refine Wd rfl rfl (dI (e := 75) (key := .s [67, 79, 85, 78, 84]) (by kernel_rfl) rfl rfl rfl rfl (by kernel_rfl)) ?_
 refine We tG rfl rfl rfl trivial ?_
 refine WO_freezeM 12 _ rfl rfl rfl ?_
 refine We tG rfl rfl rfl trivial ?_
 refine Wn ?_
 refine Wq ?_
 refine lP rfl ?_
 rfl
def spK : List MKey := [.s [72, 69, 82, 69], .s [65, 76, 76, 79, 84], .s [44], .s [67, 44], .s [65, 76, 73, 71, 78], .s [66, 65, 83, 69], .s [83, 84, 65, 84, 69], .s [84, 82, 85, 69], .s [70, 65, 76, 83, 69], .s [66, 76], .s [68, 69, 67, 73, 77, 65, 76], .s [72, 69, 88]]
def spV : List PV := [deedP 0 223 [.row [fnP 126 []]], deedP 1 224 [.row [fnP 128 []]], deedP 1 224 [.row [fnP 131 []]], deedP 1 224 [.row [fnP 133 []]], deedP 0 224 [.row [fnP 135 []]], deedP 0 223 [.row [fnP 125 [.row [i64 (0)]]]], deedP 0 223 [.row [fnP 125 [.row [i64 (8)]]]], deedP 0 223 [.row [fnP 125 [.row [i64 (-1)]]]], deedP 0 223 [.row [fnP 125 [.row [i64 (0)]]]], deedP 0 223 [.row [fnP 125 [.row [i64 (32)]]]], deedP 0 121 [.row [i64 10]], deedP 0 121 [.row [i64 16]]]
theorem flat_sp : Flat (.smap spK spV) := by
 unfold Flat spV
 simp
theorem prim_spaces : PureC Tryz.prog 58 [] (.smap spK spV) := by
 refine pW tG (rs := [.tmp 0]) Tryz.func58 rfl rfl rfl (by first | simp; done | exact flat_sp) (by first | simp; done | exact flat_sp) (fun B => ?_)
 refine Ws ?_
 refine W_region rfl ?_
 refine We tG rfl rfl rfl trivial ?_
 refine Wn ?_
 refine Ws ?_
 refine W_region rfl ?_
 refine We tG rfl rfl rfl trivial ?_
 refine Wn ?_
 refine Ws ?_
 refine W_region rfl ?_
 refine We tG rfl rfl rfl trivial ?_
 refine Wn ?_
 refine Ws ?_
 refine W_region rfl ?_
 refine Wd rfl rfl (does_makeMap rfl) ?_
 refine Wc rfl rfl (dC rfl Tryz.func124 rfl rfl ((mk_shown 126 [] (by simp)) _)) ?_
 refine Wd rfl rfl (dI (e := 75) (key := .s [72, 69, 82, 69]) (by kernel_rfl) rfl rfl rfl rfl (by kernel_rfl)) ?_
 refine Wc rfl rfl (dC rfl Tryz.func127 rfl rfl ((mk_lays 1 128 [] (by simp)) _)) ?_
 refine Wd rfl rfl (dI (e := 75) (key := .s [65, 76, 76, 79, 84]) (by kernel_rfl) rfl rfl rfl rfl (by kernel_rfl)) ?_
 refine Wc rfl rfl (dC rfl Tryz.func127 rfl rfl ((mk_lays 1 131 [] (by simp)) _)) ?_
 refine Wd rfl rfl (dI (e := 75) (key := .s [44]) (by kernel_rfl) rfl rfl rfl rfl (by kernel_rfl)) ?_
 refine Wc rfl rfl (dC rfl Tryz.func127 rfl rfl ((mk_lays 1 133 [] (by simp)) _)) ?_
 refine Wd rfl rfl (dI (e := 75) (key := .s [67, 44]) (by kernel_rfl) rfl rfl rfl rfl (by kernel_rfl)) ?_
 refine Wc rfl rfl (dC rfl Tryz.func127 rfl rfl ((mk_lays 0 135 [] (by simp)) _)) ?_
 refine Wd rfl rfl (dI (e := 75) (key := .s [65, 76, 73, 71, 78]) (by kernel_rfl) rfl rfl rfl rfl (by kernel_rfl)) ?_
 refine We tG rfl rfl rfl trivial ?_
 refine Wc rfl rfl (doesCWv rfl rfl Tryz.func123 rfl rfl (mk_always (0) _)) ?_
 refine Wd rfl rfl (dI (e := 75) (key := .s [66, 65, 83, 69]) (by kernel_rfl) rfl rfl rfl rfl (by kernel_rfl)) ?_
 refine We tG rfl rfl rfl trivial ?_
 refine Wc rfl rfl (doesCWv rfl rfl Tryz.func123 rfl rfl (mk_always (8) _)) ?_
 refine Wd rfl rfl (dI (e := 75) (key := .s [83, 84, 65, 84, 69]) (by kernel_rfl) rfl rfl rfl rfl (by kernel_rfl)) ?_
 refine We tG rfl rfl rfl trivial ?_
 refine Wc rfl rfl (doesCWv rfl rfl Tryz.func123 rfl rfl (mk_always (-1) _)) ?_
 refine Wd rfl rfl (dI (e := 75) (key := .s [84, 82, 85, 69]) (by kernel_rfl) rfl rfl rfl rfl (by kernel_rfl)) ?_
 refine We tG rfl rfl rfl trivial ?_
 refine Wc rfl rfl (doesCWv rfl rfl Tryz.func123 rfl rfl (mk_always (0) _)) ?_
 refine Wd rfl rfl (dI (e := 75) (key := .s [70, 65, 76, 83, 69]) (by kernel_rfl) rfl rfl rfl rfl (by kernel_rfl)) ?_
 refine We tG rfl rfl rfl trivial ?_
 refine Wc rfl rfl (doesCWv rfl rfl Tryz.func123 rfl rfl (mk_always (32) _)) ?_
 refine Wd rfl rfl (dI (e := 75) (key := .s [66, 76]) (by kernel_rfl) rfl rfl rfl rfl (by kernel_rfl)) ?_
 refine We tG rfl rfl rfl trivial ?_
 refine Wc rfl rfl (doesCWv rfl rfl Tryz.func120 rfl rfl (mk_base 10 _)) ?_
 refine Wd rfl rfl (dI (e := 75) (key := .s [68, 69, 67, 73, 77, 65, 76]) (by kernel_rfl) rfl rfl rfl rfl (by kernel_rfl)) ?_
 refine We tG rfl rfl rfl trivial ?_
 refine Wc rfl rfl (doesCWv rfl rfl Tryz.func120 rfl rfl (mk_base 16 _)) ?_
 refine Wd rfl rfl (dI (e := 75) (key := .s [72, 69, 88]) (by kernel_rfl) rfl rfl rfl rfl (by kernel_rfl)) ?_
 refine We tG rfl rfl rfl trivial ?_
 refine WO_freezeM 23 _ rfl rfl rfl ?_
 refine We tG rfl rfl rfl trivial ?_
 refine Wn ?_
 refine Wq ?_
 refine lP rfl ?_
 rfl
def prK : List MKey := [.s [69, 77, 73, 84], .s [67, 82], .s [83, 80, 65, 67, 69], .s [83, 80, 65, 67, 69, 83], .s [84, 89, 80, 69], .s [46], .s [85, 46]]
def prV : List PV := [deedP 1 227 [.row [fnP 143 []]], deedP 0 227 [.row [fnP 142 [.row [str [10]]]]], deedP 0 227 [.row [fnP 142 [.row [str [32]]]]], deedP 1 227 [.row [fnP 144 []]], deedP 2 227 [.row [fnP 146 []]], deedP 1 227 [.row [fnP 139 [.row [fnP 148 []]]]], deedP 1 227 [.row [fnP 139 [.row [fnP 149 []]]]]]
theorem flat_pr : Flat (.smap prK prV) := by
 unfold Flat prV
 simp
theorem prim_prints : PureC Tryz.prog 59 [] (.smap prK prV) := by
 refine pW tG (rs := [.tmp 0]) Tryz.func59 rfl rfl rfl (by first | simp; done | exact flat_pr) (by first | simp; done | exact flat_pr) (fun B => ?_)
 refine Ws ?_
 refine W_region rfl ?_
 refine We tG rfl rfl rfl trivial ?_
 refine Wn ?_
 refine Ws ?_
 refine W_region rfl ?_
 refine We tG rfl rfl rfl trivial ?_
 refine Wn ?_
 refine Ws ?_
 refine W_region rfl ?_
 refine We tG rfl rfl rfl trivial ?_
 refine Wn ?_
 refine Ws ?_
 refine W_region rfl ?_
 refine Wd rfl rfl (does_makeMap rfl) ?_
 refine Wc rfl rfl (dC rfl Tryz.func138 rfl rfl ((mk_puts 1 143 [] (by simp)) _)) ?_
 refine Wd rfl rfl (dI (e := 75) (key := .s [69, 77, 73, 84]) (by kernel_rfl) rfl rfl rfl rfl (by kernel_rfl)) ?_
 refine We tG rfl rfl rfl trivial ?_
 refine Wc rfl rfl (doesCWv rfl rfl Tryz.func141 rfl rfl (mk_text [10] _)) ?_
 refine Wd rfl rfl (dI (e := 75) (key := .s [67, 82]) (by kernel_rfl) rfl rfl rfl rfl (by kernel_rfl)) ?_
 refine We tG rfl rfl rfl trivial ?_
 refine Wc rfl rfl (doesCWv rfl rfl Tryz.func141 rfl rfl (mk_text [32] _)) ?_
 refine Wd rfl rfl (dI (e := 75) (key := .s [83, 80, 65, 67, 69]) (by kernel_rfl) rfl rfl rfl rfl (by kernel_rfl)) ?_
 refine Wc rfl rfl (dC rfl Tryz.func138 rfl rfl ((mk_puts 1 144 [] (by simp)) _)) ?_
 refine Wd rfl rfl (dI (e := 75) (key := .s [83, 80, 65, 67, 69, 83]) (by kernel_rfl) rfl rfl rfl rfl (by kernel_rfl)) ?_
 refine Wc rfl rfl (dC rfl Tryz.func138 rfl rfl ((mk_puts 2 146 [] (by simp)) _)) ?_
 refine Wd rfl rfl (dI (e := 75) (key := .s [84, 89, 80, 69]) (by kernel_rfl) rfl rfl rfl rfl (by kernel_rfl)) ?_
 refine We tG rfl rfl rfl trivial ?_
 refine Wc rfl rfl (doesCWv rfl rfl Tryz.func137 rfl rfl (mk_number 148 [] (by simp) _)) ?_
 refine Wd rfl rfl (dI (e := 75) (key := .s [46]) (by kernel_rfl) rfl rfl rfl rfl (by kernel_rfl)) ?_
 refine We tG rfl rfl rfl trivial ?_
 refine Wc rfl rfl (doesCWv rfl rfl Tryz.func137 rfl rfl (mk_number 149 [] (by simp) _)) ?_
 refine Wd rfl rfl (dI (e := 75) (key := .s [85, 46]) (by kernel_rfl) rfl rfl rfl rfl (by kernel_rfl)) ?_
 refine We tG rfl rfl rfl trivial ?_
 refine WO_freezeM 15 _ rfl rfl rfl ?_
 refine We tG rfl rfl rfl trivial ?_
 refine Wn ?_
 refine Wq ?_
 refine lP rfl ?_
 rfl
def piK : List MKey := [.s [60, 35], .s [35], .s [35, 83], .s [72, 79, 76, 68], .s [83, 73, 71, 78], .s [35, 62]]
def piV : List PV := [deedP 0 152 [], deedP 2 154 [], deedP 2 156 [], deedP 1 151 [.row [fnP 158 []]], deedP 1 151 [.row [fnP 159 []]], deedP 2 160 []]
theorem flat_pi : Flat (.smap piK piV) := by
 unfold Flat piV
 simp
theorem prim_pics : PureC Tryz.prog 60 [] (.smap piK piV) := by
 refine pW tG (rs := [.tmp 0]) Tryz.func60 rfl rfl rfl (by first | simp; done | exact flat_pi) (by first | simp; done | exact flat_pi) (fun B => ?_)
 refine Ws ?_
 refine W_region rfl ?_
 refine We tG rfl rfl rfl trivial ?_
 refine Wn ?_
 refine Ws ?_
 refine W_region rfl ?_
 refine We tG rfl rfl rfl trivial ?_
 refine Wn ?_
 refine Ws ?_
 refine W_region rfl ?_
 refine Wd rfl rfl (does_makeMap rfl) ?_
 refine We tG rfl rfl rfl trivial ?_
 refine Wd rfl rfl (dI (e := 75) (key := .s [60, 35]) (by kernel_rfl) rfl rfl rfl rfl (by kernel_rfl)) ?_
 refine We tG rfl rfl rfl trivial ?_
 refine Wd rfl rfl (dI (e := 75) (key := .s [35]) (by kernel_rfl) rfl rfl rfl rfl (by kernel_rfl)) ?_
 refine We tG rfl rfl rfl trivial ?_
 refine Wd rfl rfl (dI (e := 75) (key := .s [35, 83]) (by kernel_rfl) rfl rfl rfl rfl (by kernel_rfl)) ?_
 refine We tG rfl rfl rfl trivial ?_
 refine Wc rfl rfl (doesCWv rfl rfl Tryz.func150 rfl rfl (mk_lay 158 [] (by simp) _)) ?_
 refine Wd rfl rfl (dI (e := 75) (key := .s [72, 79, 76, 68]) (by kernel_rfl) rfl rfl rfl rfl (by kernel_rfl)) ?_
 refine We tG rfl rfl rfl trivial ?_
 refine Wc rfl rfl (doesCWv rfl rfl Tryz.func150 rfl rfl (mk_lay 159 [] (by simp) _)) ?_
 refine Wd rfl rfl (dI (e := 75) (key := .s [83, 73, 71, 78]) (by kernel_rfl) rfl rfl rfl rfl (by kernel_rfl)) ?_
 refine We tG rfl rfl rfl trivial ?_
 refine Wd rfl rfl (dI (e := 75) (key := .s [35, 62]) (by kernel_rfl) rfl rfl rfl rfl (by kernel_rfl)) ?_
 refine We tG rfl rfl rfl trivial ?_
 refine WO_freezeM 11 _ rfl rfl rfl ?_
 refine We tG rfl rfl rfl trivial ?_
 refine Wn ?_
 refine Wq ?_
 refine lP rfl ?_
 rfl
def otK : List MKey := [.s [62, 66, 79, 68, 89], .s [65, 66, 79, 82, 84], .s [80, 79, 83, 84], .s [65, 70, 84, 69, 82], .s [69, 86, 69, 82, 89], .s [67, 65, 78, 67, 69, 76], .s [65, 82, 71], .s [83, 69, 76, 70], .s [78, 79, 87], .s [83, 69, 84, 45, 83, 84, 65, 84, 69], .s [65, 84, 45, 83, 84, 65, 84, 69], .s [71, 69, 84, 45, 83, 84, 65, 84, 69]]
def otV : List PV := [deedP 1 163 [], deedP 0 80 [.row [fnP 165 []]], deedP 3 244 [.row [i64 1], .row [i64 3]], deedP 4 244 [.row [i64 2], .row [i64 4]], deedP 4 244 [.row [i64 3], .row [i64 4]], deedP 1 244 [.row [i64 4], .row [i64 1]], deedP 0 223 [.row [fnP 167 []]], deedP 0 223 [.row [fnP 168 []]], deedP 0 223 [.row [fnP 169 []]], deedP 2 170 [], deedP 3 172 [], deedP 1 216 [.row [fnP 105 []]]]
theorem flat_ot : Flat (.smap otK otV) := by
 unfold Flat otV
 simp
theorem prim_others : PureC Tryz.prog 61 [] (.smap otK otV) := by
 refine pW tG (rs := [.tmp 0]) Tryz.func61 rfl rfl rfl (by first | simp; done | exact flat_ot) (by first | simp; done | exact flat_ot) (fun B => ?_)
 refine Ws ?_
 refine W_region rfl ?_
 refine We tG rfl rfl rfl trivial ?_
 refine Wn ?_
 refine Ws ?_
 refine W_region rfl ?_
 refine Wd rfl rfl (does_makeMap rfl) ?_
 refine We tG rfl rfl rfl trivial ?_
 refine Wd rfl rfl (dI (e := 75) (key := .s [62, 66, 79, 68, 89]) (by kernel_rfl) rfl rfl rfl rfl (by kernel_rfl)) ?_
 refine Wc rfl rfl (dC rfl Tryz.func50 rfl rfl ((mk_pure 0 165 [] (by simp)) _)) ?_
 refine Wd rfl rfl (dI (e := 75) (key := .s [65, 66, 79, 82, 84]) (by kernel_rfl) rfl rfl rfl rfl (by kernel_rfl)) ?_
 refine Wc rfl rfl (dC rfl Tryz.func166 rfl rfl ((mk_asks1) _)) ?_
 refine Wd rfl rfl (dI (e := 75) (key := .s [80, 79, 83, 84]) (by kernel_rfl) rfl rfl rfl rfl (by kernel_rfl)) ?_
 refine Wc rfl rfl (dC rfl Tryz.func166 rfl rfl ((mk_asks2) _)) ?_
 refine Wd rfl rfl (dI (e := 75) (key := .s [65, 70, 84, 69, 82]) (by kernel_rfl) rfl rfl rfl rfl (by kernel_rfl)) ?_
 refine Wc rfl rfl (dC rfl Tryz.func166 rfl rfl ((mk_asks3) _)) ?_
 refine Wd rfl rfl (dI (e := 75) (key := .s [69, 86, 69, 82, 89]) (by kernel_rfl) rfl rfl rfl rfl (by kernel_rfl)) ?_
 refine Wc rfl rfl (dC rfl Tryz.func166 rfl rfl ((mk_asks4) _)) ?_
 refine Wd rfl rfl (dI (e := 75) (key := .s [67, 65, 78, 67, 69, 76]) (by kernel_rfl) rfl rfl rfl rfl (by kernel_rfl)) ?_
 refine Wc rfl rfl (dC rfl Tryz.func124 rfl rfl ((mk_shown 167 [] (by simp)) _)) ?_
 refine Wd rfl rfl (dI (e := 75) (key := .s [65, 82, 71]) (by kernel_rfl) rfl rfl rfl rfl (by kernel_rfl)) ?_
 refine Wc rfl rfl (dC rfl Tryz.func124 rfl rfl ((mk_shown 168 [] (by simp)) _)) ?_
 refine Wd rfl rfl (dI (e := 75) (key := .s [83, 69, 76, 70]) (by kernel_rfl) rfl rfl rfl rfl (by kernel_rfl)) ?_
 refine Wc rfl rfl (dC rfl Tryz.func124 rfl rfl ((mk_shown 169 [] (by simp)) _)) ?_
 refine Wd rfl rfl (dI (e := 75) (key := .s [78, 79, 87]) (by kernel_rfl) rfl rfl rfl rfl (by kernel_rfl)) ?_
 refine We tG rfl rfl rfl trivial ?_
 refine Wd rfl rfl (dI (e := 75) (key := .s [83, 69, 84, 45, 83, 84, 65, 84, 69]) (by kernel_rfl) rfl rfl rfl rfl (by kernel_rfl)) ?_
 refine We tG rfl rfl rfl trivial ?_
 refine Wd rfl rfl (dI (e := 75) (key := .s [65, 84, 45, 83, 84, 65, 84, 69]) (by kernel_rfl) rfl rfl rfl rfl (by kernel_rfl)) ?_
 refine Wc rfl rfl (dC rfl Tryz.func104 rfl rfl ((mk_fetches 105 [] (by simp)) _)) ?_
 refine Wd rfl rfl (dI (e := 75) (key := .s [71, 69, 84, 45, 83, 84, 65, 84, 69]) (by kernel_rfl) rfl rfl rfl rfl (by kernel_rfl)) ?_
 refine We tG rfl rfl rfl trivial ?_
 refine WO_freezeM 14 _ rfl rfl rfl ?_
 refine We tG rfl rfl rfl trivial ?_
 refine Wn ?_
 refine Wq ?_
 refine lP rfl ?_
 rfl
abbrev zDeed : PV := .agg [i64 0, .val .nilFunc]
theorem found_rk (n : Int) (name : Str) (k : Int) (f : FuncId) (cap : List PV) (hn : 72 < n) (hc : FlatL cap)  (h0 : lkPV rkK rkV (.s name) zDeed = (deedP k f cap, true)) : PureC Tryz.prog 27 [i64 n, str name] (deedP k f cap) := by
 refine pW tG (rs := [.cell 4 75]) Tryz.func27 rfl rfl rfl (by simp [hc]) (by simp [hc]) (fun B => ?_)
 refine Ws ?_
 refine W_region rfl ?_
 iterate 2 refine We tG rfl rfl rfl trivial ?_
 refine Wn ?_
 refine Ws ?_
 refine Wl ?_
 refine Ws ?_
 refine W_region rfl ?_
 iterate 3 refine We tG rfl rfl rfl trivial ?_
 refine Wn ?_
 refine Wf rfl (by exact decide_eq_false (by omega)) ?_
 refine Ws ?_
 refine W_region rfl ?_
 iterate 3 refine We tG rfl rfl rfl trivial ?_
 refine Wn ?_
 refine Wf rfl (by exact decide_eq_false (by omega)) ?_
 refine Wj ?_
 iterate 2 refine Ws ?_
 refine W_region rfl ?_
 refine Wc rfl rfl (dC rfl Tryz.func56 rfl rfl ((prim_reckons) _)) ?_
 refine Wc rfl rfl (dC rfl Tryz.func57 rfl rfl ((prim_memories) _)) ?_
 refine Wc rfl rfl (dC rfl Tryz.func58 rfl rfl ((prim_spaces) _)) ?_
 refine Wc rfl rfl (dC rfl Tryz.func59 rfl rfl ((prim_prints) _)) ?_
 refine Wc rfl rfl (dC rfl Tryz.func60 rfl rfl ((prim_pics) _)) ?_
 iterate 2 refine We tG rfl rfl rfl trivial ?_
 refine Wn ?_
 refine Wl ?_
 refine W_rounds 7 ?_
 show W _ _ _ _ _ _ _
 refine Ws ?_
 refine W_region rfl ?_
 refine We tG rfl rfl rfl trivial ?_
 refine Wn ?_
 refine Ws ?_
 refine Wt rfl (by first | rfl | first | exact trivial | omega | (simp only [dnL] at *; omega) | (simp_all; done) | (simp_all; omega)) ?_
 refine Wj ?_
 refine Ws ?_
 refine Wl ?_
 refine Ws ?_
 refine W_region rfl ?_
 refine We tG rfl rfl rfl (by decide) ?_
 refine We tG rfl rfl rfl trivial ?_
 refine Wn ?_
 refine Ws ?_
 refine W_region rfl ?_
 iterate 2 refine We tG rfl rfl rfl trivial ?_
 refine Wd rfl rfl (does_lookup (b := true) (e := 75) (key := .s name) (by kernel_rfl) (lO tG rfl) (by kernel_rfl) rfl rfl rfl rfl (by kernel_rfl) ((by first | exact h0))) ?_
 iterate 6 refine We tG rfl rfl rfl trivial ?_
 refine Wn ?_
 refine Ws ?_
 refine W_region rfl ?_
 refine We tG rfl rfl rfl trivial ?_
 refine Wn ?_
 refine Wt rfl (by first | rfl | first | exact trivial | omega | (simp only [dnL] at *; omega) | (simp_all; done) | (simp_all; omega)) ?_
 refine Ws ?_
 refine W_region rfl ?_
 iterate 2 refine We tG rfl rfl rfl trivial ?_
 refine Wn ?_
 refine Wq ?_
 refine lP rfl ?_
 rfl
theorem found_me (n : Int) (name : Str) (k : Int) (f : FuncId) (cap : List PV) (hn : 72 < n) (hc : FlatL cap) (h0 : lkPV rkK rkV (.s name) zDeed = (zDeed, false)) (h1 : lkPV meK meV (.s name) zDeed = (deedP k f cap, true)) : PureC Tryz.prog 27 [i64 n, str name] (deedP k f cap) := by
 refine pW tG (rs := [.cell 4 75]) Tryz.func27 rfl rfl rfl (by simp [hc]) (by simp [hc]) (fun B => ?_)
 refine Ws ?_
 refine W_region rfl ?_
 iterate 2 refine We tG rfl rfl rfl trivial ?_
 refine Wn ?_
 refine Ws ?_
 refine Wl ?_
 refine Ws ?_
 refine W_region rfl ?_
 iterate 3 refine We tG rfl rfl rfl trivial ?_
 refine Wn ?_
 refine Wf rfl (by exact decide_eq_false (by omega)) ?_
 refine Ws ?_
 refine W_region rfl ?_
 iterate 3 refine We tG rfl rfl rfl trivial ?_
 refine Wn ?_
 refine Wf rfl (by exact decide_eq_false (by omega)) ?_
 refine Wj ?_
 iterate 2 refine Ws ?_
 refine W_region rfl ?_
 refine Wc rfl rfl (dC rfl Tryz.func56 rfl rfl ((prim_reckons) _)) ?_
 refine Wc rfl rfl (dC rfl Tryz.func57 rfl rfl ((prim_memories) _)) ?_
 refine Wc rfl rfl (dC rfl Tryz.func58 rfl rfl ((prim_spaces) _)) ?_
 refine Wc rfl rfl (dC rfl Tryz.func59 rfl rfl ((prim_prints) _)) ?_
 refine Wc rfl rfl (dC rfl Tryz.func60 rfl rfl ((prim_pics) _)) ?_
 iterate 2 refine We tG rfl rfl rfl trivial ?_
 refine Wn ?_
 refine Wl ?_
 refine W_rounds 7 ?_
 show W _ _ _ _ _ _ _
 refine Ws ?_
 refine W_region rfl ?_
 refine We tG rfl rfl rfl trivial ?_
 refine Wn ?_
 refine Ws ?_
 refine Wt rfl (by first | rfl | first | exact trivial | omega | (simp only [dnL] at *; omega) | (simp_all; done) | (simp_all; omega)) ?_
 refine Wj ?_
 refine Ws ?_
 refine Wl ?_
 refine Ws ?_
 refine W_region rfl ?_
 refine We tG rfl rfl rfl (by decide) ?_
 refine We tG rfl rfl rfl trivial ?_
 refine Wn ?_
 refine Ws ?_
 refine W_region rfl ?_
 iterate 2 refine We tG rfl rfl rfl trivial ?_
 refine Wd rfl rfl (does_lookup (b := true) (e := 75) (key := .s name) (by kernel_rfl) (lO tG rfl) (by kernel_rfl) rfl rfl rfl rfl (by kernel_rfl) ((by first | exact h0 | exact h1))) ?_
 iterate 6 refine We tG rfl rfl rfl trivial ?_
 refine Wn ?_
 refine Ws ?_
 refine W_region rfl ?_
 refine We tG rfl rfl rfl trivial ?_
 refine Wn ?_
 refine Wf rfl (by first | rfl | first | exact trivial | omega | (simp only [dnL] at *; omega) | (simp_all; done) | (simp_all; omega)) ?_
 refine Wj ?_
 refine W_region rfl ?_
 refine We tG rfl rfl rfl trivial ?_
 first | refine Wa 36 rfl (show _ = PV.val (.int .i64 1) from rfl) ?_ | refine Wa 36 rfl (show _ = PV.val (.int .i64 2) from rfl) ?_ | refine Wa 36 rfl (show _ = PV.val (.int .i64 3) from rfl) ?_ | refine Wa 36 rfl (show _ = PV.val (.int .i64 4) from rfl) ?_ | refine Wa 36 rfl (show _ = PV.val (.int .i64 5) from rfl) ?_
 refine We tG rfl rfl rfl trivial ?_
 refine Wn ?_
 show W _ _ _ _ _ _ _
 refine Ws ?_
 refine W_region rfl ?_
 refine We tG rfl rfl rfl trivial ?_
 refine Wn ?_
 refine Ws ?_
 refine Wt rfl (by first | rfl | first | exact trivial | omega | (simp only [dnL] at *; omega) | (simp_all; done) | (simp_all; omega)) ?_
 refine Wj ?_
 refine Ws ?_
 refine Wl ?_
 refine Ws ?_
 refine W_region rfl ?_
 refine We tG rfl rfl rfl (by decide) ?_
 refine We tG rfl rfl rfl trivial ?_
 refine Wn ?_
 refine Ws ?_
 refine W_region rfl ?_
 iterate 2 refine We tG rfl rfl rfl trivial ?_
 refine Wd rfl rfl (does_lookup (b := true) (e := 75) (key := .s name) (by kernel_rfl) (lO tG rfl) (by kernel_rfl) rfl rfl rfl rfl (by kernel_rfl) ((by first | exact h0 | exact h1))) ?_
 iterate 6 refine We tG rfl rfl rfl trivial ?_
 refine Wn ?_
 refine Ws ?_
 refine W_region rfl ?_
 refine We tG rfl rfl rfl trivial ?_
 refine Wn ?_
 refine Wt rfl (by first | rfl | first | exact trivial | omega | (simp only [dnL] at *; omega) | (simp_all; done) | (simp_all; omega)) ?_
 refine Ws ?_
 refine W_region rfl ?_
 iterate 2 refine We tG rfl rfl rfl trivial ?_
 refine Wn ?_
 refine Wq ?_
 refine lP rfl ?_
 rfl
theorem found_sp (n : Int) (name : Str) (k : Int) (f : FuncId) (cap : List PV) (hn : 72 < n) (hc : FlatL cap) (h0 : lkPV rkK rkV (.s name) zDeed = (zDeed, false)) (h1 : lkPV meK meV (.s name) zDeed = (zDeed, false)) (h2 : lkPV spK spV (.s name) zDeed = (deedP k f cap, true)) : PureC Tryz.prog 27 [i64 n, str name] (deedP k f cap) := by
 refine pW tG (rs := [.cell 4 75]) Tryz.func27 rfl rfl rfl (by simp [hc]) (by simp [hc]) (fun B => ?_)
 refine Ws ?_
 refine W_region rfl ?_
 iterate 2 refine We tG rfl rfl rfl trivial ?_
 refine Wn ?_
 refine Ws ?_
 refine Wl ?_
 refine Ws ?_
 refine W_region rfl ?_
 iterate 3 refine We tG rfl rfl rfl trivial ?_
 refine Wn ?_
 refine Wf rfl (by exact decide_eq_false (by omega)) ?_
 refine Ws ?_
 refine W_region rfl ?_
 iterate 3 refine We tG rfl rfl rfl trivial ?_
 refine Wn ?_
 refine Wf rfl (by exact decide_eq_false (by omega)) ?_
 refine Wj ?_
 iterate 2 refine Ws ?_
 refine W_region rfl ?_
 refine Wc rfl rfl (dC rfl Tryz.func56 rfl rfl ((prim_reckons) _)) ?_
 refine Wc rfl rfl (dC rfl Tryz.func57 rfl rfl ((prim_memories) _)) ?_
 refine Wc rfl rfl (dC rfl Tryz.func58 rfl rfl ((prim_spaces) _)) ?_
 refine Wc rfl rfl (dC rfl Tryz.func59 rfl rfl ((prim_prints) _)) ?_
 refine Wc rfl rfl (dC rfl Tryz.func60 rfl rfl ((prim_pics) _)) ?_
 iterate 2 refine We tG rfl rfl rfl trivial ?_
 refine Wn ?_
 refine Wl ?_
 refine W_rounds 7 ?_
 show W _ _ _ _ _ _ _
 refine Ws ?_
 refine W_region rfl ?_
 refine We tG rfl rfl rfl trivial ?_
 refine Wn ?_
 refine Ws ?_
 refine Wt rfl (by first | rfl | first | exact trivial | omega | (simp only [dnL] at *; omega) | (simp_all; done) | (simp_all; omega)) ?_
 refine Wj ?_
 refine Ws ?_
 refine Wl ?_
 refine Ws ?_
 refine W_region rfl ?_
 refine We tG rfl rfl rfl (by decide) ?_
 refine We tG rfl rfl rfl trivial ?_
 refine Wn ?_
 refine Ws ?_
 refine W_region rfl ?_
 iterate 2 refine We tG rfl rfl rfl trivial ?_
 refine Wd rfl rfl (does_lookup (b := true) (e := 75) (key := .s name) (by kernel_rfl) (lO tG rfl) (by kernel_rfl) rfl rfl rfl rfl (by kernel_rfl) ((by first | exact h0 | exact h1 | exact h2))) ?_
 iterate 6 refine We tG rfl rfl rfl trivial ?_
 refine Wn ?_
 refine Ws ?_
 refine W_region rfl ?_
 refine We tG rfl rfl rfl trivial ?_
 refine Wn ?_
 refine Wf rfl (by first | rfl | first | exact trivial | omega | (simp only [dnL] at *; omega) | (simp_all; done) | (simp_all; omega)) ?_
 refine Wj ?_
 refine W_region rfl ?_
 refine We tG rfl rfl rfl trivial ?_
 first | refine Wa 36 rfl (show _ = PV.val (.int .i64 1) from rfl) ?_ | refine Wa 36 rfl (show _ = PV.val (.int .i64 2) from rfl) ?_ | refine Wa 36 rfl (show _ = PV.val (.int .i64 3) from rfl) ?_ | refine Wa 36 rfl (show _ = PV.val (.int .i64 4) from rfl) ?_ | refine Wa 36 rfl (show _ = PV.val (.int .i64 5) from rfl) ?_
 refine We tG rfl rfl rfl trivial ?_
 refine Wn ?_
 show W _ _ _ _ _ _ _
 refine Ws ?_
 refine W_region rfl ?_
 refine We tG rfl rfl rfl trivial ?_
 refine Wn ?_
 refine Ws ?_
 refine Wt rfl (by first | rfl | first | exact trivial | omega | (simp only [dnL] at *; omega) | (simp_all; done) | (simp_all; omega)) ?_
 refine Wj ?_
 refine Ws ?_
 refine Wl ?_
 refine Ws ?_
 refine W_region rfl ?_
 refine We tG rfl rfl rfl (by decide) ?_
 refine We tG rfl rfl rfl trivial ?_
 refine Wn ?_
 refine Ws ?_
 refine W_region rfl ?_
 iterate 2 refine We tG rfl rfl rfl trivial ?_
 refine Wd rfl rfl (does_lookup (b := true) (e := 75) (key := .s name) (by kernel_rfl) (lO tG rfl) (by kernel_rfl) rfl rfl rfl rfl (by kernel_rfl) ((by first | exact h0 | exact h1 | exact h2))) ?_
 iterate 6 refine We tG rfl rfl rfl trivial ?_
 refine Wn ?_
 refine Ws ?_
 refine W_region rfl ?_
 refine We tG rfl rfl rfl trivial ?_
 refine Wn ?_
 refine Wf rfl (by first | rfl | first | exact trivial | omega | (simp only [dnL] at *; omega) | (simp_all; done) | (simp_all; omega)) ?_
 refine Wj ?_
 refine W_region rfl ?_
 refine We tG rfl rfl rfl trivial ?_
 first | refine Wa 36 rfl (show _ = PV.val (.int .i64 1) from rfl) ?_ | refine Wa 36 rfl (show _ = PV.val (.int .i64 2) from rfl) ?_ | refine Wa 36 rfl (show _ = PV.val (.int .i64 3) from rfl) ?_ | refine Wa 36 rfl (show _ = PV.val (.int .i64 4) from rfl) ?_ | refine Wa 36 rfl (show _ = PV.val (.int .i64 5) from rfl) ?_
 refine We tG rfl rfl rfl trivial ?_
 refine Wn ?_
 show W _ _ _ _ _ _ _
 refine Ws ?_
 refine W_region rfl ?_
 refine We tG rfl rfl rfl trivial ?_
 refine Wn ?_
 refine Ws ?_
 refine Wt rfl (by first | rfl | first | exact trivial | omega | (simp only [dnL] at *; omega) | (simp_all; done) | (simp_all; omega)) ?_
 refine Wj ?_
 refine Ws ?_
 refine Wl ?_
 refine Ws ?_
 refine W_region rfl ?_
 refine We tG rfl rfl rfl (by decide) ?_
 refine We tG rfl rfl rfl trivial ?_
 refine Wn ?_
 refine Ws ?_
 refine W_region rfl ?_
 iterate 2 refine We tG rfl rfl rfl trivial ?_
 refine Wd rfl rfl (does_lookup (b := true) (e := 75) (key := .s name) (by kernel_rfl) (lO tG rfl) (by kernel_rfl) rfl rfl rfl rfl (by kernel_rfl) ((by first | exact h0 | exact h1 | exact h2))) ?_
 iterate 6 refine We tG rfl rfl rfl trivial ?_
 refine Wn ?_
 refine Ws ?_
 refine W_region rfl ?_
 refine We tG rfl rfl rfl trivial ?_
 refine Wn ?_
 refine Wt rfl (by first | rfl | first | exact trivial | omega | (simp only [dnL] at *; omega) | (simp_all; done) | (simp_all; omega)) ?_
 refine Ws ?_
 refine W_region rfl ?_
 iterate 2 refine We tG rfl rfl rfl trivial ?_
 refine Wn ?_
 refine Wq ?_
 refine lP rfl ?_
 rfl
theorem found_pr (n : Int) (name : Str) (k : Int) (f : FuncId) (cap : List PV) (hn : 72 < n) (hc : FlatL cap) (h0 : lkPV rkK rkV (.s name) zDeed = (zDeed, false)) (h1 : lkPV meK meV (.s name) zDeed = (zDeed, false)) (h2 : lkPV spK spV (.s name) zDeed = (zDeed, false)) (h3 : lkPV prK prV (.s name) zDeed = (deedP k f cap, true)) : PureC Tryz.prog 27 [i64 n, str name] (deedP k f cap) := by
 refine pW tG (rs := [.cell 4 75]) Tryz.func27 rfl rfl rfl (by simp [hc]) (by simp [hc]) (fun B => ?_)
 refine Ws ?_
 refine W_region rfl ?_
 iterate 2 refine We tG rfl rfl rfl trivial ?_
 refine Wn ?_
 refine Ws ?_
 refine Wl ?_
 refine Ws ?_
 refine W_region rfl ?_
 iterate 3 refine We tG rfl rfl rfl trivial ?_
 refine Wn ?_
 refine Wf rfl (by exact decide_eq_false (by omega)) ?_
 refine Ws ?_
 refine W_region rfl ?_
 iterate 3 refine We tG rfl rfl rfl trivial ?_
 refine Wn ?_
 refine Wf rfl (by exact decide_eq_false (by omega)) ?_
 refine Wj ?_
 iterate 2 refine Ws ?_
 refine W_region rfl ?_
 refine Wc rfl rfl (dC rfl Tryz.func56 rfl rfl ((prim_reckons) _)) ?_
 refine Wc rfl rfl (dC rfl Tryz.func57 rfl rfl ((prim_memories) _)) ?_
 refine Wc rfl rfl (dC rfl Tryz.func58 rfl rfl ((prim_spaces) _)) ?_
 refine Wc rfl rfl (dC rfl Tryz.func59 rfl rfl ((prim_prints) _)) ?_
 refine Wc rfl rfl (dC rfl Tryz.func60 rfl rfl ((prim_pics) _)) ?_
 iterate 2 refine We tG rfl rfl rfl trivial ?_
 refine Wn ?_
 refine Wl ?_
 refine W_rounds 7 ?_
 show W _ _ _ _ _ _ _
 refine Ws ?_
 refine W_region rfl ?_
 refine We tG rfl rfl rfl trivial ?_
 refine Wn ?_
 refine Ws ?_
 refine Wt rfl (by first | rfl | first | exact trivial | omega | (simp only [dnL] at *; omega) | (simp_all; done) | (simp_all; omega)) ?_
 refine Wj ?_
 refine Ws ?_
 refine Wl ?_
 refine Ws ?_
 refine W_region rfl ?_
 refine We tG rfl rfl rfl (by decide) ?_
 refine We tG rfl rfl rfl trivial ?_
 refine Wn ?_
 refine Ws ?_
 refine W_region rfl ?_
 iterate 2 refine We tG rfl rfl rfl trivial ?_
 refine Wd rfl rfl (does_lookup (b := true) (e := 75) (key := .s name) (by kernel_rfl) (lO tG rfl) (by kernel_rfl) rfl rfl rfl rfl (by kernel_rfl) ((by first | exact h0 | exact h1 | exact h2 | exact h3))) ?_
 iterate 6 refine We tG rfl rfl rfl trivial ?_
 refine Wn ?_
 refine Ws ?_
 refine W_region rfl ?_
 refine We tG rfl rfl rfl trivial ?_
 refine Wn ?_
 refine Wf rfl (by first | rfl | first | exact trivial | omega | (simp only [dnL] at *; omega) | (simp_all; done) | (simp_all; omega)) ?_
 refine Wj ?_
 refine W_region rfl ?_
 refine We tG rfl rfl rfl trivial ?_
 first | refine Wa 36 rfl (show _ = PV.val (.int .i64 1) from rfl) ?_ | refine Wa 36 rfl (show _ = PV.val (.int .i64 2) from rfl) ?_ | refine Wa 36 rfl (show _ = PV.val (.int .i64 3) from rfl) ?_ | refine Wa 36 rfl (show _ = PV.val (.int .i64 4) from rfl) ?_ | refine Wa 36 rfl (show _ = PV.val (.int .i64 5) from rfl) ?_
 refine We tG rfl rfl rfl trivial ?_
 refine Wn ?_
 show W _ _ _ _ _ _ _
 refine Ws ?_
 refine W_region rfl ?_
 refine We tG rfl rfl rfl trivial ?_
 refine Wn ?_
 refine Ws ?_
 refine Wt rfl (by first | rfl | first | exact trivial | omega | (simp only [dnL] at *; omega) | (simp_all; done) | (simp_all; omega)) ?_
 refine Wj ?_
 refine Ws ?_
 refine Wl ?_
 refine Ws ?_
 refine W_region rfl ?_
 refine We tG rfl rfl rfl (by decide) ?_
 refine We tG rfl rfl rfl trivial ?_
 refine Wn ?_
 refine Ws ?_
 refine W_region rfl ?_
 iterate 2 refine We tG rfl rfl rfl trivial ?_
 refine Wd rfl rfl (does_lookup (b := true) (e := 75) (key := .s name) (by kernel_rfl) (lO tG rfl) (by kernel_rfl) rfl rfl rfl rfl (by kernel_rfl) ((by first | exact h0 | exact h1 | exact h2 | exact h3))) ?_
 iterate 6 refine We tG rfl rfl rfl trivial ?_
 refine Wn ?_
 refine Ws ?_
 refine W_region rfl ?_
 refine We tG rfl rfl rfl trivial ?_
 refine Wn ?_
 refine Wf rfl (by first | rfl | first | exact trivial | omega | (simp only [dnL] at *; omega) | (simp_all; done) | (simp_all; omega)) ?_
 refine Wj ?_
 refine W_region rfl ?_
 refine We tG rfl rfl rfl trivial ?_
 first | refine Wa 36 rfl (show _ = PV.val (.int .i64 1) from rfl) ?_ | refine Wa 36 rfl (show _ = PV.val (.int .i64 2) from rfl) ?_ | refine Wa 36 rfl (show _ = PV.val (.int .i64 3) from rfl) ?_ | refine Wa 36 rfl (show _ = PV.val (.int .i64 4) from rfl) ?_ | refine Wa 36 rfl (show _ = PV.val (.int .i64 5) from rfl) ?_
 refine We tG rfl rfl rfl trivial ?_
 refine Wn ?_
 show W _ _ _ _ _ _ _
 refine Ws ?_
 refine W_region rfl ?_
 refine We tG rfl rfl rfl trivial ?_
 refine Wn ?_
 refine Ws ?_
 refine Wt rfl (by first | rfl | first | exact trivial | omega | (simp only [dnL] at *; omega) | (simp_all; done) | (simp_all; omega)) ?_
 refine Wj ?_
 refine Ws ?_
 refine Wl ?_
 refine Ws ?_
 refine W_region rfl ?_
 refine We tG rfl rfl rfl (by decide) ?_
 refine We tG rfl rfl rfl trivial ?_
 refine Wn ?_
 refine Ws ?_
 refine W_region rfl ?_
 iterate 2 refine We tG rfl rfl rfl trivial ?_
 refine Wd rfl rfl (does_lookup (b := true) (e := 75) (key := .s name) (by kernel_rfl) (lO tG rfl) (by kernel_rfl) rfl rfl rfl rfl (by kernel_rfl) ((by first | exact h0 | exact h1 | exact h2 | exact h3))) ?_
 iterate 6 refine We tG rfl rfl rfl trivial ?_
 refine Wn ?_
 refine Ws ?_
 refine W_region rfl ?_
 refine We tG rfl rfl rfl trivial ?_
 refine Wn ?_
 refine Wf rfl (by first | rfl | first | exact trivial | omega | (simp only [dnL] at *; omega) | (simp_all; done) | (simp_all; omega)) ?_
 refine Wj ?_
 refine W_region rfl ?_
 refine We tG rfl rfl rfl trivial ?_
 first | refine Wa 36 rfl (show _ = PV.val (.int .i64 1) from rfl) ?_ | refine Wa 36 rfl (show _ = PV.val (.int .i64 2) from rfl) ?_ | refine Wa 36 rfl (show _ = PV.val (.int .i64 3) from rfl) ?_ | refine Wa 36 rfl (show _ = PV.val (.int .i64 4) from rfl) ?_ | refine Wa 36 rfl (show _ = PV.val (.int .i64 5) from rfl) ?_
 refine We tG rfl rfl rfl trivial ?_
 refine Wn ?_
 show W _ _ _ _ _ _ _
 refine Ws ?_
 refine W_region rfl ?_
 refine We tG rfl rfl rfl trivial ?_
 refine Wn ?_
 refine Ws ?_
 refine Wt rfl (by first | rfl | first | exact trivial | omega | (simp only [dnL] at *; omega) | (simp_all; done) | (simp_all; omega)) ?_
 refine Wj ?_
 refine Ws ?_
 refine Wl ?_
 refine Ws ?_
 refine W_region rfl ?_
 refine We tG rfl rfl rfl (by decide) ?_
 refine We tG rfl rfl rfl trivial ?_
 refine Wn ?_
 refine Ws ?_
 refine W_region rfl ?_
 iterate 2 refine We tG rfl rfl rfl trivial ?_
 refine Wd rfl rfl (does_lookup (b := true) (e := 75) (key := .s name) (by kernel_rfl) (lO tG rfl) (by kernel_rfl) rfl rfl rfl rfl (by kernel_rfl) ((by first | exact h0 | exact h1 | exact h2 | exact h3))) ?_
 iterate 6 refine We tG rfl rfl rfl trivial ?_
 refine Wn ?_
 refine Ws ?_
 refine W_region rfl ?_
 refine We tG rfl rfl rfl trivial ?_
 refine Wn ?_
 refine Wt rfl (by first | rfl | first | exact trivial | omega | (simp only [dnL] at *; omega) | (simp_all; done) | (simp_all; omega)) ?_
 refine Ws ?_
 refine W_region rfl ?_
 iterate 2 refine We tG rfl rfl rfl trivial ?_
 refine Wn ?_
 refine Wq ?_
 refine lP rfl ?_
 rfl
theorem found_pi (n : Int) (name : Str) (k : Int) (f : FuncId) (cap : List PV) (hn : 72 < n) (hc : FlatL cap) (h0 : lkPV rkK rkV (.s name) zDeed = (zDeed, false)) (h1 : lkPV meK meV (.s name) zDeed = (zDeed, false)) (h2 : lkPV spK spV (.s name) zDeed = (zDeed, false)) (h3 : lkPV prK prV (.s name) zDeed = (zDeed, false)) (h4 : lkPV piK piV (.s name) zDeed = (deedP k f cap, true)) : PureC Tryz.prog 27 [i64 n, str name] (deedP k f cap) := by
 refine pW tG (rs := [.cell 4 75]) Tryz.func27 rfl rfl rfl (by simp [hc]) (by simp [hc]) (fun B => ?_)
 refine Ws ?_
 refine W_region rfl ?_
 iterate 2 refine We tG rfl rfl rfl trivial ?_
 refine Wn ?_
 refine Ws ?_
 refine Wl ?_
 refine Ws ?_
 refine W_region rfl ?_
 iterate 3 refine We tG rfl rfl rfl trivial ?_
 refine Wn ?_
 refine Wf rfl (by exact decide_eq_false (by omega)) ?_
 refine Ws ?_
 refine W_region rfl ?_
 iterate 3 refine We tG rfl rfl rfl trivial ?_
 refine Wn ?_
 refine Wf rfl (by exact decide_eq_false (by omega)) ?_
 refine Wj ?_
 iterate 2 refine Ws ?_
 refine W_region rfl ?_
 refine Wc rfl rfl (dC rfl Tryz.func56 rfl rfl ((prim_reckons) _)) ?_
 refine Wc rfl rfl (dC rfl Tryz.func57 rfl rfl ((prim_memories) _)) ?_
 refine Wc rfl rfl (dC rfl Tryz.func58 rfl rfl ((prim_spaces) _)) ?_
 refine Wc rfl rfl (dC rfl Tryz.func59 rfl rfl ((prim_prints) _)) ?_
 refine Wc rfl rfl (dC rfl Tryz.func60 rfl rfl ((prim_pics) _)) ?_
 iterate 2 refine We tG rfl rfl rfl trivial ?_
 refine Wn ?_
 refine Wl ?_
 refine W_rounds 7 ?_
 show W _ _ _ _ _ _ _
 refine Ws ?_
 refine W_region rfl ?_
 refine We tG rfl rfl rfl trivial ?_
 refine Wn ?_
 refine Ws ?_
 refine Wt rfl (by first | rfl | first | exact trivial | omega | (simp only [dnL] at *; omega) | (simp_all; done) | (simp_all; omega)) ?_
 refine Wj ?_
 refine Ws ?_
 refine Wl ?_
 refine Ws ?_
 refine W_region rfl ?_
 refine We tG rfl rfl rfl (by decide) ?_
 refine We tG rfl rfl rfl trivial ?_
 refine Wn ?_
 refine Ws ?_
 refine W_region rfl ?_
 iterate 2 refine We tG rfl rfl rfl trivial ?_
 refine Wd rfl rfl (does_lookup (b := true) (e := 75) (key := .s name) (by kernel_rfl) (lO tG rfl) (by kernel_rfl) rfl rfl rfl rfl (by kernel_rfl) ((by first | exact h0 | exact h1 | exact h2 | exact h3 | exact h4))) ?_
 iterate 6 refine We tG rfl rfl rfl trivial ?_
 refine Wn ?_
 refine Ws ?_
 refine W_region rfl ?_
 refine We tG rfl rfl rfl trivial ?_
 refine Wn ?_
 refine Wf rfl (by first | rfl | first | exact trivial | omega | (simp only [dnL] at *; omega) | (simp_all; done) | (simp_all; omega)) ?_
 refine Wj ?_
 refine W_region rfl ?_
 refine We tG rfl rfl rfl trivial ?_
 first | refine Wa 36 rfl (show _ = PV.val (.int .i64 1) from rfl) ?_ | refine Wa 36 rfl (show _ = PV.val (.int .i64 2) from rfl) ?_ | refine Wa 36 rfl (show _ = PV.val (.int .i64 3) from rfl) ?_ | refine Wa 36 rfl (show _ = PV.val (.int .i64 4) from rfl) ?_ | refine Wa 36 rfl (show _ = PV.val (.int .i64 5) from rfl) ?_
 refine We tG rfl rfl rfl trivial ?_
 refine Wn ?_
 show W _ _ _ _ _ _ _
 refine Ws ?_
 refine W_region rfl ?_
 refine We tG rfl rfl rfl trivial ?_
 refine Wn ?_
 refine Ws ?_
 refine Wt rfl (by first | rfl | first | exact trivial | omega | (simp only [dnL] at *; omega) | (simp_all; done) | (simp_all; omega)) ?_
 refine Wj ?_
 refine Ws ?_
 refine Wl ?_
 refine Ws ?_
 refine W_region rfl ?_
 refine We tG rfl rfl rfl (by decide) ?_
 refine We tG rfl rfl rfl trivial ?_
 refine Wn ?_
 refine Ws ?_
 refine W_region rfl ?_
 iterate 2 refine We tG rfl rfl rfl trivial ?_
 refine Wd rfl rfl (does_lookup (b := true) (e := 75) (key := .s name) (by kernel_rfl) (lO tG rfl) (by kernel_rfl) rfl rfl rfl rfl (by kernel_rfl) ((by first | exact h0 | exact h1 | exact h2 | exact h3 | exact h4))) ?_
 iterate 6 refine We tG rfl rfl rfl trivial ?_
 refine Wn ?_
 refine Ws ?_
 refine W_region rfl ?_
 refine We tG rfl rfl rfl trivial ?_
 refine Wn ?_
 refine Wf rfl (by first | rfl | first | exact trivial | omega | (simp only [dnL] at *; omega) | (simp_all; done) | (simp_all; omega)) ?_
 refine Wj ?_
 refine W_region rfl ?_
 refine We tG rfl rfl rfl trivial ?_
 first | refine Wa 36 rfl (show _ = PV.val (.int .i64 1) from rfl) ?_ | refine Wa 36 rfl (show _ = PV.val (.int .i64 2) from rfl) ?_ | refine Wa 36 rfl (show _ = PV.val (.int .i64 3) from rfl) ?_ | refine Wa 36 rfl (show _ = PV.val (.int .i64 4) from rfl) ?_ | refine Wa 36 rfl (show _ = PV.val (.int .i64 5) from rfl) ?_
 refine We tG rfl rfl rfl trivial ?_
 refine Wn ?_
 show W _ _ _ _ _ _ _
 refine Ws ?_
 refine W_region rfl ?_
 refine We tG rfl rfl rfl trivial ?_
 refine Wn ?_
 refine Ws ?_
 refine Wt rfl (by first | rfl | first | exact trivial | omega | (simp only [dnL] at *; omega) | (simp_all; done) | (simp_all; omega)) ?_
 refine Wj ?_
 refine Ws ?_
 refine Wl ?_
 refine Ws ?_
 refine W_region rfl ?_
 refine We tG rfl rfl rfl (by decide) ?_
 refine We tG rfl rfl rfl trivial ?_
 refine Wn ?_
 refine Ws ?_
 refine W_region rfl ?_
 iterate 2 refine We tG rfl rfl rfl trivial ?_
 refine Wd rfl rfl (does_lookup (b := true) (e := 75) (key := .s name) (by kernel_rfl) (lO tG rfl) (by kernel_rfl) rfl rfl rfl rfl (by kernel_rfl) ((by first | exact h0 | exact h1 | exact h2 | exact h3 | exact h4))) ?_
 iterate 6 refine We tG rfl rfl rfl trivial ?_
 refine Wn ?_
 refine Ws ?_
 refine W_region rfl ?_
 refine We tG rfl rfl rfl trivial ?_
 refine Wn ?_
 refine Wf rfl (by first | rfl | first | exact trivial | omega | (simp only [dnL] at *; omega) | (simp_all; done) | (simp_all; omega)) ?_
 refine Wj ?_
 refine W_region rfl ?_
 refine We tG rfl rfl rfl trivial ?_
 first | refine Wa 36 rfl (show _ = PV.val (.int .i64 1) from rfl) ?_ | refine Wa 36 rfl (show _ = PV.val (.int .i64 2) from rfl) ?_ | refine Wa 36 rfl (show _ = PV.val (.int .i64 3) from rfl) ?_ | refine Wa 36 rfl (show _ = PV.val (.int .i64 4) from rfl) ?_ | refine Wa 36 rfl (show _ = PV.val (.int .i64 5) from rfl) ?_
 refine We tG rfl rfl rfl trivial ?_
 refine Wn ?_
 show W _ _ _ _ _ _ _
 refine Ws ?_
 refine W_region rfl ?_
 refine We tG rfl rfl rfl trivial ?_
 refine Wn ?_
 refine Ws ?_
 refine Wt rfl (by first | rfl | first | exact trivial | omega | (simp only [dnL] at *; omega) | (simp_all; done) | (simp_all; omega)) ?_
 refine Wj ?_
 refine Ws ?_
 refine Wl ?_
 refine Ws ?_
 refine W_region rfl ?_
 refine We tG rfl rfl rfl (by decide) ?_
 refine We tG rfl rfl rfl trivial ?_
 refine Wn ?_
 refine Ws ?_
 refine W_region rfl ?_
 iterate 2 refine We tG rfl rfl rfl trivial ?_
 refine Wd rfl rfl (does_lookup (b := true) (e := 75) (key := .s name) (by kernel_rfl) (lO tG rfl) (by kernel_rfl) rfl rfl rfl rfl (by kernel_rfl) ((by first | exact h0 | exact h1 | exact h2 | exact h3 | exact h4))) ?_
 iterate 6 refine We tG rfl rfl rfl trivial ?_
 refine Wn ?_
 refine Ws ?_
 refine W_region rfl ?_
 refine We tG rfl rfl rfl trivial ?_
 refine Wn ?_
 refine Wf rfl (by first | rfl | first | exact trivial | omega | (simp only [dnL] at *; omega) | (simp_all; done) | (simp_all; omega)) ?_
 refine Wj ?_
 refine W_region rfl ?_
 refine We tG rfl rfl rfl trivial ?_
 first | refine Wa 36 rfl (show _ = PV.val (.int .i64 1) from rfl) ?_ | refine Wa 36 rfl (show _ = PV.val (.int .i64 2) from rfl) ?_ | refine Wa 36 rfl (show _ = PV.val (.int .i64 3) from rfl) ?_ | refine Wa 36 rfl (show _ = PV.val (.int .i64 4) from rfl) ?_ | refine Wa 36 rfl (show _ = PV.val (.int .i64 5) from rfl) ?_
 refine We tG rfl rfl rfl trivial ?_
 refine Wn ?_
 show W _ _ _ _ _ _ _
 refine Ws ?_
 refine W_region rfl ?_
 refine We tG rfl rfl rfl trivial ?_
 refine Wn ?_
 refine Ws ?_
 refine Wt rfl (by first | rfl | first | exact trivial | omega | (simp only [dnL] at *; omega) | (simp_all; done) | (simp_all; omega)) ?_
 refine Wj ?_
 refine Ws ?_
 refine Wl ?_
 refine Ws ?_
 refine W_region rfl ?_
 refine We tG rfl rfl rfl (by decide) ?_
 refine We tG rfl rfl rfl trivial ?_
 refine Wn ?_
 refine Ws ?_
 refine W_region rfl ?_
 iterate 2 refine We tG rfl rfl rfl trivial ?_
 refine Wd rfl rfl (does_lookup (b := true) (e := 75) (key := .s name) (by kernel_rfl) (lO tG rfl) (by kernel_rfl) rfl rfl rfl rfl (by kernel_rfl) ((by first | exact h0 | exact h1 | exact h2 | exact h3 | exact h4))) ?_
 iterate 6 refine We tG rfl rfl rfl trivial ?_
 refine Wn ?_
 refine Ws ?_
 refine W_region rfl ?_
 refine We tG rfl rfl rfl trivial ?_
 refine Wn ?_
 refine Wt rfl (by first | rfl | first | exact trivial | omega | (simp only [dnL] at *; omega) | (simp_all; done) | (simp_all; omega)) ?_
 refine Ws ?_
 refine W_region rfl ?_
 iterate 2 refine We tG rfl rfl rfl trivial ?_
 refine Wn ?_
 refine Wq ?_
 refine lP rfl ?_
 rfl
theorem found_ot (n : Int) (name : Str) (k : Int) (f : FuncId) (cap : List PV) (hn : 72 < n) (hc : FlatL cap) (h0 : lkPV rkK rkV (.s name) zDeed = (zDeed, false)) (h1 : lkPV meK meV (.s name) zDeed = (zDeed, false)) (h2 : lkPV spK spV (.s name) zDeed = (zDeed, false)) (h3 : lkPV prK prV (.s name) zDeed = (zDeed, false)) (h4 : lkPV piK piV (.s name) zDeed = (zDeed, false)) (h5 : lkPV otK otV (.s name) zDeed = (deedP k f cap, true)) : PureC Tryz.prog 27 [i64 n, str name] (deedP k f cap) := by
 refine pW tG (rs := [.cell 4 75]) Tryz.func27 rfl rfl rfl (by simp [hc]) (by simp [hc]) (fun B => ?_)
 refine Ws ?_
 refine W_region rfl ?_
 iterate 2 refine We tG rfl rfl rfl trivial ?_
 refine Wn ?_
 refine Ws ?_
 refine Wl ?_
 refine Ws ?_
 refine W_region rfl ?_
 iterate 3 refine We tG rfl rfl rfl trivial ?_
 refine Wn ?_
 refine Wf rfl (by exact decide_eq_false (by omega)) ?_
 refine Ws ?_
 refine W_region rfl ?_
 iterate 3 refine We tG rfl rfl rfl trivial ?_
 refine Wn ?_
 refine Wf rfl (by exact decide_eq_false (by omega)) ?_
 refine Wj ?_
 iterate 2 refine Ws ?_
 refine W_region rfl ?_
 refine Wc rfl rfl (dC rfl Tryz.func56 rfl rfl ((prim_reckons) _)) ?_
 refine Wc rfl rfl (dC rfl Tryz.func57 rfl rfl ((prim_memories) _)) ?_
 refine Wc rfl rfl (dC rfl Tryz.func58 rfl rfl ((prim_spaces) _)) ?_
 refine Wc rfl rfl (dC rfl Tryz.func59 rfl rfl ((prim_prints) _)) ?_
 refine Wc rfl rfl (dC rfl Tryz.func60 rfl rfl ((prim_pics) _)) ?_
 iterate 2 refine We tG rfl rfl rfl trivial ?_
 refine Wn ?_
 refine Wl ?_
 refine W_rounds 7 ?_
 show W _ _ _ _ _ _ _
 refine Ws ?_
 refine W_region rfl ?_
 refine We tG rfl rfl rfl trivial ?_
 refine Wn ?_
 refine Ws ?_
 refine Wt rfl (by first | rfl | first | exact trivial | omega | (simp only [dnL] at *; omega) | (simp_all; done) | (simp_all; omega)) ?_
 refine Wj ?_
 refine Ws ?_
 refine Wl ?_
 refine Ws ?_
 refine W_region rfl ?_
 refine We tG rfl rfl rfl (by decide) ?_
 refine We tG rfl rfl rfl trivial ?_
 refine Wn ?_
 refine Ws ?_
 refine W_region rfl ?_
 iterate 2 refine We tG rfl rfl rfl trivial ?_
 refine Wd rfl rfl (does_lookup (b := true) (e := 75) (key := .s name) (by kernel_rfl) (lO tG rfl) (by kernel_rfl) rfl rfl rfl rfl (by kernel_rfl) ((by first | exact h0 | exact h1 | exact h2 | exact h3 | exact h4 | exact h5))) ?_
 iterate 6 refine We tG rfl rfl rfl trivial ?_
 refine Wn ?_
 refine Ws ?_
 refine W_region rfl ?_
 refine We tG rfl rfl rfl trivial ?_
 refine Wn ?_
 refine Wf rfl (by first | rfl | first | exact trivial | omega | (simp only [dnL] at *; omega) | (simp_all; done) | (simp_all; omega)) ?_
 refine Wj ?_
 refine W_region rfl ?_
 refine We tG rfl rfl rfl trivial ?_
 first | refine Wa 36 rfl (show _ = PV.val (.int .i64 1) from rfl) ?_ | refine Wa 36 rfl (show _ = PV.val (.int .i64 2) from rfl) ?_ | refine Wa 36 rfl (show _ = PV.val (.int .i64 3) from rfl) ?_ | refine Wa 36 rfl (show _ = PV.val (.int .i64 4) from rfl) ?_ | refine Wa 36 rfl (show _ = PV.val (.int .i64 5) from rfl) ?_
 refine We tG rfl rfl rfl trivial ?_
 refine Wn ?_
 show W _ _ _ _ _ _ _
 refine Ws ?_
 refine W_region rfl ?_
 refine We tG rfl rfl rfl trivial ?_
 refine Wn ?_
 refine Ws ?_
 refine Wt rfl (by first | rfl | first | exact trivial | omega | (simp only [dnL] at *; omega) | (simp_all; done) | (simp_all; omega)) ?_
 refine Wj ?_
 refine Ws ?_
 refine Wl ?_
 refine Ws ?_
 refine W_region rfl ?_
 refine We tG rfl rfl rfl (by decide) ?_
 refine We tG rfl rfl rfl trivial ?_
 refine Wn ?_
 refine Ws ?_
 refine W_region rfl ?_
 iterate 2 refine We tG rfl rfl rfl trivial ?_
 refine Wd rfl rfl (does_lookup (b := true) (e := 75) (key := .s name) (by kernel_rfl) (lO tG rfl) (by kernel_rfl) rfl rfl rfl rfl (by kernel_rfl) ((by first | exact h0 | exact h1 | exact h2 | exact h3 | exact h4 | exact h5))) ?_
 iterate 6 refine We tG rfl rfl rfl trivial ?_
 refine Wn ?_
 refine Ws ?_
 refine W_region rfl ?_
 refine We tG rfl rfl rfl trivial ?_
 refine Wn ?_
 refine Wf rfl (by first | rfl | first | exact trivial | omega | (simp only [dnL] at *; omega) | (simp_all; done) | (simp_all; omega)) ?_
 refine Wj ?_
 refine W_region rfl ?_
 refine We tG rfl rfl rfl trivial ?_
 first | refine Wa 36 rfl (show _ = PV.val (.int .i64 1) from rfl) ?_ | refine Wa 36 rfl (show _ = PV.val (.int .i64 2) from rfl) ?_ | refine Wa 36 rfl (show _ = PV.val (.int .i64 3) from rfl) ?_ | refine Wa 36 rfl (show _ = PV.val (.int .i64 4) from rfl) ?_ | refine Wa 36 rfl (show _ = PV.val (.int .i64 5) from rfl) ?_
 refine We tG rfl rfl rfl trivial ?_
 refine Wn ?_
 show W _ _ _ _ _ _ _
 refine Ws ?_
 refine W_region rfl ?_
 refine We tG rfl rfl rfl trivial ?_
 refine Wn ?_
 refine Ws ?_
 refine Wt rfl (by first | rfl | first | exact trivial | omega | (simp only [dnL] at *; omega) | (simp_all; done) | (simp_all; omega)) ?_
 refine Wj ?_
 refine Ws ?_
 refine Wl ?_
 refine Ws ?_
 refine W_region rfl ?_
 refine We tG rfl rfl rfl (by decide) ?_
 refine We tG rfl rfl rfl trivial ?_
 refine Wn ?_
 refine Ws ?_
 refine W_region rfl ?_
 iterate 2 refine We tG rfl rfl rfl trivial ?_
 refine Wd rfl rfl (does_lookup (b := true) (e := 75) (key := .s name) (by kernel_rfl) (lO tG rfl) (by kernel_rfl) rfl rfl rfl rfl (by kernel_rfl) ((by first | exact h0 | exact h1 | exact h2 | exact h3 | exact h4 | exact h5))) ?_
 iterate 6 refine We tG rfl rfl rfl trivial ?_
 refine Wn ?_
 refine Ws ?_
 refine W_region rfl ?_
 refine We tG rfl rfl rfl trivial ?_
 refine Wn ?_
 refine Wf rfl (by first | rfl | first | exact trivial | omega | (simp only [dnL] at *; omega) | (simp_all; done) | (simp_all; omega)) ?_
 refine Wj ?_
 refine W_region rfl ?_
 refine We tG rfl rfl rfl trivial ?_
 first | refine Wa 36 rfl (show _ = PV.val (.int .i64 1) from rfl) ?_ | refine Wa 36 rfl (show _ = PV.val (.int .i64 2) from rfl) ?_ | refine Wa 36 rfl (show _ = PV.val (.int .i64 3) from rfl) ?_ | refine Wa 36 rfl (show _ = PV.val (.int .i64 4) from rfl) ?_ | refine Wa 36 rfl (show _ = PV.val (.int .i64 5) from rfl) ?_
 refine We tG rfl rfl rfl trivial ?_
 refine Wn ?_
 show W _ _ _ _ _ _ _
 refine Ws ?_
 refine W_region rfl ?_
 refine We tG rfl rfl rfl trivial ?_
 refine Wn ?_
 refine Ws ?_
 refine Wt rfl (by first | rfl | first | exact trivial | omega | (simp only [dnL] at *; omega) | (simp_all; done) | (simp_all; omega)) ?_
 refine Wj ?_
 refine Ws ?_
 refine Wl ?_
 refine Ws ?_
 refine W_region rfl ?_
 refine We tG rfl rfl rfl (by decide) ?_
 refine We tG rfl rfl rfl trivial ?_
 refine Wn ?_
 refine Ws ?_
 refine W_region rfl ?_
 iterate 2 refine We tG rfl rfl rfl trivial ?_
 refine Wd rfl rfl (does_lookup (b := true) (e := 75) (key := .s name) (by kernel_rfl) (lO tG rfl) (by kernel_rfl) rfl rfl rfl rfl (by kernel_rfl) ((by first | exact h0 | exact h1 | exact h2 | exact h3 | exact h4 | exact h5))) ?_
 iterate 6 refine We tG rfl rfl rfl trivial ?_
 refine Wn ?_
 refine Ws ?_
 refine W_region rfl ?_
 refine We tG rfl rfl rfl trivial ?_
 refine Wn ?_
 refine Wf rfl (by first | rfl | first | exact trivial | omega | (simp only [dnL] at *; omega) | (simp_all; done) | (simp_all; omega)) ?_
 refine Wj ?_
 refine W_region rfl ?_
 refine We tG rfl rfl rfl trivial ?_
 first | refine Wa 36 rfl (show _ = PV.val (.int .i64 1) from rfl) ?_ | refine Wa 36 rfl (show _ = PV.val (.int .i64 2) from rfl) ?_ | refine Wa 36 rfl (show _ = PV.val (.int .i64 3) from rfl) ?_ | refine Wa 36 rfl (show _ = PV.val (.int .i64 4) from rfl) ?_ | refine Wa 36 rfl (show _ = PV.val (.int .i64 5) from rfl) ?_
 refine We tG rfl rfl rfl trivial ?_
 refine Wn ?_
 show W _ _ _ _ _ _ _
 refine Ws ?_
 refine W_region rfl ?_
 refine We tG rfl rfl rfl trivial ?_
 refine Wn ?_
 refine Ws ?_
 refine Wt rfl (by first | rfl | first | exact trivial | omega | (simp only [dnL] at *; omega) | (simp_all; done) | (simp_all; omega)) ?_
 refine Wj ?_
 refine Ws ?_
 refine Wl ?_
 refine Ws ?_
 refine W_region rfl ?_
 refine We tG rfl rfl rfl (by decide) ?_
 refine We tG rfl rfl rfl trivial ?_
 refine Wn ?_
 refine Ws ?_
 refine W_region rfl ?_
 iterate 2 refine We tG rfl rfl rfl trivial ?_
 refine Wd rfl rfl (does_lookup (b := true) (e := 75) (key := .s name) (by kernel_rfl) (lO tG rfl) (by kernel_rfl) rfl rfl rfl rfl (by kernel_rfl) ((by first | exact h0 | exact h1 | exact h2 | exact h3 | exact h4 | exact h5))) ?_
 iterate 6 refine We tG rfl rfl rfl trivial ?_
 refine Wn ?_
 refine Ws ?_
 refine W_region rfl ?_
 refine We tG rfl rfl rfl trivial ?_
 refine Wn ?_
 refine Wf rfl (by first | rfl | first | exact trivial | omega | (simp only [dnL] at *; omega) | (simp_all; done) | (simp_all; omega)) ?_
 refine Wj ?_
 refine W_region rfl ?_
 refine We tG rfl rfl rfl trivial ?_
 first | refine Wa 36 rfl (show _ = PV.val (.int .i64 1) from rfl) ?_ | refine Wa 36 rfl (show _ = PV.val (.int .i64 2) from rfl) ?_ | refine Wa 36 rfl (show _ = PV.val (.int .i64 3) from rfl) ?_ | refine Wa 36 rfl (show _ = PV.val (.int .i64 4) from rfl) ?_ | refine Wa 36 rfl (show _ = PV.val (.int .i64 5) from rfl) ?_
 refine We tG rfl rfl rfl trivial ?_
 refine Wn ?_
 show W _ _ _ _ _ _ _
 refine Ws ?_
 refine W_region rfl ?_
 refine We tG rfl rfl rfl trivial ?_
 refine Wn ?_
 refine Ws ?_
 refine Wf rfl (by first | rfl | first | exact trivial | omega | (simp only [dnL] at *; omega) | (simp_all; done) | (simp_all; omega)) ?_
 refine W_exit ?_
 refine Ws ?_
 refine W_drawU [0, 1, 0, 3] [0, 1, 2, 3] mG rfl (by kernel_rfl) ?_
 refine Xc rfl rfl rfl rfl (fun _ => dC rfl Tryz.func61 rfl rfl ((prim_others) _)) ?_
 refine Xf tG rfl rfl rfl rfl (fun _ => rfl) trivial ?_
 refine WU_does0 rfl rfl rfl rfl (fun _ => does_lookup (b := false) (e := 75) (key := .s name) (by kernel_rfl) (lO tG rfl) (by kernel_rfl) rfl rfl rfl rfl (by kernel_rfl) ((by exact h5))) ?_
 refine WU_ev3 tG rfl rfl rfl rfl rfl trivial ?_
 refine WU_nil ?_
 refine Wq ?_
 refine lP rfl ?_
 rfl
end Go.Proofs.YtphgdofmjpdhaaaGreat
namespace Go.Proofs.YtphgdofmjpdhaaaGreat
open Go.RowKit
set_option linter.unusedVariables false
set_option maxRecDepth 100000
set_option maxHeartbeats 4000000
theorem clone_new (l : List Int) (hl : l.length ≤ 1000000) : NewC Tryz.prog 28 [sq cInt l] l.length (l.flatMap cInt) 1 := by
 refine new_of_WR tG (rs := [.tmp 2]) Tryz.func28 rfl rfl rfl (by simp) (flatL_map' (fun x => by simp) _) (fun B => ?_)
 refine Ws ?_
 refine W_region rfl ?_
 refine We tG rfl rfl rfl trivial ?_
 first | refine WO_own 2 0 1 rfl rfl ?_ | skip
 refine Wn ?_
 iterate 2 refine Ws ?_
 refine W_region rfl ?_
 refine We tG rfl rfl rfl trivial ?_
 refine WO_nilS (lO tG rfl) rfl rfl rfl rfl rfl (fun bn1 hn1 => ?_)
 refine Wn ?_
 refine Wi rfl (fun hi1 => ?_) (fun hi1 => ?_)
 ·refine Ws ?_
  refine W_region rfl ?_
  refine We tG rfl rfl rfl trivial ?_
  first | refine WO_own 2 0 1 rfl rfl ?_ | skip
  refine Wn ?_
  refine Wq ?_
  exact leafN rfl (hn1 hi1).1.symm (hn1 hi1).2.symm rfl (by omega)
 ·refine Wj ?_
  refine Ws ?_
  refine W_region rfl ?_
  iterate 2 refine We tG rfl rfl rfl trivial ?_
  first | refine Wd rfl rfl (does_append_clip (lO tG rfl) rfl (lO tG rfl) (lO tG rfl) rfl rfl (by first | exact ⟨_, rfl⟩ | rfl) (by first | exact ⟨rfl, rfl, flatMap_len _ 1 (fun _ => rfl) _, okC_flat _ (fun _ => rfl) _⟩ | exact ⟨rfl, rfl, by simp, by simp [okC]⟩ | exact ⟨rfl, rfl, rfl⟩) (by first | exact flatMap_len _ 1 (fun _ => rfl) _ | rfl | simp) (by first | (dsimp only; omega) | (first | exact trivial | omega | (simp only [dnL] at *; omega) | (simp_all; done) | (simp_all; omega))) (by first | (dsimp only; omega) | (first | exact trivial | omega | (simp only [dnL] at *; omega) | (simp_all; done) | (simp_all; omega)))) ?_ | refine Wd rfl rfl (does_append_own (lO tG rfl) rfl (lO tG rfl) (lO tG rfl) rfl rfl rfl rfl (by simp) (by first | exact ⟨_, rfl⟩ | rfl) (by first | exact ⟨rfl, rfl, flatMap_len _ 1 (fun _ => rfl) _, okC_flat _ (fun _ => rfl) _⟩ | exact ⟨rfl, rfl, by simp, by simp [okC]⟩ | exact ⟨rfl, rfl, rfl⟩) (by first | (dsimp only; omega) | (first | exact trivial | omega | (simp only [dnL] at *; omega) | (simp_all; done) | (simp_all; omega))) (by first | (dsimp only; omega) | (first | exact trivial | omega | (simp only [dnL] at *; omega) | (simp_all; done) | (simp_all; omega)))) ?_
  first | refine Wa 7 rfl (sq_append cInt) ?_ | refine Wa 7 rfl (sq_snoc cInt _) ?_ | refine Wa 7 rfl (sq_one cInt _) ?_ | refine Wa 7 rfl (sq_none cInt) ?_
  refine We tG rfl rfl rfl trivial ?_
  first | refine WO_own 2 0 1 rfl rfl ?_ | skip
  refine Wn ?_
  refine Wq ?_
  exact leafN rfl rfl rfl rfl (by show (0 + l.length) * 1 ≤ _; omega)
def stkDeep (s : List Int) (roll : Bool) (limit : Int) : List Int × Bool × Int :=
 if (stkPop s).2.2 ≠ 0 ∨ (stkPop s).1 < 0 ∨ ((stkPop s).2.1.length : Int) ≤ (stkPop s).1 then (s, true, -4) else
  if roll then stkLaid s ((stkPop s).1.toNat + 2) ((stkPop s).2.1.drop ((stkPop s).2.1.length - 1 - (stkPop s).1.toNat + 1) ++ [(stkPop s).2.1.getD ((stkPop s).2.1.length - 1 - (stkPop s).1.toNat) 0]) limit
  else stkLaid s 1 [(stkPop s).2.1.getD ((stkPop s).2.1.length - 1 - (stkPop s).1.toNat) 0] limit
theorem stkPop_len {s : List Int} (h : (stkPop s).2.2 = 0) : (stkPop s).2.1.length + 1 = s.length := by
 unfold stkPop at h ⊢
 split at h
 ·cases h
 ·rename_i h0
  rw [if_neg h0]
  simp only [List.length_take]; omega
theorem stk_deep (s : List Int) (roll : Bool) (limit : Int) (hs : s.length ≤ 100000) (hm : -9223372036854775808 ≤ limit ∧ limit ≤ 9223372036854775807) :
  PureC Tryz.prog 48 [sq cInt s, boo roll, i64 limit] (tStk (stkDeep s roll limit)) := by
 refine pW tG (rs := [.tmp 6, .tmp 7, .tmp 8]) Tryz.func48 rfl rfl rfl (by simp) (by simp) (fun B => ?_)
 refine Ws ?_
 refine W_region rfl ?_
 iterate 3 refine We tG rfl rfl rfl trivial ?_
 refine Wn ?_
 refine Ws ?_
 refine W_region rfl ?_
 refine We tG rfl rfl rfl trivial ?_
 refine Wc rfl rfl (dC rfl Tryz.func79 rfl rfl ((stk_Pop s hs) _)) ?_
 iterate 7 refine We tG rfl rfl rfl trivial ?_
 refine Wn ?_
 iterate 2 refine Ws ?_
 refine W_region rfl ?_
 iterate 3 refine We tG rfl rfl rfl trivial ?_
 refine Wb 21 rfl (fun hg1 => ?_) (fun hg1 => ?_)
 ·have h0 : (stkPop s).2.2 ≠ 0 := by simpa using hg1
  iterate 2 refine Wk rfl rfl ?_
  iterate 2 refine We tG rfl rfl rfl trivial ?_
  iterate 4 refine Wk rfl rfl ?_
  refine We tG rfl rfl rfl trivial ?_
  refine Wn ?_
  refine Wt rfl rfl ?_
  refine Ws ?_
  refine W_region rfl ?_
  iterate 4 refine We tG rfl rfl rfl trivial ?_
  refine Wn ?_
  refine Wq ?_
  refine lP rfl ?_
  rw [stkDeep, if_pos (.inl h0)]; rfl
 ·have h0 : (stkPop s).2.2 = 0 := by simpa using hg1
  have hl := stkPop_len h0
  iterate 4 refine We tG rfl rfl rfl trivial ?_
  refine Wb 25 rfl (fun hg2 => ?_) (fun hg2 => ?_)
  ·have h1 : (stkPop s).1 < 0 := by simpa using hg2
   iterate 4 refine Wk rfl rfl ?_
   refine We tG rfl rfl rfl trivial ?_
   refine Wn ?_
   refine Wt rfl rfl ?_
   refine Ws ?_
   refine W_region rfl ?_
   iterate 4 refine We tG rfl rfl rfl trivial ?_
   refine Wn ?_
   refine Wq ?_
   refine lP rfl ?_
   rw [stkDeep, if_pos (.inr (.inl h1))]; rfl
  ·have h1 : ¬ (stkPop s).1 < 0 := by simpa using hg2
   iterate 5 refine We tG rfl rfl rfl trivial ?_
   refine Wn ?_
   refine Wi rfl (fun hi1 => ?_) (fun hi1 => ?_)
   ·have h2 : ((stkPop s).2.1.length : Int) ≤ (stkPop s).1 := by simpa using hi1
    refine Ws ?_
    refine W_region rfl ?_
    iterate 4 refine We tG rfl rfl rfl trivial ?_
    refine Wn ?_
    refine Wq ?_
    refine lP rfl ?_
    rw [stkDeep, if_pos (.inr (.inr h2))]; rfl
   ·have h2 : ¬ ((stkPop s).2.1.length : Int) ≤ (stkPop s).1 := by simpa using hi1
    have hc : ¬ ((stkPop s).2.2 ≠ 0 ∨ (stkPop s).1 < 0 ∨ ((stkPop s).2.1.length : Int) ≤ (stkPop s).1) := by rintro (h | h | h) <;> contradiction
    have w1 : IntKind.i64.wrap (IntKind.i64.wrap (((stkPop s).2.1.length : Int) - 1) - (stkPop s).1) = (((stkPop s).2.1.length - 1 - (stkPop s).1.toNat : Nat) : Int) := by simp only [i64w]; unfold wrap64; omega
    have w2 : IntKind.i64.wrap ((((stkPop s).2.1.length - 1 - (stkPop s).1.toNat : Nat) : Int) + 1) = (((stkPop s).2.1.length - 1 - (stkPop s).1.toNat + 1 : Nat) : Int) := by simp only [i64w]; unfold wrap64; omega
    have w3 : IntKind.i64.wrap ((stkPop s).1 + 2) = (((stkPop s).1.toNat + 2 : Nat) : Int) := by simp only [i64w]; unfold wrap64; omega
    refine Wj ?_
    refine Ws ?_
    refine W_region rfl ?_
    iterate 5 refine We tG rfl rfl rfl trivial ?_
    refine Wa 36 rfl (congrArg (fun z => PV.val (Value.int .i64 z)) w1) ?_
    refine We tG rfl rfl rfl trivial ?_
    refine Wn ?_
    iterate 2 refine Ws ?_
    refine W_region rfl ?_
    refine We tG rfl rfl rfl trivial ?_
    refine Wn ?_
    refine Wi rfl (fun hi2 => ?_) (fun hi2 => ?_)
    ·refine Ws ?_
     refine W_drawU [0, 0, 0, 0, 0, 0, 0, 2, 0, 0, 0, 0, 0, 3, 0, 0, 0, 0, 0, 0, 0, 0] [0, 1, 2, 3, 4, 5, 6, 8, 9, 10, 11, 12, 14, 7, 13, 15, 16, 17, 18, 19, 20, 21] mG rfl (by kernel_rfl) ?_
     refine Xe tG rfl rfl rfl rfl (fun _ => rfl) trivial ?_
     refine Xe tG rfl rfl rfl rfl (fun _ => rfl) trivial ?_
     refine Xe tG rfl rfl rfl rfl (fun _ => rfl) trivial ?_
     refine Xa 40 rfl (congrArg (fun z => PV.val (Value.int .i64 z)) w3) ?_
     refine Xe tG rfl rfl rfl rfl (fun _ => rfl) trivial ?_
     refine Xe tG rfl rfl rfl rfl (fun _ => rfl) trivial ?_
     refine Xe tG rfl rfl rfl rfl (fun _ => rfl) trivial ?_
     refine Xa 43 rfl (congrArg (fun z => PV.val (Value.int .i64 z)) w2) ?_
     refine Xe tG rfl rfl rfl rfl (fun _ => rfl) (by first | exact trivial | omega | (simp only [dnL] at *; omega) | (simp_all; done) | (simp_all; omega)) ?_
     refine Xa 44 rfl (sq_slice cInt 1 (fun _ => rfl) (by first | exact trivial | omega | (simp only [dnL] at *; omega) | (simp_all; done) | (simp_all; omega))) ?_
     refine Xa 44 rfl ((show _ = sq cInt ((stkPop s).2.1.drop ((stkPop s).2.1.length - 1 - (stkPop s).1.toNat + 1)) by rw [List.take_length, Int.toNat_natCast]; rfl)) ?_
     refine Xe tG rfl rfl rfl rfl (fun _ => rfl) trivial ?_
     refine Xe tG rfl rfl rfl rfl (fun _ => rfl) trivial ?_
     first | refine Xi tG rfl rfl rfl rfl (fun _ => rfl) (by first | exact trivial | omega | (simp only [dnL] at *; omega) | (simp_all; done) | (simp_all; omega)) (iN cInt 1 (fun _ => rfl) 0 (by first | exact trivial | omega | (simp only [dnL] at *; omega) | (simp_all; done) | (simp_all; omega))) ?_ | refine Xi tG rfl rfl rfl rfl (fun _ => rfl) (by first | exact trivial | omega | (simp only [dnL] at *; omega) | (simp_all; done) | (simp_all; omega)) (iR cInt 1 (fun _ => rfl) 0 (by first | exact trivial | omega | (simp only [dnL] at *; omega) | (simp_all; done) | (simp_all; omega))) ?_
     refine Xe tG rfl rfl rfl rfl (fun _ => rfl) trivial ?_
     refine Xe tG rfl rfl rfl rfl (fun _ => rfl) trivial ?_
     first | refine Xa 50 rfl (bsL cInt [_] rfl rfl) ?_ | skip
     refine Xe tG rfl rfl rfl rfl (fun _ => rfl) trivial ?_
     refine WU_call2 rfl rfl rfl rfl (dC rfl Tryz.func28 rfl rfl (clone_new _ (by simp; omega) _)) ?_
     refine WU_does3 rfl rfl rfl rfl (does_append_own (lO tG rfl) rfl (lO tG rfl) (lO tG rfl) rfl rfl rfl rfl (by simp) (by first | exact ⟨_, rfl⟩ | rfl) (by first | exact ⟨rfl, rfl, flatMap_len _ 1 (fun _ => rfl) _, okC_flat _ (fun _ => rfl) _⟩ | exact ⟨rfl, rfl, by simp, by simp [okC]⟩ | exact ⟨rfl, rfl, rfl⟩) (by first | (dsimp only; omega) | (simp; omega) | (simp [List.length_drop]; omega)) (by first | (dsimp only; omega) | (simp; omega) | (simp [List.length_drop]; omega))) ?_
     first | refine Xa 51 rfl (sq_append cInt) ?_ | refine Xa 51 rfl (sq_snoc cInt _) ?_ | refine Xa 51 rfl (sq_one cInt _) ?_ | refine Xa 51 rfl (sq_none cInt) ?_
     refine Xc rfl rfl rfl rfl (fun _ => dC rfl Tryz.func47 rfl rfl ((stk_laid s _ _ _ hs (by omega) (by simp; omega) hm) _)) ?_
     refine Xe tG rfl rfl rfl rfl (fun _ => rfl) trivial ?_
     refine Xe tG rfl rfl rfl rfl (fun _ => rfl) trivial ?_
     refine Xe tG rfl rfl rfl rfl (fun _ => rfl) trivial ?_
     refine Xe tG rfl rfl rfl rfl (fun _ => rfl) trivial ?_
     refine Xe tG rfl rfl rfl rfl (fun _ => rfl) trivial ?_
     refine Xe tG rfl rfl rfl rfl (fun _ => rfl) trivial ?_
     refine WU_nil ?_
     refine Wq ?_
     refine lP rfl ?_
     rw [stkDeep, if_neg hc, if_pos hi2]; rfl
    ·refine Wj ?_
     refine Ws ?_
     refine W_region rfl ?_
     iterate 3 refine We tG rfl rfl rfl trivial ?_
     first | refine Wv tG rfl rfl rfl (by first | exact trivial | omega | (simp only [dnL] at *; omega) | (simp_all; done) | (simp_all; omega)) (iN cInt 1 (fun _ => rfl) 0 (by first | exact trivial | omega | (simp only [dnL] at *; omega) | (simp_all; done) | (simp_all; omega))) ?_ | refine Wv tG rfl rfl rfl (by first | exact trivial | omega | (simp only [dnL] at *; omega) | (simp_all; done) | (simp_all; omega)) (iR cInt 1 (fun _ => rfl) 0 (by first | exact trivial | omega | (simp only [dnL] at *; omega) | (simp_all; done) | (simp_all; omega))) ?_
     iterate 2 refine We tG rfl rfl rfl trivial ?_
     first | refine Wa 62 rfl (bsL cInt [_] rfl rfl) ?_ | skip
     refine We tG rfl rfl rfl trivial ?_
     refine Wc rfl rfl (dC rfl Tryz.func47 rfl rfl ((stk_laid s 1 _ _ hs (by omega) (by simp) hm) _)) ?_
     iterate 6 refine We tG rfl rfl rfl trivial ?_
     refine Wn ?_
     refine Wq ?_
     refine lP rfl ?_
     rw [stkDeep, if_neg hc, if_neg (by rw [hi2]; simp)]; rfl
end Go.Proofs.YtphgdofmjpdhaaaGreat
namespace Go.Proofs.YtphgdofmjpdhaaaGreat
open Go.RowKit
set_option linter.unusedVariables false
set_option maxRecDepth 100000
set_option maxHeartbeats 4000000
def shapeT : List (Str × Nat × Str) := [([68, 85, 80], 1, [97, 97]), ([68, 82, 79, 80], 1, []), ([83, 87, 65, 80], 2, [98, 97]), ([79, 86, 69, 82], 2, [97, 98, 97]), ([78, 73, 80], 2, [98]), ([84, 85, 67, 75], 2, [98, 97, 98]), ([82, 79, 84], 3, [98, 99, 97]), ([45, 82, 79, 84], 3, [99, 97, 98]), ([50, 68, 85, 80], 2, [97, 98, 97, 98]), ([50, 68, 82, 79, 80], 2, []), ([50, 83, 87, 65, 80], 4, [99, 100, 97, 98]), ([50, 79, 86, 69, 82], 4, [97, 98, 99, 100, 97, 98])]
def shapeK : List MKey := shapeT.map fun q => .s q.1
def shapeV : List PV := shapeT.map fun q => .agg [i64 q.2.1, str q.2.2]
theorem flat_shapes : Flat (.smap shapeK shapeV) := by
 unfold Flat shapeV
 exact flatL_map _ (fun q => by simp) _
theorem stk_shapes : PureC Tryz.prog 49 [] (.smap shapeK shapeV) := by
 refine pW tG (rs := [.tmp 0]) Tryz.func49 rfl rfl rfl (by first | simp; done | exact flat_shapes) (by first | simp; done | exact flat_shapes) (fun B => ?_)
 refine Ws ?_
 refine W_region rfl ?_
 refine We tG rfl rfl rfl trivial ?_
 refine Wn ?_
 refine Ws ?_
 refine W_region rfl ?_
 refine Wd rfl rfl (does_makeMap rfl) ?_
 refine We tG rfl rfl rfl trivial ?_
 refine Wd rfl rfl (dI (e := 106) (key := .s [68, 85, 80]) (by kernel_rfl) rfl rfl rfl rfl (by kernel_rfl)) ?_
 refine We tG rfl rfl rfl trivial ?_
 refine Wd rfl rfl (dI (e := 106) (key := .s [68, 82, 79, 80]) (by kernel_rfl) rfl rfl rfl rfl (by kernel_rfl)) ?_
 refine We tG rfl rfl rfl trivial ?_
 refine Wd rfl rfl (dI (e := 106) (key := .s [83, 87, 65, 80]) (by kernel_rfl) rfl rfl rfl rfl (by kernel_rfl)) ?_
 refine We tG rfl rfl rfl trivial ?_
 refine Wd rfl rfl (dI (e := 106) (key := .s [79, 86, 69, 82]) (by kernel_rfl) rfl rfl rfl rfl (by kernel_rfl)) ?_
 refine We tG rfl rfl rfl trivial ?_
 refine Wd rfl rfl (dI (e := 106) (key := .s [78, 73, 80]) (by kernel_rfl) rfl rfl rfl rfl (by kernel_rfl)) ?_
 refine We tG rfl rfl rfl trivial ?_
 refine Wd rfl rfl (dI (e := 106) (key := .s [84, 85, 67, 75]) (by kernel_rfl) rfl rfl rfl rfl (by kernel_rfl)) ?_
 refine We tG rfl rfl rfl trivial ?_
 refine Wd rfl rfl (dI (e := 106) (key := .s [82, 79, 84]) (by kernel_rfl) rfl rfl rfl rfl (by kernel_rfl)) ?_
 refine We tG rfl rfl rfl trivial ?_
 refine Wd rfl rfl (dI (e := 106) (key := .s [45, 82, 79, 84]) (by kernel_rfl) rfl rfl rfl rfl (by kernel_rfl)) ?_
 refine We tG rfl rfl rfl trivial ?_
 refine Wd rfl rfl (dI (e := 106) (key := .s [50, 68, 85, 80]) (by kernel_rfl) rfl rfl rfl rfl (by kernel_rfl)) ?_
 refine We tG rfl rfl rfl trivial ?_
 refine Wd rfl rfl (dI (e := 106) (key := .s [50, 68, 82, 79, 80]) (by kernel_rfl) rfl rfl rfl rfl (by kernel_rfl)) ?_
 refine We tG rfl rfl rfl trivial ?_
 refine Wd rfl rfl (dI (e := 106) (key := .s [50, 83, 87, 65, 80]) (by kernel_rfl) rfl rfl rfl rfl (by kernel_rfl)) ?_
 refine We tG rfl rfl rfl trivial ?_
 refine Wd rfl rfl (dI (e := 106) (key := .s [50, 79, 86, 69, 82]) (by kernel_rfl) rfl rfl rfl rfl (by kernel_rfl)) ?_
 refine We tG rfl rfl rfl trivial ?_
 refine WO_freezeM 14 _ rfl rfl rfl ?_
 refine We tG rfl rfl rfl trivial ?_
 refine Wn ?_
 refine Wq ?_
 refine lP rfl ?_
 rfl
def shapeS (s : List Int) (tk : Nat) (lv : Str) (limit : Int) : List Int × Bool × Int :=
 if s.length < tk then (s, true, -4) else stkLaid s tk (lv.map fun c => (s.drop (s.length - tk)).getD (c.toNat - 97) 0) limit
theorem map_snoc_pv {lv : Str} {f : UInt8 → Int} {k : Nat} {q : SK} (hk : k < lv.length) : PV.seq ((lv.take k).map f ++ [f (lv.getD k 0)]).length (((lv.take k).map f ++ [f (lv.getD k 0)]).flatMap cInt) q = .seq ((lv.take (k + 1)).map f).length (((lv.take (k + 1)).map f).flatMap cInt) q := by
 rw [take_snoc' lv k 0 hk, List.map_append]; rfl
theorem stk_word (name : Str) (s : List Int) (limit : Int) (tk : Nat) (lv : Str) (hs : s.length ≤ 100000) (hm : -9223372036854775808 ≤ limit ∧ limit ≤ 9223372036854775807) (h1 : name ≠ [68, 69, 80, 84, 72]) (h2 : name ≠ [80, 73, 67, 75]) (h3 : name ≠ [82, 79, 76, 76]) (h4 : name ≠ [63, 68, 85, 80])
  (hk : lkPV shapeK shapeV (.s name) (.agg [i64 0, str []]) = (.agg [i64 tk, str lv], true)) (hl : ∀ c ∈ lv, 97 ≤ c.toNat ∧ c.toNat < 97 + tk) (hlen : lv.length ≤ 10) (htk : tk ≤ 4) :
  PureC Tryz.prog 26 [str name, sq cInt s, i64 limit] (tStk (shapeS s tk lv limit)) := by
 refine pW tG (rs := [.tmp 6, .tmp 7, .tmp 8]) Tryz.func26 rfl rfl rfl (by simp) (by simp) (fun B => ?_)
 refine Ws ?_
 refine W_region rfl ?_
 iterate 3 refine We tG rfl rfl rfl trivial ?_
 refine Wn ?_
 iterate 2 refine Ws ?_
 refine W_region rfl ?_
 refine We tG rfl rfl rfl trivial ?_
 refine Wn ?_
 refine Wl ?_
 refine Ws ?_
 refine W_region rfl ?_
 refine We tG rfl rfl rfl trivial ?_
 refine Wa 17 rfl (str_eql _ _) ?_
 refine We tG rfl rfl rfl trivial ?_
 refine Wn ?_
 refine Wf rfl (by exact decide_eq_false h1) ?_
 iterate 2 refine Ws ?_
 refine W_region rfl ?_
 refine We tG rfl rfl rfl trivial ?_
 refine Wa 28 rfl (str_eql _ _) ?_
 refine We tG rfl rfl rfl trivial ?_
 refine Wn ?_
 refine Wf rfl (by exact decide_eq_false h2) ?_
 refine W_region rfl ?_
 refine We tG rfl rfl rfl trivial ?_
 refine Wa 29 rfl (str_eql _ _) ?_
 refine We tG rfl rfl rfl trivial ?_
 refine Wn ?_
 refine Wf rfl (by exact decide_eq_false h3) ?_
 refine Wj ?_
 refine Ws ?_
 refine W_region rfl ?_
 refine Wc rfl rfl (dC rfl Tryz.func49 rfl rfl ((stk_shapes) _)) ?_
 refine We tG rfl rfl rfl trivial ?_
 refine Wd rfl rfl (does_lookup (e := 106) (key := .s name) (by kernel_rfl) (lO tG rfl) (by kernel_rfl) rfl rfl rfl rfl (by kernel_rfl) (hk)) ?_
 iterate 6 refine We tG rfl rfl rfl trivial ?_
 refine Wn ?_
 iterate 2 refine Ws ?_
 refine W_region rfl ?_
 iterate 2 refine We tG rfl rfl rfl trivial ?_
 refine Wa 45 rfl (str_eql _ _) ?_
 refine Wn ?_
 refine Wf rfl (by exact decide_eq_false h4) ?_
 refine Wj ?_
 iterate 2 refine Ws ?_
 refine W_region rfl ?_
 iterate 2 refine We tG rfl rfl rfl trivial ?_
 refine Wn ?_
 refine Wf rfl (by rfl) ?_
 refine Wj ?_
 iterate 2 refine Ws ?_
 refine W_region rfl ?_
 iterate 5 refine We tG rfl rfl rfl trivial ?_
 refine Wn ?_
 refine Wi rfl (fun hi6 => ?_) (fun hi6 => ?_)
 ·have h0 : s.length < tk := by (try simp only [dnL] at *); omega
  refine Ws ?_
  refine W_region rfl ?_
  iterate 4 refine We tG rfl rfl rfl trivial ?_
  refine Wn ?_
  refine Wq ?_
  refine lP rfl ?_
  rw [shapeS, if_pos h0]; rfl
 ·have h0 : ¬ s.length < tk := by (try simp only [dnL] at *); omega
  have w1 : IntKind.i64.wrap ((s.length : Int) - (tk : Int)) = ((s.length - tk : Nat) : Int) := by (first | omega | (simp only [dnL] at *; omega) | (rw [i64w]; unfold wrap64; (try simp only [dnL] at *); omega))
  refine Wj ?_
  refine Ws ?_
  refine W_region rfl ?_
  iterate 6 refine We tG rfl rfl rfl trivial ?_
  refine Wa 74 rfl (congrArg (fun z => PV.val (Value.int .i64 z)) w1) ?_
  refine We tG rfl rfl rfl (by first | exact trivial | omega | (simp only [dnL] at *; omega) | (simp_all; done) | (simp_all; omega)) ?_
  refine Wa 75 rfl (sq_slice cInt 1 (fun _ => rfl) (by first | exact trivial | omega | (simp only [dnL] at *; omega) | (simp_all; done) | (simp_all; omega))) ?_
  refine Wa 75 rfl ((show _ = sq cInt (s.drop (s.length - tk)) by rw [List.take_length, Int.toNat_natCast]; rfl)) ?_
  refine We tG rfl rfl rfl trivial ?_
  refine Wn ?_
  refine Ws ?_
  refine W_region rfl ?_
  refine We tG rfl rfl rfl trivial ?_
  first | refine WO_own 12 0 1 rfl rfl ?_ | skip
  refine Wn ?_
  iterate 2 refine Ws ?_
  refine W_region rfl ?_
  iterate 2 refine We tG rfl rfl rfl trivial ?_
  refine Wd rfl rfl (does_rangeStr (lO tG rfl) rfl rfl rfl) ?_
  refine Wn ?_
  refine Wl ?_
  show W _ _ _ _ _ _ _
  refine W_loopS (fun (k : Nat) => [(1, sq cInt s), (2, i64 limit), (9, .ptr 0 0), (11, sq cInt (s.drop (s.length - tk))), (78, .ptr 3 0), (12, .seq ((lv.take k).map fun c => (s.drop (s.length - tk)).getD (c.toNat - 97) 0).length (((lv.take k).map fun c => (s.drop (s.length - tk)).getD (c.toNat - 97) 0).flatMap cInt) (.own 4 1))]) (fun (k : Nat) => [.cells [i64 tk, str lv] 106, .dead, .dead]) (fun (k : Nat) => [.iter lv k, .free (((lv.take k).map fun c => (s.drop (s.length - tk)).getD (c.toNat - 97) 0).length * 1)]) (fun (k : Nat) => k ≤ lv.length) (fun (k : Nat) => lv.length - k) (0) (by first | exact trivial | omega | simp) [2, 1] ?_ ?_
  ·exact ⟨rfl, ⟨(by repeat (first | exact reBase_nil | refine rB (.inl rfl) ?_ | refine rB (.inr rfl) ?_)), (by repeat (first | exact reX_nil | refine rX rfl ?_ | refine rX (by refine congrArg (fun q => some (Ob.free q)) ?_; simp <;> omega) ?_)), (by decide), (by repeat (first | exact moved_nil | refine mC (.inl (Nat.le_of_ble_eq_true rfl)) ?_ | refine mC (.inr rfl) ?_)), (by repeat (first | exact nlo_nil | exact nO nlo_nil | refine nlo_cells (by first | (refine nF ?_; simp; done) | (refine nF (flatL_map' ?_ _); intro x; simp; done) | (simp [NL1L, NL1]; done)) ?_ | refine nO ?_ | refine nlo_dead ?_ | refine nlo_iter ?_ | refine nlo_smap (by first | (refine nF ?_; simp; done) | (refine nF (flatL_map' ?_ _); intro x; simp; done) | (simp [NL1L, NL1]; done)) ?_))⟩, (by repeat (first | exact subL_nil | refine subL_cons (by first | exact imp_of rfl | exact imp_seq _ _ _ | exact imp_of (congrArg i64 (by first | (rw [i64w]; unfold wrap64; omega) | omega | (simp; done)))) ?_)), (by repeat (first | exact nls_nil | refine nls_cons (by first | (refine nl_flat ?_; simp; done) | (show _ < _; first | decide | (simp; done)) | (refine ⟨?_, flatL_map' ?_ _⟩ <;> first | decide | (intro x; simp; done) | (simp; done)) | (refine ⟨?_, ?_⟩ <;> first | decide | (simp; done)) | (simp [NL, NL1L, NL1]; done)) ?_))⟩
  ·intro k hk
   refine Ws ?_
   refine W_region rfl ?_
   by_cases hx1 : k < lv.length
   ·have hc := hl (lv.getD k 0) (by simp only [List.getD, List.getElem?_eq_getElem hx1, Option.getD_some]; exact List.getElem_mem hx1)
    have w2 : IntKind.i32.wrap (((lv.getD k 0).toNat : Int) - 97) = (((lv.getD k 0).toNat - 97 : Nat) : Int) := by rw [IntWalk.i32_left]; unfold wrap32; omega
    refine Wd rfl rfl (does_next rfl rfl rfl (by exact hx1) (by omega)) ?_
    refine We tG rfl rfl rfl trivial ?_
    refine Wn ?_
    refine Ws ?_
    refine Wt rfl rfl ?_
    refine Wj ?_
    refine Wl ?_
    refine Ws ?_
    refine W_region rfl ?_
    iterate 2 refine We tG rfl rfl rfl trivial ?_
    refine Wn ?_
    refine W_region rfl ?_
    iterate 4 refine We tG rfl rfl rfl trivial ?_
    refine Wa 85 rfl (congrArg (fun z => PV.val (Value.int .i32 z)) w2) ?_
    first | refine Wv tG rfl rfl rfl (by simp only [List.length_drop, Int.toNat_natCast]; omega) (iN cInt 1 (fun _ => rfl) 0 (by simp only [List.length_drop, Int.toNat_natCast]; omega)) ?_ | refine Wv tG rfl rfl rfl (by simp only [List.length_drop, Int.toNat_natCast]; omega) (iR cInt 1 (fun _ => rfl) 0 (by simp only [List.length_drop, Int.toNat_natCast]; omega)) ?_
    iterate 2 refine We tG rfl rfl rfl trivial ?_
    first | refine Wa 88 rfl (bsL cInt [_] rfl rfl) ?_ | skip
    first | refine Wd rfl rfl (does_append_clip (lO tG rfl) rfl (lO tG rfl) (lO tG rfl) rfl rfl (by first | exact ⟨_, rfl⟩ | rfl) (by first | exact ⟨rfl, rfl, flatMap_len _ 1 (fun _ => rfl) _, okC_flat _ (fun _ => rfl) _⟩ | exact ⟨rfl, rfl, by simp, by simp [okC]⟩ | exact ⟨rfl, rfl, rfl⟩) (by first | exact flatMap_len _ 1 (fun _ => rfl) _ | rfl | simp) (by first | (dsimp only; omega) | (first | exact trivial | omega | (simp only [dnL] at *; omega) | (simp_all; done) | (simp_all; omega))) (by first | (dsimp only; omega) | (first | exact trivial | omega | (simp only [dnL] at *; omega) | (simp_all; done) | (simp_all; omega)))) ?_ | refine Wd rfl rfl (does_append_own (lO tG rfl) rfl (lO tG rfl) (lO tG rfl) rfl rfl rfl rfl (by simp) (by first | exact ⟨_, rfl⟩ | rfl) (by first | exact ⟨rfl, rfl, flatMap_len _ 1 (fun _ => rfl) _, okC_flat _ (fun _ => rfl) _⟩ | exact ⟨rfl, rfl, by simp, by simp [okC]⟩ | exact ⟨rfl, rfl, rfl⟩) (by first | (dsimp only; omega) | (first | exact trivial | omega | (simp only [dnL] at *; omega) | (simp_all; done) | (simp_all; omega))) (by first | (dsimp only; omega) | (first | exact trivial | omega | (simp only [dnL] at *; omega) | (simp_all; done) | (simp_all; omega)))) ?_
    first | refine Wa 89 rfl (sq_append cInt) ?_ | refine Wa 89 rfl (sq_snoc cInt _) ?_ | refine Wa 89 rfl (sq_one cInt _) ?_ | refine Wa 89 rfl (sq_none cInt) ?_
    refine We tG rfl rfl rfl trivial ?_
    first | refine WO_own 12 0 1 rfl rfl ?_ | skip
    refine Wn ?_
    exact ⟨k + 1, [3, 5], (by omega), (by omega), ⟨rfl, ⟨(by repeat (first | exact reBase_nil | refine rB (.inl rfl) ?_ | refine rB (.inr rfl) ?_)), (by repeat (first | exact reX_nil | refine rX rfl ?_ | refine rX (by refine congrArg (fun q => some (Ob.free q)) ?_; simp <;> omega) ?_)), (by decide), (by repeat (first | exact moved_nil | refine mC (.inl (Nat.le_of_ble_eq_true rfl)) ?_ | refine mC (.inr rfl) ?_)), (by repeat (first | exact nlo_nil | exact nO nlo_nil | refine nlo_cells (by first | (refine nF ?_; simp; done) | (refine nF (flatL_map' ?_ _); intro x; simp; done) | (simp [NL1L, NL1]; done)) ?_ | refine nO ?_ | refine nlo_dead ?_ | refine nlo_iter ?_ | refine nlo_smap (by first | (refine nF ?_; simp; done) | (refine nF (flatL_map' ?_ _); intro x; simp; done) | (simp [NL1L, NL1]; done)) ?_))⟩, (by repeat (first | exact subL_nil | refine subL_cons (by first | exact imp_of rfl | exact imp_seq _ _ _ | exact imp_of (map_snoc_pv hx1) | exact imp_of (congrArg i64 (by first | (rw [i64w]; unfold wrap64; omega) | omega | (simp; done)))) ?_)), (by repeat (first | exact nls_nil | refine nls_cons (by first | (refine nl_flat ?_; simp; done) | (show _ < _; first | decide | (simp; done)) | (refine ⟨?_, flatL_map' ?_ _⟩ <;> first | decide | (intro x; simp; done) | (simp; done)) | (refine ⟨?_, ?_⟩ <;> first | decide | (simp; done)) | (simp [NL, NL1L, NL1]; done)) ?_))⟩⟩
   ·refine Wd rfl rfl (does_next_end rfl rfl rfl (by omega)) ?_
    refine We tG rfl rfl rfl trivial ?_
    refine Wn ?_
    refine Ws ?_
    refine Wf rfl rfl ?_
    refine W_exit ?_
    refine Ws ?_
    refine W_region rfl ?_
    iterate 5 refine We tG rfl rfl rfl trivial ?_
    refine Wc rfl rfl (dC rfl Tryz.func47 rfl rfl ((stk_laid s tk _ limit hs (by omega) (by simp; omega) hm) _)) ?_
    iterate 6 refine We tG rfl rfl rfl trivial ?_
    refine Wn ?_
    refine Wq ?_
    refine lP rfl ?_
    rw [shapeS, if_neg h0, take_all' lv k (by omega)]; rfl
end Go.Proofs.YtphgdofmjpdhaaaGreat
namespace Go.Proofs.YtphgdofmjpdhaaaGreat
open Go.RowKit
set_option linter.unusedVariables false
set_option maxRecDepth 100000
set_option maxHeartbeats 4000000
def pickK (s : List Int) : Int := if s.length = 0 ∨ s.getD (s.length - 1) 0 < 0 ∨ (s.length : Int) - 1 ≤ s.getD (s.length - 1) 0 then (s.length : Int) + 1 else s.getD (s.length - 1) 0 + 2
end Go.Proofs.YtphgdofmjpdhaaaGreat
