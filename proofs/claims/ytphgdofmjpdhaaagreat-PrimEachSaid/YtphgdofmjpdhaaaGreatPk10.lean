import Derived.Test.YtphgdofmjpdhaaaGreatPk9
set_option linter.unusedVariables false
set_option linter.unusedSimpArgs false
namespace Go.Proofs.YtphgdofmjpdhaaaGreat
open Go.RowKit
set_option maxRecDepth 100000
set_option maxHeartbeats 4000000
theorem ask_none {v : VVm} {name : Str} {x : List Int} (n0 : ¬ name = [80, 79, 83, 84]) (n1 : ¬ name = [67, 65, 78, 67, 69, 76]) (n2 : ¬ name = [65, 70, 84, 69, 82]) (n3 : ¬ name = [69, 86, 69, 82, 89]) : askS2 v name x = none := by
 unfold askS2
 rw [if_neg n0, if_neg n1, if_neg n2, if_neg n3]
theorem ask_post (v : VVm) (x : List Int) : askS2 v [80, 79, 83, 84] x = some (pPost v x) := by kernel_rfl
theorem ask_cancel (v : VVm) (x : List Int) : askS2 v [67, 65, 78, 67, 69, 76] x = some (pCancel v x) := by kernel_rfl
theorem ask_after (v : VVm) (x : List Int) : askS2 v [65, 70, 84, 69, 82] x = some (pTimer 2 v x) := by kernel_rfl
theorem ask_every (v : VVm) (x : List Int) : askS2 v [69, 86, 69, 82, 89] x = some (pTimer 3 v x) := by kernel_rfl
theorem ref_ask_none (v : VVm) (name : Str) (x : List Int) (n0 : ¬ name = [80, 79, 83, 84]) (n1 : ¬ name = [67, 65, 78, 67, 69, 76]) (n2 : ¬ name = [65, 70, 84, 69, 82]) (n3 : ¬ name = [69, 86, 69, 82, 89]) : PureC Tryz.prog 73 [eVm v, str name, sq cInt x] (tNm v none) := by
 refine pW tG (rs := [.cell 6 36, .tmp 7, .tmp 8, .tmp 9]) Tryz.func73 rfl rfl rfl (by simp) (by simp) (fun B => ?_)
 refine zu5 ?_
 refine zp2 ?_
 refine Wa 13 rfl (str_eql _ _) ?_
 refine z1 ?_
 refine WO_false 14 rfl (by exact decide_eq_false n2) ?_
 refine zy2 ?_
 refine Wa 16 rfl (str_eql _ _) ?_
 refine zs2 ?_
 refine Ws ?_
 refine zp2 ?_
 refine Wa 19 rfl (str_neq _ _) ?_
 refine z1 ?_
 refine WO_true 20 rfl (by rw [decide_eq_false n0]; rfl) ?_
 refine zy2 ?_
 refine Wa 22 rfl (str_neq _ _) ?_
 refine zy2 ?_
 refine WO_true 24 rfl (by rw [decide_eq_false n1]; rfl) ?_
 refine zs3 ?_
 refine Wt rfl (by rw [decide_eq_false n3]; rfl) ?_
 refine zu5 ?_
 refine zR ?_
 rfl
theorem ref_ask_cancel (v : VVm) (hv : VmOk v) (x : List Int) (hl : 1 ≤ x.length) : PureC Tryz.prog 73 [eVm v, str [67, 65, 78, 67, 69, 76], sq cInt x] (tNm v (some (pCancel v x))) := by
 have hr := hv.req
 have hd := hv.hand
 refine pW tG (rs := [.cell 6 36, .tmp 7, .tmp 8, .tmp 9]) Tryz.func73 rfl rfl rfl (by simp) (by simp) (fun B => ?_)
 refine zu5 ?_
 refine zp2 ?_
 refine Wa 13 rfl (str_eql _ _) ?_
 refine z1 ?_
 refine WO_false 14 rfl (by decide) ?_
 refine zy2 ?_
 refine Wa 16 rfl (str_eql _ _) ?_
 refine zs2 ?_
 refine Ws ?_
 refine zp2 ?_
 refine Wa 19 rfl (str_neq _ _) ?_
 refine z1 ?_
 refine WO_true 20 rfl (by decide) ?_
 refine zy2 ?_
 refine Wa 22 rfl (str_neq _ _) ?_
 refine zy2 ?_
 refine WO_false 24 rfl (by decide) ?_
 iterate 2 refine z6 ?_
 refine zs1 ?_
 refine Wf rfl rfl ?_
 refine Wj ?_
 refine zp1 ?_
 refine Wv tG rfl rfl rfl (by omega) (iN cInt 1 (fun _ => rfl) 0 (by (simp only [dnL] at *; omega))) ?_
 refine zs4 ?_
 refine Ws ?_
 refine zp2 ?_
 refine Wa 34 rfl (str_neq _ _) ?_
 refine Wn ?_
 refine Wf rfl (by decide) ?_
 refine Wj ?_
 refine Ws ?_
 refine zp2 ?_
 refine WO_false 72 rfl (by decide) ?_
 iterate 10 refine z6 ?_
 refine zs1 ?_
 refine Wf rfl rfl ?_
 refine Wj ?_
 refine Ws ?_
 refine zu4 ?_
 refine Wi rfl (fun hi2 => ?_) (fun hi2 => ?_)
 ·have h5 : 16 ≤ (v.req.length : Int) := oT hi2
  refine zu5 ?_
  refine zR ?_
  rw [pCancel, if_pos h5]; rfl
 ·have h5 : ¬ 16 ≤ (v.req.length : Int) := oF hi2
  refine Wj ?_
  refine Ws ?_
  refine zu2 ?_
  refine Wt rfl (by decide) ?_
  refine Ws ?_
  refine V.W_drawD [0, 0, 1, 2, 1, 0, 3, 0, 3] [0, 1, 2, 4, 5, 3, 6, 7, 8] mG rfl (by kernel_rfl) ?_
  refine V.z3 ?_
  refine V.Xa 92 rfl ((show PV.seq 0 _ .clip = .seq (List.length ([] : List VReq)) (List.flatMap cReq ([] : List VReq)) .clip from rfl)) ?_
  refine V.z3 ?_
  iterate 2 refine V.z5 ?_
  refine V.z3 ?_
  refine V.Xa 97 rfl ((show PV.seq 1 _ .clip = .seq (List.length [(⟨4, 0, 0, 0, 0, xat x 0⟩ : VReq)]) (List.flatMap cReq [(⟨4, 0, 0, 0, 0, xat x 0⟩ : VReq)]) .clip from rfl)) ?_
  refine V.WU_does2 rfl rfl rfl rfl (does_append_clip (lO tG rfl) rfl (lO tG rfl) (lO tG rfl) rfl rfl (by exact ⟨_, rfl⟩) (by exact ⟨rfl, rfl, flatMap_len _ 6 (fun _ => rfl) _, okC_flat _ (fun _ => rfl) _⟩) (by exact flatMap_len _ 6 (fun _ => rfl) _) (by (simp; omega)) (by (simp; omega))) ?_
  refine V.Xa 95 rfl (sq_append cReq) ?_
  refine V.WU_does3 rfl rfl rfl rfl (does_append_own (lO tG rfl) rfl (lO tG rfl) (lO tG rfl) rfl rfl rfl rfl (by simp) (by exact ⟨_, rfl⟩) (by exact ⟨rfl, rfl, flatMap_len _ 6 (fun _ => rfl) _, okC_flat _ (fun _ => rfl) _⟩) (by (simp; omega)) (by (simp; omega))) ?_
  refine V.Xa 98 rfl (sq_append cReq) ?_
  refine V.z3 ?_
  refine V.WU_ev3 tG rfl rfl rfl rfl rfl trivial ?_
  refine V.WU_nil ?_
  refine zu5 ?_
  refine zR ?_
  rw [pCancel, if_neg h5]; rfl
theorem ref_ask_post (v : VVm) (hv : VmOk v) (x : List Int) (hl : 3 ≤ x.length) : PureC Tryz.prog 73 [eVm v, str [80, 79, 83, 84], sq cInt x] (tNm v (some (pPost v x))) := by
 have hr := hv.req
 have hd := hv.hand
 refine pW tG (rs := [.cell 6 36, .tmp 7, .tmp 8, .tmp 9]) Tryz.func73 rfl rfl rfl (by simp) (by simp) (fun B => ?_)
 refine zu5 ?_
 refine zp2 ?_
 refine Wa 13 rfl (str_eql _ _) ?_
 refine z1 ?_
 refine WO_false 14 rfl (by decide) ?_
 refine zy2 ?_
 refine Wa 16 rfl (str_eql _ _) ?_
 refine zs2 ?_
 refine Ws ?_
 refine zp2 ?_
 refine Wa 19 rfl (str_neq _ _) ?_
 refine z1 ?_
 refine WO_false 20 rfl (by decide) ?_
 iterate 2 refine z6 ?_
 refine zy2 ?_
 iterate 2 refine z6 ?_
 refine zs1 ?_
 refine Wf rfl rfl ?_
 refine Wj ?_
 refine zp1 ?_
 refine Wv tG rfl rfl rfl (by omega) (iN cInt 1 (fun _ => rfl) 0 (by (simp only [dnL] at *; omega))) ?_
 refine zs4 ?_
 refine Ws ?_
 refine zp2 ?_
 refine Wa 34 rfl (str_neq _ _) ?_
 refine Wn ?_
 refine Wt rfl (by decide) ?_
 iterate 2 refine Ws ?_
 refine V.W_drawD [0, 0, 1, 0, 0, 0, 0, 1, 0, 1, 0, 0, 0, 0, 0, 0, 1, 0, 0, 0, 0, 0, 1, 0, 0] [0, 1, 2, 3, 4, 5, 6, 7, 8, 9, 10, 11, 12, 13, 14, 15, 16, 17, 18, 19, 20, 21, 22, 23, 24] mG rfl (by kernel_rfl) ?_
 refine V.z3 ?_
 refine V.Xi tG rfl rfl rfl rfl (fun _ => rfl) (by omega) (iN cInt 1 (fun _ => rfl) 0 (by (simp only [dnL] at *; omega))) ?_
 refine V.z5 ?_
 iterate 2 refine V.z3 ?_
 refine V.WU_split 39 rfl (fun hg3 => ?_) (fun hg3 => ?_)
 ·have h1 : xat x 1 < 0 := oT hg3
  have hb : pBounds v x := .inl h1
  iterate 7 refine V.z7 ?_
  iterate 2 refine V.z3 ?_
  iterate 4 refine V.z7 ?_
  iterate 2 refine V.z3 ?_
  iterate 4 refine V.z7 ?_
  refine V.z3 ?_
  refine V.WU_nil ?_
  refine Wt rfl rfl ?_
  refine zu5 ?_
  refine zR ?_
  rw [pPost, if_pos hb]; rfl
 ·have h1 : ¬ xat x 1 < 0 := oF hg3
  refine V.z3 ?_
  refine V.Xi tG rfl rfl rfl rfl (fun _ => rfl) (by omega) (iN cInt 1 (fun _ => rfl) 0 (by (simp only [dnL] at *; omega))) ?_
  refine V.z5 ?_
  refine V.z3 ?_
  refine V.z5 ?_
  iterate 4 refine V.z3 ?_
  refine V.WU_split 48 rfl (fun hg4 => ?_) (fun hg4 => ?_)
  ·have h2 : (v.hand.length : Int) ≤ xat x 1 := oT hg4
   have hb : pBounds v x := .inr (.inl h2)
   iterate 4 refine V.z7 ?_
   iterate 2 refine V.z3 ?_
   iterate 4 refine V.z7 ?_
   refine V.z3 ?_
   refine V.WU_nil ?_
   refine Wt rfl rfl ?_
   refine zu5 ?_
   refine zR ?_
   rw [pPost, if_pos hb]; rfl
  ·have h2 : ¬ (v.hand.length : Int) ≤ xat x 1 := oF hg4
   refine V.z3 ?_
   refine V.Xi tG rfl rfl rfl rfl (fun _ => rfl) (by omega) (iN cInt 1 (fun _ => rfl) 0 (by (simp only [dnL] at *; omega))) ?_
   refine V.z5 ?_
   iterate 3 refine V.z3 ?_
   refine V.WU_split 54 rfl (fun hg5 => ?_) (fun hg5 => ?_)
   ·have h3 : xat x 2 < 0 := oT hg5
    have hb : pBounds v x := .inr (.inr (.inl h3))
    iterate 4 refine V.z7 ?_
    refine V.z3 ?_
    refine V.WU_nil ?_
    refine Wt rfl rfl ?_
    refine zu5 ?_
    refine zR ?_
    rw [pPost, if_pos hb]; rfl
   ·have h3 : ¬ xat x 2 < 0 := oF hg5
    refine V.z3 ?_
    refine V.Xi tG rfl rfl rfl rfl (fun _ => rfl) (by omega) (iN cInt 1 (fun _ => rfl) 0 (by (simp only [dnL] at *; omega))) ?_
    refine V.z5 ?_
    iterate 2 refine V.z3 ?_
    refine V.WU_nil ?_
    refine Wi rfl (fun hi2 => ?_) (fun hi2 => ?_)
    ·have h4 : 3 < xat x 2 := oT hi2
     have hb : pBounds v x := .inr (.inr (.inr h4))
     refine zu5 ?_
     refine zR ?_
     rw [pPost, if_pos hb]; rfl
    ·have h4 : ¬ 3 < xat x 2 := oF hi2
     have hb : ¬ pBounds v x := by rintro (h | h | h | h) <;> omega
     refine Wj ?_
     refine V.W_drawD [0, 0, 1, 0, 0, 1, 0, 0, 1, 0, 3] [0, 1, 2, 3, 4, 5, 6, 7, 8, 9, 10] mG rfl (by kernel_rfl) ?_
     refine V.z3 ?_
     refine V.Xi tG rfl rfl rfl rfl (fun _ => rfl) (by omega) (iN cInt 1 (fun _ => rfl) 0 (by (simp only [dnL] at *; omega))) ?_
     refine V.z5 ?_
     refine V.z3 ?_
     refine V.Xi tG rfl rfl rfl rfl (fun _ => rfl) (by omega) (iN cInt 1 (fun _ => rfl) 0 (by (simp only [dnL] at *; omega))) ?_
     refine V.z5 ?_
     refine V.z3 ?_
     refine V.Xi tG rfl rfl rfl rfl (fun _ => rfl) (by omega) (iN cInt 1 (fun _ => rfl) 0 (by (simp only [dnL] at *; omega))) ?_
     refine V.z5 ?_
     refine V.z3 ?_
     refine V.WU_ev3 tG rfl rfl rfl rfl rfl trivial ?_
     refine V.WU_nil ?_
     refine Ws ?_
     refine zp2 ?_
     refine WO_false 72 rfl (by decide) ?_
     iterate 10 refine z6 ?_
     refine zs1 ?_
     refine Wf rfl rfl ?_
     refine Wj ?_
     refine Ws ?_
     refine zu4 ?_
     refine Wi rfl (fun hi3 => ?_) (fun hi3 => ?_)
     ·have h5 : 16 ≤ (v.req.length : Int) := oT hi3
      refine zu5 ?_
      refine zR ?_
      rw [pPost, if_neg hb, if_pos h5]; rfl
     ·have h5 : ¬ 16 ≤ (v.req.length : Int) := oF hi3
      refine Wj ?_
      refine Ws ?_
      refine zu2 ?_
      refine Wt rfl (by decide) ?_
      refine Ws ?_
      refine V.W_drawD [0, 0, 1, 2, 1, 0, 3, 0, 3] [0, 1, 2, 4, 5, 3, 6, 7, 8] mG rfl (by kernel_rfl) ?_
      refine V.z3 ?_
      refine V.Xa 92 rfl ((show PV.seq 0 _ .clip = .seq (List.length ([] : List VReq)) (List.flatMap cReq ([] : List VReq)) .clip from rfl)) ?_
      refine V.z3 ?_
      iterate 2 refine V.z5 ?_
      refine V.z3 ?_
      refine V.Xa 97 rfl ((show PV.seq 1 _ .clip = .seq (List.length [(⟨1, xat x 0, xat x 1, xat x 2, 0, 0⟩ : VReq)]) (List.flatMap cReq [(⟨1, xat x 0, xat x 1, xat x 2, 0, 0⟩ : VReq)]) .clip from rfl)) ?_
      refine V.WU_does2 rfl rfl rfl rfl (does_append_clip (lO tG rfl) rfl (lO tG rfl) (lO tG rfl) rfl rfl (by exact ⟨_, rfl⟩) (by exact ⟨rfl, rfl, flatMap_len _ 6 (fun _ => rfl) _, okC_flat _ (fun _ => rfl) _⟩) (by exact flatMap_len _ 6 (fun _ => rfl) _) (by (simp; omega)) (by (simp; omega))) ?_
      refine V.Xa 95 rfl (sq_append cReq) ?_
      refine V.WU_does3 rfl rfl rfl rfl (does_append_own (lO tG rfl) rfl (lO tG rfl) (lO tG rfl) rfl rfl rfl rfl (by simp) (by exact ⟨_, rfl⟩) (by exact ⟨rfl, rfl, flatMap_len _ 6 (fun _ => rfl) _, okC_flat _ (fun _ => rfl) _⟩) (by (simp; omega)) (by (simp; omega))) ?_
      refine V.Xa 98 rfl (sq_append cReq) ?_
      refine V.z3 ?_
      refine V.WU_ev3 tG rfl rfl rfl rfl rfl trivial ?_
      refine V.WU_nil ?_
      refine zu5 ?_
      refine zR ?_
      rw [pPost, if_neg hb, if_neg h5]; rfl
theorem ref_ask_after (v : VVm) (hv : VmOk v) (x : List Int) (hl : 4 ≤ x.length) : PureC Tryz.prog 73 [eVm v, str [65, 70, 84, 69, 82], sq cInt x] (tNm v (some (pTimer 2 v x))) := by
 have hr := hv.req
 have hd := hv.hand
 refine pW tG (rs := [.cell 6 36, .tmp 7, .tmp 8, .tmp 9]) Tryz.func73 rfl rfl rfl (by simp) (by simp) (fun B => ?_)
 refine zu5 ?_
 refine zp2 ?_
 refine Wa 13 rfl (str_eql _ _) ?_
 refine z1 ?_
 refine WO_true 14 rfl (by decide) ?_
 iterate 2 refine z6 ?_
 refine zs2 ?_
 refine Ws ?_
 refine zp2 ?_
 refine Wa 19 rfl (str_neq _ _) ?_
 refine z1 ?_
 refine WO_true 20 rfl (by decide) ?_
 refine zy2 ?_
 refine Wa 22 rfl (str_neq _ _) ?_
 refine zy2 ?_
 refine WO_true 24 rfl (by decide) ?_
 refine zs3 ?_
 refine Wf rfl rfl ?_
 refine Wj ?_
 refine zp1 ?_
 refine Wv tG rfl rfl rfl (by omega) (iN cInt 1 (fun _ => rfl) 0 (by (simp only [dnL] at *; omega))) ?_
 refine zs4 ?_
 refine Ws ?_
 refine zp2 ?_
 refine Wa 34 rfl (str_neq _ _) ?_
 refine Wn ?_
 refine Wt rfl (by decide) ?_
 iterate 2 refine Ws ?_
 refine V.W_drawD [0, 0, 1, 0, 0, 0, 0, 1, 0, 1, 0, 0, 0, 0, 0, 0, 1, 0, 0, 0, 0, 0, 1, 0, 0] [0, 1, 2, 3, 4, 5, 6, 7, 8, 9, 10, 11, 12, 13, 14, 15, 16, 17, 18, 19, 20, 21, 22, 23, 24] mG rfl (by kernel_rfl) ?_
 refine V.z3 ?_
 refine V.Xi tG rfl rfl rfl rfl (fun _ => rfl) (by omega) (iN cInt 1 (fun _ => rfl) 0 (by (simp only [dnL] at *; omega))) ?_
 refine V.z5 ?_
 iterate 2 refine V.z3 ?_
 refine V.WU_split 39 rfl (fun hg4 => ?_) (fun hg4 => ?_)
 ·have h1 : xat x 1 < 0 := oT hg4
  have hb : pBounds v x := .inl h1
  iterate 7 refine V.z7 ?_
  iterate 2 refine V.z3 ?_
  iterate 4 refine V.z7 ?_
  iterate 2 refine V.z3 ?_
  iterate 4 refine V.z7 ?_
  refine V.z3 ?_
  refine V.WU_nil ?_
  refine Wt rfl rfl ?_
  refine zu5 ?_
  refine zR ?_
  rw [pTimer, if_pos hb]; rfl
 ·have h1 : ¬ xat x 1 < 0 := oF hg4
  refine V.z3 ?_
  refine V.Xi tG rfl rfl rfl rfl (fun _ => rfl) (by omega) (iN cInt 1 (fun _ => rfl) 0 (by (simp only [dnL] at *; omega))) ?_
  refine V.z5 ?_
  refine V.z3 ?_
  refine V.z5 ?_
  iterate 4 refine V.z3 ?_
  refine V.WU_split 48 rfl (fun hg5 => ?_) (fun hg5 => ?_)
  ·have h2 : (v.hand.length : Int) ≤ xat x 1 := oT hg5
   have hb : pBounds v x := .inr (.inl h2)
   iterate 4 refine V.z7 ?_
   iterate 2 refine V.z3 ?_
   iterate 4 refine V.z7 ?_
   refine V.z3 ?_
   refine V.WU_nil ?_
   refine Wt rfl rfl ?_
   refine zu5 ?_
   refine zR ?_
   rw [pTimer, if_pos hb]; rfl
  ·have h2 : ¬ (v.hand.length : Int) ≤ xat x 1 := oF hg5
   refine V.z3 ?_
   refine V.Xi tG rfl rfl rfl rfl (fun _ => rfl) (by omega) (iN cInt 1 (fun _ => rfl) 0 (by (simp only [dnL] at *; omega))) ?_
   refine V.z5 ?_
   iterate 3 refine V.z3 ?_
   refine V.WU_split 54 rfl (fun hg6 => ?_) (fun hg6 => ?_)
   ·have h3 : xat x 2 < 0 := oT hg6
    have hb : pBounds v x := .inr (.inr (.inl h3))
    iterate 4 refine V.z7 ?_
    refine V.z3 ?_
    refine V.WU_nil ?_
    refine Wt rfl rfl ?_
    refine zu5 ?_
    refine zR ?_
    rw [pTimer, if_pos hb]; rfl
   ·have h3 : ¬ xat x 2 < 0 := oF hg6
    refine V.z3 ?_
    refine V.Xi tG rfl rfl rfl rfl (fun _ => rfl) (by omega) (iN cInt 1 (fun _ => rfl) 0 (by (simp only [dnL] at *; omega))) ?_
    refine V.z5 ?_
    iterate 2 refine V.z3 ?_
    refine V.WU_nil ?_
    refine Wi rfl (fun hi2 => ?_) (fun hi2 => ?_)
    ·have h4 : 3 < xat x 2 := oT hi2
     have hb : pBounds v x := .inr (.inr (.inr h4))
     refine zu5 ?_
     refine zR ?_
     rw [pTimer, if_pos hb]; rfl
    ·have h4 : ¬ 3 < xat x 2 := oF hi2
     have hb : ¬ pBounds v x := by rintro (h | h | h | h) <;> omega
     refine Wj ?_
     refine V.W_drawD [0, 0, 1, 0, 0, 1, 0, 0, 1, 0, 3] [0, 1, 2, 3, 4, 5, 6, 7, 8, 9, 10] mG rfl (by kernel_rfl) ?_
     refine V.z3 ?_
     refine V.Xi tG rfl rfl rfl rfl (fun _ => rfl) (by omega) (iN cInt 1 (fun _ => rfl) 0 (by (simp only [dnL] at *; omega))) ?_
     refine V.z5 ?_
     refine V.z3 ?_
     refine V.Xi tG rfl rfl rfl rfl (fun _ => rfl) (by omega) (iN cInt 1 (fun _ => rfl) 0 (by (simp only [dnL] at *; omega))) ?_
     refine V.z5 ?_
     refine V.z3 ?_
     refine V.Xi tG rfl rfl rfl rfl (fun _ => rfl) (by omega) (iN cInt 1 (fun _ => rfl) 0 (by (simp only [dnL] at *; omega))) ?_
     refine V.z5 ?_
     refine V.z3 ?_
     refine V.WU_ev3 tG rfl rfl rfl rfl rfl trivial ?_
     refine V.WU_nil ?_
     refine Ws ?_
     refine zp3 ?_
     refine Wv tG rfl rfl rfl (by omega) (iN cInt 1 (fun _ => rfl) 0 (by (simp only [dnL] at *; omega))) ?_
     refine zy3 ?_
     refine Wb 77 rfl (fun hg7 => ?_) (fun hg7 => ?_)
     ·have h6 : xat x 3 < 1 := oT hg7
      have hq : xat x 3 < 1 ∨ 4294967295 < xat x 3 := .inl h6
      iterate 4 refine z6 ?_
      refine zs2 ?_
      refine Wt rfl rfl ?_
      refine zu5 ?_
      refine zR ?_
      rw [pTimer, if_neg hb, if_pos hq]; rfl
     ·have h6 : ¬ xat x 3 < 1 := oF hg7
      refine z1 ?_
      refine Wv tG rfl rfl rfl (by omega) (iN cInt 1 (fun _ => rfl) 0 (by (simp only [dnL] at *; omega))) ?_
      refine zs4 ?_
      refine Wi rfl (fun hi3 => ?_) (fun hi3 => ?_)
      ·have h7 : 4294967295 < xat x 3 := oT hi3
       have hq : xat x 3 < 1 ∨ 4294967295 < xat x 3 := .inr h7
       refine zu5 ?_
       refine zR ?_
       rw [pTimer, if_neg hb, if_pos hq]; rfl
      ·have h7 : ¬ 4294967295 < xat x 3 := oF hi3
       have hq : ¬ (xat x 3 < 1 ∨ 4294967295 < xat x 3) := by omega
       refine Wj ?_
       refine Ws ?_
       refine zu4 ?_
       refine Wi rfl (fun hi4 => ?_) (fun hi4 => ?_)
       ·have h5 : 16 ≤ (v.req.length : Int) := oT hi4
        refine zu5 ?_
        refine zR ?_
        rw [pTimer, if_neg hb, if_neg hq, if_pos h5]; rfl
       ·have h5 : ¬ 16 ≤ (v.req.length : Int) := oF hi4
        refine Wj ?_
        refine Ws ?_
        refine zu2 ?_
        refine Wf rfl rfl ?_
        refine Wj ?_
        refine Ws ?_
        refine zp4 ?_
        refine Wb 104 rfl (fun hg8 => ?_) (fun hg8 => ?_)
        ·have h8 : v.free = 0 := beq_iff_eq.1 hg8
         have hw : v.free = 0 ∨ v.next = 4611686018427387904 := .inl h8
         iterate 3 refine z6 ?_
         refine zs1 ?_
         refine Wt rfl rfl ?_
         refine zu5 ?_
         refine zR ?_
         rw [pTimer, if_neg hb, if_neg hq, if_neg h5, if_pos hw]; rfl
        ·have h8 : ¬ v.free = 0 := beq_eq_false_iff_ne.1 hg8
         refine zs4 ?_
         refine Wi rfl (fun hi5 => ?_) (fun hi5 => ?_)
         ·have h9 : v.next = 4611686018427387904 := beq_iff_eq.1 hi5
          have hw : v.free = 0 ∨ v.next = 4611686018427387904 := .inr h9
          refine zu5 ?_
          refine zR ?_
          rw [pTimer, if_neg hb, if_neg hq, if_neg h5, if_pos hw]; rfl
         ·have h9 : ¬ v.next = 4611686018427387904 := beq_eq_false_iff_ne.1 hi5
          have hw : ¬ (v.free = 0 ∨ v.next = 4611686018427387904) := by rintro (h | h) <;> contradiction
          refine Wj ?_
          refine zu2 ?_
          refine Ws ?_
          refine zp2 ?_
          refine Wa 112 rfl (str_eql _ _) ?_
          refine Wn ?_
          refine Wf rfl (by decide) ?_
          refine Wj ?_
          refine zp1 ?_
          refine Wv tG rfl rfl rfl (by omega) (iN cInt 1 (fun _ => rfl) 0 (by (simp only [dnL] at *; omega))) ?_
          refine zs3 ?_
          refine zu4 ?_
          refine Ws ?_
          refine V.W_drawD [0, 0, 1, 2, 1, 0, 3, 0, 3] [0, 1, 2, 4, 5, 3, 6, 7, 8] mG rfl (by kernel_rfl) ?_
          refine V.z3 ?_
          refine V.Xa 121 rfl ((show PV.seq 0 _ .clip = .seq (List.length ([] : List VReq)) (List.flatMap cReq ([] : List VReq)) .clip from rfl)) ?_
          refine V.z3 ?_
          iterate 2 refine V.z5 ?_
          refine V.z3 ?_
          refine V.Xa 126 rfl ((show PV.seq 1 _ .clip = .seq (List.length [(⟨2, xat x 0, xat x 1, xat x 2, xat x 3, v.next⟩ : VReq)]) (List.flatMap cReq [(⟨2, xat x 0, xat x 1, xat x 2, xat x 3, v.next⟩ : VReq)]) .clip from rfl)) ?_
          refine V.WU_does2 rfl rfl rfl rfl (does_append_clip (lO tG rfl) rfl (lO tG rfl) (lO tG rfl) rfl rfl (by exact ⟨_, rfl⟩) (by exact ⟨rfl, rfl, flatMap_len _ 6 (fun _ => rfl) _, okC_flat _ (fun _ => rfl) _⟩) (by exact flatMap_len _ 6 (fun _ => rfl) _) (by (simp; omega)) (by (simp; omega))) ?_
          refine V.Xa 124 rfl (sq_append cReq) ?_
          refine V.WU_does3 rfl rfl rfl rfl (does_append_own (lO tG rfl) rfl (lO tG rfl) (lO tG rfl) rfl rfl rfl rfl (by simp) (by exact ⟨_, rfl⟩) (by exact ⟨rfl, rfl, flatMap_len _ 6 (fun _ => rfl) _, okC_flat _ (fun _ => rfl) _⟩) (by (simp; omega)) (by (simp; omega))) ?_
          refine V.Xa 127 rfl (sq_append cReq) ?_
          refine V.z3 ?_
          refine V.WU_ev3 tG rfl rfl rfl rfl rfl trivial ?_
          refine V.WU_nil ?_
          refine zu5 ?_
          refine zu5 ?_
          refine Ws ?_
          refine V.W_drawD [4, 0, 8, 0, 7, 0, 0, 0] [0, 1, 2, 3, 4, 5, 6, 7] mG rfl (by kernel_rfl) ?_
          refine V.WU_rd 0 rfl rfl rfl rfl rfl (fun H2 h2 => does_load_ptr (lO tG rfl) rfl rfl h2 rfl) ?_
          refine V.z3 ?_
          refine V.WU_rd 2 rfl rfl rfl rfl rfl (fun H2 h2 => does_load_ptr (lO tG rfl) rfl rfl h2 rfl) ?_
          refine V.z3 ?_
          refine V.Xa 140 rfl (bsL cInt [_] rfl rfl) ?_
          refine V.WU_wr 1 tG rfl rfl rfl rfl rfl trivial rfl ?_
          iterate 3 refine V.z3 ?_
          refine V.WU_nil ?_
          refine zR ?_
          rw [pTimer, if_neg hb, if_neg hq, if_neg h5, if_neg hw]; rfl
theorem ref_ask_every (v : VVm) (hv : VmOk v) (x : List Int) (hl : 4 ≤ x.length) : PureC Tryz.prog 73 [eVm v, str [69, 86, 69, 82, 89], sq cInt x] (tNm v (some (pTimer 3 v x))) := by
 have hr := hv.req
 have hd := hv.hand
 refine pW tG (rs := [.cell 6 36, .tmp 7, .tmp 8, .tmp 9]) Tryz.func73 rfl rfl rfl (by simp) (by simp) (fun B => ?_)
 refine zu5 ?_
 refine zp2 ?_
 refine Wa 13 rfl (str_eql _ _) ?_
 refine z1 ?_
 refine WO_false 14 rfl (by decide) ?_
 refine zy2 ?_
 refine Wa 16 rfl (str_eql _ _) ?_
 refine zs2 ?_
 refine Ws ?_
 refine zp2 ?_
 refine Wa 19 rfl (str_neq _ _) ?_
 refine z1 ?_
 refine WO_true 20 rfl (by decide) ?_
 refine zy2 ?_
 refine Wa 22 rfl (str_neq _ _) ?_
 refine zy2 ?_
 refine WO_true 24 rfl (by decide) ?_
 refine zs3 ?_
 refine Wf rfl (by decide) ?_
 refine Wj ?_
 refine zp1 ?_
 refine Wv tG rfl rfl rfl (by omega) (iN cInt 1 (fun _ => rfl) 0 (by (simp only [dnL] at *; omega))) ?_
 refine zs4 ?_
 refine Ws ?_
 refine zp2 ?_
 refine Wa 34 rfl (str_neq _ _) ?_
 refine Wn ?_
 refine Wt rfl (by decide) ?_
 iterate 2 refine Ws ?_
 refine V.W_drawD [0, 0, 1, 0, 0, 0, 0, 1, 0, 1, 0, 0, 0, 0, 0, 0, 1, 0, 0, 0, 0, 0, 1, 0, 0] [0, 1, 2, 3, 4, 5, 6, 7, 8, 9, 10, 11, 12, 13, 14, 15, 16, 17, 18, 19, 20, 21, 22, 23, 24] mG rfl (by kernel_rfl) ?_
 refine V.z3 ?_
 refine V.Xi tG rfl rfl rfl rfl (fun _ => rfl) (by omega) (iN cInt 1 (fun _ => rfl) 0 (by (simp only [dnL] at *; omega))) ?_
 refine V.z5 ?_
 iterate 2 refine V.z3 ?_
 refine V.WU_split 39 rfl (fun hg4 => ?_) (fun hg4 => ?_)
 ·have h1 : xat x 1 < 0 := oT hg4
  have hb : pBounds v x := .inl h1
  iterate 7 refine V.z7 ?_
  iterate 2 refine V.z3 ?_
  iterate 4 refine V.z7 ?_
  iterate 2 refine V.z3 ?_
  iterate 4 refine V.z7 ?_
  refine V.z3 ?_
  refine V.WU_nil ?_
  refine Wt rfl rfl ?_
  refine zu5 ?_
  refine zR ?_
  rw [pTimer, if_pos hb]; rfl
 ·have h1 : ¬ xat x 1 < 0 := oF hg4
  refine V.z3 ?_
  refine V.Xi tG rfl rfl rfl rfl (fun _ => rfl) (by omega) (iN cInt 1 (fun _ => rfl) 0 (by (simp only [dnL] at *; omega))) ?_
  refine V.z5 ?_
  refine V.z3 ?_
  refine V.z5 ?_
  iterate 4 refine V.z3 ?_
  refine V.WU_split 48 rfl (fun hg5 => ?_) (fun hg5 => ?_)
  ·have h2 : (v.hand.length : Int) ≤ xat x 1 := oT hg5
   have hb : pBounds v x := .inr (.inl h2)
   iterate 4 refine V.z7 ?_
   iterate 2 refine V.z3 ?_
   iterate 4 refine V.z7 ?_
   refine V.z3 ?_
   refine V.WU_nil ?_
   refine Wt rfl rfl ?_
   refine zu5 ?_
   refine zR ?_
   rw [pTimer, if_pos hb]; rfl
  ·have h2 : ¬ (v.hand.length : Int) ≤ xat x 1 := oF hg5
   refine V.z3 ?_
   refine V.Xi tG rfl rfl rfl rfl (fun _ => rfl) (by omega) (iN cInt 1 (fun _ => rfl) 0 (by (simp only [dnL] at *; omega))) ?_
   refine V.z5 ?_
   iterate 3 refine V.z3 ?_
   refine V.WU_split 54 rfl (fun hg6 => ?_) (fun hg6 => ?_)
   ·have h3 : xat x 2 < 0 := oT hg6
    have hb : pBounds v x := .inr (.inr (.inl h3))
    iterate 4 refine V.z7 ?_
    refine V.z3 ?_
    refine V.WU_nil ?_
    refine Wt rfl rfl ?_
    refine zu5 ?_
    refine zR ?_
    rw [pTimer, if_pos hb]; rfl
   ·have h3 : ¬ xat x 2 < 0 := oF hg6
    refine V.z3 ?_
    refine V.Xi tG rfl rfl rfl rfl (fun _ => rfl) (by omega) (iN cInt 1 (fun _ => rfl) 0 (by (simp only [dnL] at *; omega))) ?_
    refine V.z5 ?_
    iterate 2 refine V.z3 ?_
    refine V.WU_nil ?_
    refine Wi rfl (fun hi3 => ?_) (fun hi3 => ?_)
    ·have h4 : 3 < xat x 2 := oT hi3
     have hb : pBounds v x := .inr (.inr (.inr h4))
     refine zu5 ?_
     refine zR ?_
     rw [pTimer, if_pos hb]; rfl
    ·have h4 : ¬ 3 < xat x 2 := oF hi3
     have hb : ¬ pBounds v x := by rintro (h | h | h | h) <;> omega
     refine Wj ?_
     refine V.W_drawD [0, 0, 1, 0, 0, 1, 0, 0, 1, 0, 3] [0, 1, 2, 3, 4, 5, 6, 7, 8, 9, 10] mG rfl (by kernel_rfl) ?_
     refine V.z3 ?_
     refine V.Xi tG rfl rfl rfl rfl (fun _ => rfl) (by omega) (iN cInt 1 (fun _ => rfl) 0 (by (simp only [dnL] at *; omega))) ?_
     refine V.z5 ?_
     refine V.z3 ?_
     refine V.Xi tG rfl rfl rfl rfl (fun _ => rfl) (by omega) (iN cInt 1 (fun _ => rfl) 0 (by (simp only [dnL] at *; omega))) ?_
     refine V.z5 ?_
     refine V.z3 ?_
     refine V.Xi tG rfl rfl rfl rfl (fun _ => rfl) (by omega) (iN cInt 1 (fun _ => rfl) 0 (by (simp only [dnL] at *; omega))) ?_
     refine V.z5 ?_
     refine V.z3 ?_
     refine V.WU_ev3 tG rfl rfl rfl rfl rfl trivial ?_
     refine V.WU_nil ?_
     refine Ws ?_
     refine zp2 ?_
     refine WO_true 72 rfl (by decide) ?_
     refine z1 ?_
     refine Wv tG rfl rfl rfl (by omega) (iN cInt 1 (fun _ => rfl) 0 (by (simp only [dnL] at *; omega))) ?_
     refine zy3 ?_
     refine Wb 77 rfl (fun hg8 => ?_) (fun hg8 => ?_)
     ·have h6 : xat x 3 < 1 := oT hg8
      have hq : xat x 3 < 1 ∨ 4294967295 < xat x 3 := .inl h6
      iterate 4 refine z6 ?_
      refine zs2 ?_
      refine Wt rfl rfl ?_
      refine zu5 ?_
      refine zR ?_
      rw [pTimer, if_neg hb, if_pos hq]; rfl
     ·have h6 : ¬ xat x 3 < 1 := oF hg8
      refine z1 ?_
      refine Wv tG rfl rfl rfl (by omega) (iN cInt 1 (fun _ => rfl) 0 (by (simp only [dnL] at *; omega))) ?_
      refine zs4 ?_
      refine Wi rfl (fun hi4 => ?_) (fun hi4 => ?_)
      ·have h7 : 4294967295 < xat x 3 := oT hi4
       have hq : xat x 3 < 1 ∨ 4294967295 < xat x 3 := .inr h7
       refine zu5 ?_
       refine zR ?_
       rw [pTimer, if_neg hb, if_pos hq]; rfl
      ·have h7 : ¬ 4294967295 < xat x 3 := oF hi4
       have hq : ¬ (xat x 3 < 1 ∨ 4294967295 < xat x 3) := by omega
       refine Wj ?_
       refine Ws ?_
       refine zu4 ?_
       refine Wi rfl (fun hi5 => ?_) (fun hi5 => ?_)
       ·have h5 : 16 ≤ (v.req.length : Int) := oT hi5
        refine zu5 ?_
        refine zR ?_
        rw [pTimer, if_neg hb, if_neg hq, if_pos h5]; rfl
       ·have h5 : ¬ 16 ≤ (v.req.length : Int) := oF hi5
        refine Wj ?_
        refine Ws ?_
        refine zu2 ?_
        refine Wf rfl (by decide) ?_
        refine Wj ?_
        refine Ws ?_
        refine zp4 ?_
        refine Wb 104 rfl (fun hg9 => ?_) (fun hg9 => ?_)
        ·have h8 : v.free = 0 := beq_iff_eq.1 hg9
         have hw : v.free = 0 ∨ v.next = 4611686018427387904 := .inl h8
         iterate 3 refine z6 ?_
         refine zs1 ?_
         refine Wt rfl rfl ?_
         refine zu5 ?_
         refine zR ?_
         rw [pTimer, if_neg hb, if_neg hq, if_neg h5, if_pos hw]; rfl
        ·have h8 : ¬ v.free = 0 := beq_eq_false_iff_ne.1 hg9
         refine zs4 ?_
         refine Wi rfl (fun hi7 => ?_) (fun hi7 => ?_)
         ·have h9 : v.next = 4611686018427387904 := beq_iff_eq.1 hi7
          have hw : v.free = 0 ∨ v.next = 4611686018427387904 := .inr h9
          refine zu5 ?_
          refine zR ?_
          rw [pTimer, if_neg hb, if_neg hq, if_neg h5, if_pos hw]; rfl
         ·have h9 : ¬ v.next = 4611686018427387904 := beq_eq_false_iff_ne.1 hi7
          have hw : ¬ (v.free = 0 ∨ v.next = 4611686018427387904) := by rintro (h | h) <;> contradiction
          refine Wj ?_
          refine zu2 ?_
          refine Ws ?_
          refine zp2 ?_
          refine Wa 112 rfl (str_eql _ _) ?_
          refine Wn ?_
          refine Wt rfl (by decide) ?_
          refine W_region rfl ?_
          refine zs2 ?_
          refine zp1 ?_
          refine Wv tG rfl rfl rfl (by omega) (iN cInt 1 (fun _ => rfl) 0 (by (simp only [dnL] at *; omega))) ?_
          refine zs3 ?_
          refine zu4 ?_
          refine Ws ?_
          refine V.W_drawD [0, 0, 1, 2, 1, 0, 3, 0, 3] [0, 1, 2, 4, 5, 3, 6, 7, 8] mG rfl (by kernel_rfl) ?_
          refine V.z3 ?_
          refine V.Xa 121 rfl ((show PV.seq 0 _ .clip = .seq (List.length ([] : List VReq)) (List.flatMap cReq ([] : List VReq)) .clip from rfl)) ?_
          refine V.z3 ?_
          iterate 2 refine V.z5 ?_
          refine V.z3 ?_
          refine V.Xa 126 rfl ((show PV.seq 1 _ .clip = .seq (List.length [(⟨3, xat x 0, xat x 1, xat x 2, xat x 3, v.next⟩ : VReq)]) (List.flatMap cReq [(⟨3, xat x 0, xat x 1, xat x 2, xat x 3, v.next⟩ : VReq)]) .clip from rfl)) ?_
          refine V.WU_does2 rfl rfl rfl rfl (does_append_clip (lO tG rfl) rfl (lO tG rfl) (lO tG rfl) rfl rfl (by exact ⟨_, rfl⟩) (by exact ⟨rfl, rfl, flatMap_len _ 6 (fun _ => rfl) _, okC_flat _ (fun _ => rfl) _⟩) (by exact flatMap_len _ 6 (fun _ => rfl) _) (by (simp; omega)) (by (simp; omega))) ?_
          refine V.Xa 124 rfl (sq_append cReq) ?_
          refine V.WU_does3 rfl rfl rfl rfl (does_append_own (lO tG rfl) rfl (lO tG rfl) (lO tG rfl) rfl rfl rfl rfl (by simp) (by exact ⟨_, rfl⟩) (by exact ⟨rfl, rfl, flatMap_len _ 6 (fun _ => rfl) _, okC_flat _ (fun _ => rfl) _⟩) (by (simp; omega)) (by (simp; omega))) ?_
          refine V.Xa 127 rfl (sq_append cReq) ?_
          refine V.z3 ?_
          refine V.WU_ev3 tG rfl rfl rfl rfl rfl trivial ?_
          refine V.WU_nil ?_
          refine zu5 ?_
          refine zu5 ?_
          refine Ws ?_
          refine V.W_drawD [4, 0, 8, 0, 7, 0, 0, 0] [0, 1, 2, 3, 4, 5, 6, 7] mG rfl (by kernel_rfl) ?_
          refine V.WU_rd 0 rfl rfl rfl rfl rfl (fun H2 h2 => does_load_ptr (lO tG rfl) rfl rfl h2 rfl) ?_
          refine V.z3 ?_
          refine V.WU_rd 2 rfl rfl rfl rfl rfl (fun H2 h2 => does_load_ptr (lO tG rfl) rfl rfl h2 rfl) ?_
          refine V.z3 ?_
          refine V.Xa 140 rfl (bsL cInt [_] rfl rfl) ?_
          refine V.WU_wr 1 tG rfl rfl rfl rfl rfl trivial rfl ?_
          iterate 3 refine V.z3 ?_
          refine V.WU_nil ?_
          refine zR ?_
          rw [pTimer, if_neg hb, if_neg hq, if_neg h5, if_neg hw]; rfl
theorem ref_ask (v : VVm) (hv : VmOk v) (name : Str) (x : List Int) (hx : ∀ i, Fit64 (xat x i)) (hn : takesN name ≤ x.length) : PureC Tryz.prog 73 [eVm v, str name, sq cInt x] (tNm v (askS2 v name x)) := by
 by_cases n0 : name = [80, 79, 83, 84]
 ·subst n0
  have h : takesN [80, 79, 83, 84] = 3 := by kernel_rfl
  rw [ask_post]
  exact ref_ask_post v hv x (by omega)
 by_cases n1 : name = [67, 65, 78, 67, 69, 76]
 ·subst n1
  have h : takesN [67, 65, 78, 67, 69, 76] = 1 := by kernel_rfl
  rw [ask_cancel]
  exact ref_ask_cancel v hv x (by omega)
 by_cases n2 : name = [65, 70, 84, 69, 82]
 ·subst n2
  have h : takesN [65, 70, 84, 69, 82] = 4 := by kernel_rfl
  rw [ask_after]
  exact ref_ask_after v hv x (by omega)
 by_cases n3 : name = [69, 86, 69, 82, 89]
 ·subst n3
  have h : takesN [69, 86, 69, 82, 89] = 4 := by kernel_rfl
  rw [ask_every]
  exact ref_ask_every v hv x (by omega)
 rw [ask_none n0 n1 n2 n3]
 exact ref_ask_none v name x n0 n1 n2 n3
end Go.Proofs.YtphgdofmjpdhaaaGreat
namespace Go.Proofs.YtphgdofmjpdhaaaGreat
open Go.RowKit
set_option maxRecDepth 100000
set_option maxHeartbeats 4000000
theorem some_ite2 {α : Type} {c : Prop} [Decidable c] {a r : α} {b : Option α} (h : (if c then some a else b) = some r) : a = r ∨ b = some r := by
 by_cases hc : c
 ·rw [if_pos hc] at h; exact .inl (Option.some.inj h)
 ·rw [if_neg hc] at h; exact .inr h
theorem space_nil {v : VVm} {name : Str} {x : List Int} {r : VVm × List Int × Int} (h : spaceS v name x = some r) : r.2.1 = [] := by
 unfold spaceS at h
 rcases some_ite2 h with rfl | h
 ·rfl
 rcases some_ite2 h with rfl | h
 ·rfl
 rcases some_ite2 h with rfl | h
 ·rfl
 rcases some_ite2 h with rfl | h
 ·rfl
 cases h
theorem text_small {v : VVm} (hv : VmOk v) {name : Str} {x : List Int} {r : Str × Int} (h : textS v name x = some r) : r.1.length ≤ 140737488355328 := by
 have h0 := hv.out2
 have h1 := hv.mem.b
 unfold textS at h
 rcases some_ite2 h with rfl | h
 ·show 1 ≤ _; omega
 rcases some_ite2 h with rfl | h
 ·show 1 ≤ _; omega
 rcases some_ite2 h with rfl | h
 ·show 1 ≤ _; omega
 rcases some_ite2 h with rfl | h
 ·show (pSpaces v x).length ≤ _; unfold pSpaces; rw [List.length_replicate]; omega
 rcases some_ite2 h with rfl | h
 ·have := memText_len2 v.mem (xat x 0) (xat x 1); omega
 rcases some_ite2 h with rfl | h
 ·have := showS_len (xat x 0) (baseS v); show (_ ++ [_]).length ≤ _; rw [List.length_append]; show _ + 1 ≤ _; omega
 rcases some_ite2 h with rfl | h
 ·have := ushowS_len (xat x 0) (baseS v); show (_ ++ [_]).length ≤ _; rw [List.length_append]; show _ + 1 ≤ _; omega
 cases h
theorem ref_done (v : VVm) (hv : VmOk v) (hc : Fit64 v.conf.mem) (n : Int) (name : Str) (x : List Int) (hx : ∀ i, Fit64 (xat x i)) (hl : takesS n name ≤ x.length) : PureC Tryz.prog 33 [eVm v, i64 n, str name, sq cInt x] (tRs (doneS v n name x)) := by
 rw [takesS_eq] at hl
 by_cases h1 : n ≤ 58
 ·rw [if_pos h1] at hl
  exact done_two v n name x h1 hl (hx 0) (hx 1)
 rw [if_neg h1] at hl
 by_cases h2 : n ≤ 72
 ·rw [if_pos h2] at hl
  exact done_one v n name x h1 h2 hl (hx 0)
 rw [if_neg h2] at hl
 have k0 := ref_reckon name x hx hl
 rcases e0 : reckonS name x with _ | r
 rotate_left
 ·rw [e0] at k0; exact done_reckon v n name x h1 h2 r e0 k0
 rw [e0] at k0
 have k1 := ref_memory v hv name x hx hl
 rcases e1 : memoryS v name x with _ | r
 rotate_left
 ·rw [e1] at k1; exact done_memory v n name x h1 h2 e0 k0 r e1 k1
 rw [e1] at k1
 have k2 := ref_space v hv name x hx hl
 rcases e2 : spaceS v name x with _ | r
 rotate_left
 ·rw [e2] at k2; exact done_space v n name x h1 h2 e0 k0 e1 k1 r e2 k2 (space_nil e2)
 rw [e2] at k2
 have k3 := ref_text v hv name x hx hl
 rcases e3 : textS v name x with _ | r
 rotate_left
 ·rw [e3] at k3
  by_cases hz : r.2 = 0
  ·exact done_text_ok v n name x h1 h2 e0 k0 e1 k1 e2 k2 r e3 k3 hz (ref_Print v r.1 hv.out1 hv.out (text_small hv e3))
  ·exact done_text_bad v n name x h1 h2 e0 k0 e1 k1 e2 k2 r e3 k3 hz
 rw [e3] at k3
 have k4 := ref_number v hv hc name x hx hl
 rcases e4 : picsS v name x with _ | r
 rotate_left
 ·rw [e4] at k4; exact done_number v n name x h1 h2 e0 k0 e1 k1 e2 k2 e3 k3 r e4 k4
 rw [e4] at k4
 have k5 := ref_ask v hv name x hx hl
 rcases e5 : askS2 v name x with _ | r
 rotate_left
 ·rw [e5] at k5; exact done_ask v n name x h1 h2 e0 k0 e1 k1 e2 k2 e3 k3 e4 k4 r e5 k5
 rw [e5] at k5
 have hm : v.mem.b.length ≤ 140737488355328 := by have := hv.mem.b; omega
 exact done_rest v n name x h1 h2 e0 k0 e1 k1 e2 k2 e3 k3 e4 k4 e5 k5 _ rfl (ref_rest v hm name x hx hl)
end Go.Proofs.YtphgdofmjpdhaaaGreat
namespace Go.Proofs.YtphgdofmjpdhaaaGreat
open Go.RowKit
set_option maxRecDepth 100000
set_option maxHeartbeats 4000000
theorem ite_len2 {α : Type} {β : Type} {c : Prop} [Decidable c] {a b : α × List Int × β} {n : Nat} (ha : a.2.1.length ≤ n) (hb : b.2.1.length ≤ n) : (if c then a else b).2.1.length ≤ n := by split <;> assumption
theorem l_reckon {name : Str} {x : List Int} {r : List Int × Int} (h : reckonS name x = some r) : r.1.length ≤ 2 := by
 unfold reckonS at h
 rcases some_ite2 h with rfl | h
 ·exact Nat.le_of_ble_eq_true rfl
 rcases some_ite2 h with rfl | h
 ·exact Nat.le_of_ble_eq_true rfl
 rcases some_ite2 h with rfl | h
 ·exact Nat.le_of_ble_eq_true rfl
 rcases some_ite2 h with rfl | h
 ·exact Nat.le_of_ble_eq_true rfl
 rcases some_ite2 h with rfl | h
 ·exact Nat.le_of_ble_eq_true rfl
 rcases some_ite2 h with rfl | h
 ·exact Nat.le_of_ble_eq_true rfl
 rcases some_ite2 h with rfl | h
 ·exact Nat.le_of_ble_eq_true rfl
 rcases some_ite2 h with rfl | h
 ·exact Nat.le_of_ble_eq_true rfl
 rcases some_ite2 h with rfl | h
 ·exact Nat.le_of_ble_eq_true rfl
 rcases some_ite2 h with rfl | h
 ·exact Nat.le_of_ble_eq_true rfl
 rcases some_ite2 h with rfl | h
 ·exact Nat.le_of_ble_eq_true rfl
 rcases some_ite2 h with rfl | h
 ·exact Nat.le_of_ble_eq_true rfl
 rcases some_ite2 h with rfl | h
 ·exact Nat.le_of_ble_eq_true rfl
 rcases some_ite2 h with rfl | h
 ·exact Nat.le_of_ble_eq_true rfl
 rcases some_ite2 h with rfl | h
 ·exact Nat.le_of_ble_eq_true rfl
 cases h
theorem l_memory {v : VVm} {name : Str} {x : List Int} {r : VVm × List Int × Int} (h : memoryS v name x = some r) : r.2.1.length ≤ 2 := by
 unfold memoryS at h
 rcases some_ite2 h with rfl | h
 ·exact Nat.le_of_ble_eq_true rfl
 rcases some_ite2 h with rfl | h
 ·exact Nat.le_of_ble_eq_true rfl
 rcases some_ite2 h with rfl | h
 ·exact Nat.le_of_ble_eq_true rfl
 rcases some_ite2 h with rfl | h
 ·exact Nat.le_of_ble_eq_true rfl
 rcases some_ite2 h with rfl | h
 ·exact Nat.le_of_ble_eq_true rfl
 rcases some_ite2 h with rfl | h
 ·unfold pFetch2; exact ite_len2 (Nat.le_of_ble_eq_true rfl) (Nat.le_of_ble_eq_true rfl)
 rcases some_ite2 h with rfl | h
 ·exact Nat.le_of_ble_eq_true rfl
 rcases some_ite2 h with rfl | h
 ·exact Nat.le_of_ble_eq_true rfl
 rcases some_ite2 h with rfl | h
 ·exact Nat.le_of_ble_eq_true rfl
 rcases some_ite2 h with rfl | h
 ·exact Nat.le_of_ble_eq_true rfl
 rcases some_ite2 h with rfl | h
 ·exact Nat.le_of_ble_eq_true rfl
 rcases some_ite2 h with rfl | h
 ·exact Nat.le_of_ble_eq_true rfl
 rcases some_ite2 h with rfl | h
 ·unfold pSetState; exact ite_len2 (Nat.le_of_ble_eq_true rfl) (Nat.le_of_ble_eq_true rfl)
 rcases some_ite2 h with rfl | h
 ·unfold pAtState; exact ite_len2 (Nat.le_of_ble_eq_true rfl) (Nat.le_of_ble_eq_true rfl)
 cases h
theorem l_pics {v : VVm} {name : Str} {x : List Int} {r : VVm × List Int × Int} (h : picsS v name x = some r) : r.2.1.length ≤ 2 := by
 unfold picsS at h
 rcases some_ite2 h with rfl | h
 ·exact Nat.le_of_ble_eq_true rfl
 rcases some_ite2 h with rfl | h
 ·exact Nat.le_of_ble_eq_true rfl
 rcases some_ite2 h with rfl | h
 ·exact Nat.le_of_ble_eq_true rfl
 rcases some_ite2 h with rfl | h
 ·exact Nat.le_of_ble_eq_true rfl
 rcases some_ite2 h with rfl | h
 ·exact Nat.le_of_ble_eq_true rfl
 rcases some_ite2 h with rfl | h
 ·unfold pEnd; exact ite_len2 (Nat.le_of_ble_eq_true rfl) (Nat.le_of_ble_eq_true rfl)
 cases h
theorem l_timer (k : Int) (v : VVm) (x : List Int) : (pTimer k v x).2.1.length ≤ 2 := by
 unfold pTimer
 exact ite_len2 (Nat.le_of_ble_eq_true rfl) (ite_len2 (Nat.le_of_ble_eq_true rfl) (ite_len2 (Nat.le_of_ble_eq_true rfl) (ite_len2 (Nat.le_of_ble_eq_true rfl) (Nat.le_of_ble_eq_true rfl))))
theorem l_ask {v : VVm} {name : Str} {x : List Int} {r : VVm × List Int × Int} (h : askS2 v name x = some r) : r.2.1.length ≤ 2 := by
 unfold askS2 at h
 rcases some_ite2 h with rfl | h
 ·unfold pPost; exact ite_len2 (Nat.le_of_ble_eq_true rfl) (ite_len2 (Nat.le_of_ble_eq_true rfl) (Nat.le_of_ble_eq_true rfl))
 rcases some_ite2 h with rfl | h
 ·unfold pCancel; exact ite_len2 (Nat.le_of_ble_eq_true rfl) (Nat.le_of_ble_eq_true rfl)
 rcases some_ite2 h with rfl | h
 ·exact l_timer 2 v x
 rcases some_ite2 h with rfl | h
 ·exact l_timer 3 v x
 cases h
theorem l_rest (v : VVm) (name : Str) (x : List Int) : (restS v name x).2.1.length ≤ 2 := by
 unfold restS
 exact ite_len2 (Nat.le_of_ble_eq_true rfl) (ite_len2 (Nat.le_of_ble_eq_true rfl) (ite_len2 (Nat.le_of_ble_eq_true rfl) (ite_len2 (Nat.le_of_ble_eq_true rfl) (ite_len2 (by unfold pBody; exact ite_len2 (Nat.le_of_ble_eq_true rfl) (Nat.le_of_ble_eq_true rfl)) (Nat.le_of_ble_eq_true rfl)))))
theorem done_len (v : VVm) (n : Int) (name : Str) (x : List Int) : (doneS v n name x).2.1.length ≤ 2 := by
 unfold doneS
 refine ite_len2 (Nat.le_of_ble_eq_true rfl) (ite_len2 (Nat.le_of_ble_eq_true rfl) ?_)
 rcases e0 : reckonS name x with _ | r
 rotate_left
 ·exact l_reckon e0
 rcases e1 : memoryS v name x with _ | r
 rotate_left
 ·exact l_memory e1
 rcases e2 : spaceS v name x with _ | r
 rotate_left
 ·have := space_nil e2; simp only [this]; exact Nat.zero_le _
 rcases e3 : textS v name x with _ | r
 rotate_left
 ·simp only [pPrint]; exact ite_len2 (Nat.zero_le _) (Nat.zero_le _)
 rcases e4 : picsS v name x with _ | r
 rotate_left
 ·exact l_pics e4
 rcases e5 : askS2 v name x with _ | r
 rotate_left
 ·exact l_ask e5
 exact l_rest v name x
theorem ite_nat {c : Prop} [Decidable c] {a b n : Nat} (ha : a ≤ n) (hb : b ≤ n) : (if c then a else b) ≤ n := by split <;> assumption
theorem takes_small (n : Int) (name : Str) : takesS n name ≤ 4 := by
 unfold takesS
 repeat' (first | exact Nat.le_of_ble_eq_true rfl | refine ite_nat ?_ ?_)
theorem ref_Do_bad (v : VVm) (n : Int) (hn : ¬ (23 ≤ n ∧ n ≤ 129)) : PureC Tryz.prog 15 [eVm v, i64 n] (tVm (v, -24)) := by
 refine pW tG (rs := [.cell 4 36, .tmp 5]) Tryz.func15 rfl rfl rfl (by simp) (by simp) (fun B => ?_)
 refine zu3 ?_
 refine zp1 ?_
 refine Wc rfl rfl (dC rfl Tryz.func17 rfl rfl ((ref_Does11 n) _)) ?_
 refine zs1 ?_
 refine Ws ?_
 refine zu2 ?_
 refine Wt rfl (by rw [decide_eq_false hn]; rfl) ?_
 refine zu3 ?_
 refine zR ?_
 rfl
theorem ref_Do_shuffle (v : VVm) (n : Int) (h0 : 23 ≤ n) (h1 : n ≤ 38) (hd : v.d.length ≤ 50000) (hm : Fit64 v.conf.data) :
  PureC Tryz.prog 15 [eVm v, i64 n] (tVm ({ v with d := (shuffleS (names.getD n.toNat []) v.d v.conf.data).1 }, (shuffleS (names.getD n.toNat []) v.d v.conf.data).2.2)) := by
 have hN := names_130
 refine pW tG (rs := [.cell 4 36, .tmp 5]) Tryz.func15 rfl rfl rfl (by simp) (by simp) (fun B => ?_)
 refine zu3 ?_
 refine zp1 ?_
 refine Wc rfl rfl (dC rfl Tryz.func17 rfl rfl ((ref_Does11 n) _)) ?_
 refine zs1 ?_
 refine Ws ?_
 refine zu2 ?_
 refine Wf rfl (by rw [decide_eq_true ⟨h0, by omega⟩]; rfl) ?_
 refine Wj ?_
 refine z8 ?_
 refine Wc rfl rfl (dC rfl Tryz.func30 rfl rfl ((ref_Names) _)) ?_
 refine z1 ?_
 refine Wv tG rfl rfl rfl (by omega) (iR cStr 1 (fun _ => rfl) [] (by omega)) ?_
 refine zs2 ?_
 refine Ws ?_
 refine zu2 ?_
 refine Wt rfl (by exact decide_eq_true h1) ?_
 refine zp5 ?_
 refine z1 ?_
 refine Wc rfl rfl (dC rfl Tryz.func31 rfl rfl ((ref_Shuffle _ v.d v.conf.data hd hm) _)) ?_
 refine zy5 ?_
 refine zs2 ?_
 refine zu3 ?_
 refine zu4 ?_
 refine zR ?_
 rfl
theorem ref_Do_deed (v : VVm) (n : Int) (k : Nat) (r : VVm × List Int × Int) (h0 : 39 ≤ n) (h1 : n ≤ 129) (hdl : v.d.length ≤ 100000) (hm : Fit64 v.conf.data) (hk : k ≤ 4) (hr : r.2.1.length ≤ 2)
  (ht : PureC Tryz.prog 32 [i64 n, str (names.getD n.toNat [])] (i64 (k : Int))) (hd : k ≤ v.d.length → PureC Tryz.prog 33 [eVm v, i64 n, str (names.getD n.toNat []), sq cInt (v.d.drop (v.d.length - k))] (tRs r)) : PureC Tryz.prog 15 [eVm v, i64 n] (tVm (doR v k r)) := by
 have hN := names_130
 have ht2 : (v.d.take (v.d.length - k)).length = v.d.length - k := by rw [List.length_take]; omega
 refine pW tG (rs := [.cell 4 36, .tmp 5]) Tryz.func15 rfl rfl rfl (by simp) (by simp) (fun B => ?_)
 refine zu3 ?_
 refine zp1 ?_
 refine Wc rfl rfl (dC rfl Tryz.func17 rfl rfl ((ref_Does11 n) _)) ?_
 refine zs1 ?_
 refine Ws ?_
 refine zu2 ?_
 refine Wf rfl (by rw [decide_eq_true ⟨by omega, h1⟩]; rfl) ?_
 refine Wj ?_
 refine z8 ?_
 refine Wc rfl rfl (dC rfl Tryz.func30 rfl rfl ((ref_Names) _)) ?_
 refine z1 ?_
 refine Wv tG rfl rfl rfl (by omega) (iR cStr 1 (fun _ => rfl) [] (by omega)) ?_
 refine zs2 ?_
 refine Ws ?_
 refine zu2 ?_
 refine Wf rfl (by exact decide_eq_false (by omega)) ?_
 refine Wj ?_
 refine zp2 ?_
 refine Wc rfl rfl (dC rfl Tryz.func32 rfl rfl ((ht) _)) ?_
 refine zs1 ?_
 refine Ws ?_
 refine zu5 ?_
 refine Wi rfl (fun hi3 => ?_) (fun hi3 => ?_)
 ·have q0 : v.d.length < k := by (try simp only [dnL] at *); omega
  refine zu3 ?_
  refine zR ?_
  rw [doR, if_pos q0]; rfl
 ·have q0 : ¬ v.d.length < k := by (try simp only [dnL] at *); omega
  have w1 : IntKind.i64.wrap ((v.d.length : Int) - (k : Int)) = ((v.d.length - k : Nat) : Int) := by ((rw [i64w]; unfold wrap64; (try simp only [dnL] at *); omega))
  have w2 : IntKind.i64.wrap (((v.d.take (v.d.length - k)).length : Int) + (r.2.1.length : Int)) = ((v.d.length - k + r.2.1.length : Nat) : Int) := by rw [ht2]; ((rw [i64w]; unfold wrap64; (try simp only [dnL] at *); omega))
  refine Wj ?_
  refine zp5 ?_
  refine zy2 ?_
  refine Wa 57 rfl (congrArg (fun z => PV.val (Value.int .i64 z)) w1) ?_
  refine z2 ?_ (q := (by (simp_all; done)))
  refine Wa 58 rfl (sq_slice cInt 1 (fun _ => rfl) (by omega)) ?_
  refine Wa 58 rfl ((show _ = sq cInt (v.d.take (v.d.length - k)) by rw [Int.toNat_natCast, List.drop_zero]; rfl)) ?_
  refine zs1 ?_
  refine Ws ?_
  refine W_drawU [1, 0, 0, 0, 1, 0, 1, 0, 0, 0, 0, 0, 0, 0, 0, 0, 2, 3, 0, 0] [0, 1, 2, 3, 4, 5, 6, 7, 8, 9, 10, 11, 12, 13, 14, 15, 16, 17, 18, 19] mG rfl (by kernel_rfl) ?_
  refine z5 ?_
  iterate 3 refine z3 ?_
  refine z5 ?_
  refine z3 ?_
  refine z5 ?_
  iterate 3 refine z3 ?_
  refine Xa 69 rfl (congrArg (fun z => PV.val (Value.int .i64 z)) w1) ?_
  refine z4 ?_ (q := (by (simp_all; done)))
  refine Xa 70 rfl (sq_slice cInt 1 (fun _ => rfl) (by omega)) ?_
  refine Xa 70 rfl ((show _ = sq cInt (v.d.drop (v.d.length - k)) by rw [List.take_length, Int.toNat_natCast]; rfl)) ?_
  refine Xc rfl rfl rfl rfl (fun _ => dC rfl Tryz.func33 rfl rfl ((hd (by omega)) _)) ?_
  iterate 4 refine z3 ?_
  refine WU_ev2 tG rfl rfl rfl rfl rfl trivial rfl ?_
  refine WU_ev3 tG rfl rfl rfl rfl rfl trivial ?_
  iterate 2 refine z3 ?_
  refine WU_nil ?_
  refine Ws ?_
  refine zu2 ?_
  refine Wi rfl (fun hi4 => ?_) (fun hi4 => ?_)
  ·have q1 : r.2.2 ≠ 0 := bne_iff_ne.1 hi4
   refine zu4 ?_
   refine zR ?_
   rw [doR, if_neg q0, if_pos q1]; rfl
  ·have q1 : ¬ r.2.2 ≠ 0 := fun h => h (bne_eq_false_iff_eq.1 hi4)
   refine Wj ?_
   refine Ws ?_
   refine zp5 ?_
   refine Wa 83 rfl (congrArg (fun z => PV.val (Value.int .i64 z)) w2) ?_
   refine zs4 ?_
   refine Wi rfl (fun hi5 => ?_) (fun hi5 => ?_)
   ·have q2 : v.conf.data < ((v.d.length - k + r.2.1.length : Nat) : Int) := oT hi5
    refine zu3 ?_
    refine zR ?_
    rw [doR, if_neg q0, if_neg q1, if_pos q2]; rfl
   ·have q2 : ¬ v.conf.data < ((v.d.length - k + r.2.1.length : Nat) : Int) := oF hi5
    refine Wj ?_
    refine zp2 ?_
    refine Wd rfl rfl (does_append_clip (lO tG rfl) rfl (lO tG rfl) (lO tG rfl) rfl rfl (by exact ⟨_, rfl⟩) (by exact ⟨rfl, rfl, flatMap_len _ 1 (fun _ => rfl) _, okC_flat _ (fun _ => rfl) _⟩) (by rfl) (by (dsimp only; omega)) (by (simp; omega))) ?_
    refine Wa 91 rfl (sq_none cInt) ?_
    refine z1 ?_
    refine Wd rfl rfl (does_append_own (lO tG rfl) rfl (lO tG rfl) (lO tG rfl) rfl rfl rfl rfl (by simp) (by exact ⟨_, rfl⟩) (by exact ⟨rfl, rfl, flatMap_len _ 1 (fun _ => rfl) _, okC_flat _ (fun _ => rfl) _⟩) (by (dsimp only; omega)) (by (simp; omega))) ?_
    refine Wa 93 rfl (sq_append cInt) ?_
    refine zs2 ?_
    refine zu3 ?_
    refine zR ?_
    rw [doR, if_neg q0, if_neg q1, if_neg q2]; rfl
theorem ref_Do11 (v : VVm) (hv : VmOk v) (hc : Fit64 v.conf.mem) (n : Int) : PureC Tryz.prog 15 [eVm v, i64 n] (tVm (doS v n)) := by
 by_cases hn : 23 ≤ n ∧ n ≤ 129
 ·by_cases h1 : n ≤ 38
  ·have h := ref_Do_shuffle v n hn.1 h1 hv.d hv.data
   have e : doS v n = ({ v with d := (shuffleS (names.getD n.toNat []) v.d v.conf.data).1 }, (shuffleS (names.getD n.toNat []) v.d v.conf.data).2.2) := by
    unfold doS
    rw [if_neg (by omega)]
    simp only
    rw [if_pos h1]
   rw [e]; exact h
  ·rw [doS_deed (by omega) hn.2]
   have hd := hv.d
   exact ref_Do_deed v n _ _ (by omega) hn.2 (by omega) hv.data (takes_small _ _) (done_len _ _ _ _) (ref_takes11 n _) fun hk => ref_done v hv hc n _ _ (fun i => (hv.x hk).fit i) (hv.x hk).len
 ·have e : doS v n = (v, -24) := by unfold doS; rw [if_pos (by omega)]
  rw [e]; exact ref_Do_bad v n hn
end Go.Proofs.YtphgdofmjpdhaaaGreat
namespace Go.Proofs.YtphgdofmjpdhaaaGreat
open Go.RowKit
open Go.WideShapes
set_option maxRecDepth 100000
set_option maxHeartbeats 4000000
theorem law_tells_of (hsh : PureC Tryz.prog 12 [] (boo true)) (v r1 : VVm) (r2 n : Int) (hv : VIn2 v) (hp : may10 v = true → PureC Tryz.prog 14 [eVm v, i64 n] (tVm (r1, r2))) (hq : may10 v = true → PureC Tryz.prog 15 [eVm v, i64 n] (tVm (r1, r2)))
  (hs : may10 v = true → PureC Tryz.prog 18 [eVm r1, eVm r1] (boo true)) : PureC Tryz.prog 3 [eVm v, i64 n] (boo true) := by
 refine pW tG (rs := [.tmp 4]) Tryz.func3 rfl rfl rfl (by simp) (by simp) (fun B => ?_)
 refine zu2 ?_
 refine z8 ?_
 refine Wc rfl rfl (dC rfl Tryz.func12 rfl rfl ((hsh) _)) ?_
 refine zs1 ?_
 refine Ws ?_
 refine zp1 ?_
 refine Wc rfl rfl (dC rfl Tryz.func13 rfl rfl ((ref_May10 v hv) _)) ?_
 refine zs1 ?_
 refine Wi rfl (fun hi1 => ?_) (fun hi1 => ?_)
 ·refine zu2 ?_
  refine zR ?_
  rfl
 ·have hm : may10 v = true := not_f hi1
  refine Wj ?_
  refine zp2 ?_
  refine Wc rfl rfl (dC rfl Tryz.func14 rfl rfl ((hp hm) _)) ?_
  refine zy5 ?_
  refine zs1 ?_
  refine zp2 ?_
  refine Wc rfl rfl (dC rfl Tryz.func15 rfl rfl ((hq hm) _)) ?_
  refine zy5 ?_
  refine zs1 ?_
  refine zp2 ?_
  refine WO_true 28 rfl (by rfl) ?_
  refine z1 ?_
  refine Wc rfl rfl (dC rfl Tryz.func16 rfl rfl ((prim_Does n) _)) ?_
  refine z1 ?_
  refine Wc rfl rfl (dC rfl Tryz.func17 rfl rfl ((ref_Does11 n) _)) ?_
  refine zy3 ?_
  refine WO_true 35 rfl (by simp) ?_
  refine zy2 ?_
  refine Wc rfl rfl (dC rfl Tryz.func18 rfl rfl ((hs hm) _)) ?_
  refine zy2 ?_
  refine WO_true 40 rfl (by rfl) ?_
  refine zs5 ?_
  refine zR ?_
  exact congrArg boo (by simp)
theorem tell_ok {v : VVm} (hv : OkVm v) (hm : may10 v = true) (n : Int) : PureC Tryz.prog 14 [eVm v, i64 n] (tVm (doS v n)) ∧ PureC Tryz.prog 15 [eVm v, i64 n] (tVm (doS v n)) ∧ PureC Tryz.prog 18 [eVm (doS v n).1, eVm (doS v n).1] (boo true) := by
 have g := may_good hv hm
 have ok := good_ok g (by decide)
 have gd := doS_good (n := n) g
 have R := (right_iff _).1 g.right
 have hc := R.fits
 unfold fitsV at hc
 have sm := right_sm ((right_iff _).1 gd.right) (by have := gd.old; omega)
 refine ⟨prim_Do v ok n, ref_Do11 v ok (by unfold Fit64; omega) n, ?_⟩
 have := ref_Same10 _ _ sm sm
 rw [decide_eq_true rfl] at this
 exact this
theorem law_tells (v : VVm) (hv : OkVm v) (n : Int) : PureC Tryz.prog 3 [eVm v, i64 n] (boo true) :=
 law_tells_of law_shown v (doS v n).1 (doS v n).2 n (okVm_in hv) (fun hm => (tell_ok hv hm n).1) (fun hm => (tell_ok hv hm n).2.1) (fun hm => (tell_ok hv hm n).2.2)
theorem walk_PrimTells (v0 v1 : Value) (w : World) (h0 : Reads w 36 v0) (h1 : Reads w 3 v1) :
  Calls Tryz.prog 3 #[v0, v1] w fun e w' => e = .returned (.bool true) ∧ Below w.heap.size w w' := by
 obtain ⟨x, hx, hr⟩ := reads_vm h0
 obtain ⟨n, hn, hs⟩ := reads_i64 h1
 exact law_calls (args := [eVm x, i64 n]) (law_tells x hx n) (repL_cons.2 ⟨hr, repL_cons.2 ⟨hs, repL_nil.2 rfl⟩⟩)
end Go.Proofs.YtphgdofmjpdhaaaGreat
