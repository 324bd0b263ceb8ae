import Derived.Test.YtphgdofmjpdhaaaGreatPk5
set_option linter.unusedVariables false
set_option linter.unusedSimpArgs false
namespace Go.Proofs.YtphgdofmjpdhaaaGreat
open Go.RowKit
set_option maxRecDepth 100000
set_option maxHeartbeats 4000000
structure VmOk (v : VVm) : Prop where
 mem : MemOk v.mem
 old : v.mem.old.length + 1 ≤ 1000000
 here : HereOk v.mem v.here
 out2 : 0 ≤ v.conf.out ∧ v.conf.out ≤ 900000
 out : v.out.length ≤ 1000000
 pic : v.pic.b.length ≤ 1000000
 req : v.req.length ≤ 100000
 hand : v.hand.length ≤ 1000000
 d : v.d.length ≤ 50000
 fit : ∀ a ∈ v.d, Fit64 a
 data : Fit64 v.conf.data
theorem VmOk.out1 {v : VVm} (h : VmOk v) : 0 ≤ v.conf.out ∧ v.conf.out ≤ 1000000 := by have := h.out2; omega
theorem VmOk.x {v : VVm} (h : VmOk v) {k : Nat} (hk : k ≤ v.d.length) : XOk k (v.d.drop (v.d.length - k)) :=
 ⟨by rw [List.length_drop]; omega, fun a ha => h.fit a (List.mem_of_mem_drop ha)⟩
theorem memText_len2 (m : VMem) (a n : Int) : (memText m a n).1.length ≤ m.b.length := by
 unfold memText
 split
 ·simp only [List.length_take, List.length_drop]; omega
 ·simp
theorem digL_len2 (b : Nat) : ∀ k u, (digL b k u).length ≤ k + 1 := by
 intro k
 induction k with
 | zero => intro u; simp [digL]
 | succ k ih => intro u; unfold digL; split <;> simp; have := ih (u / b); omega
theorem ushowL_len2 (u b : Nat) : (ushowL u b).length ≤ 900 := by
 unfold ushowL
 have := digL_len2 b 64 u
 simp only [List.length_reverse, List.length_map]
 omega
theorem showS_len (n b : Int) : (showS n b).1.length ≤ 1000 := by
 unfold showS
 split
 ·simp only
  split
  ·have := ushowL_len2 (U n) b.toNat; omega
  ·have := ushowL_len2 (U (wrap64 (-n))) b.toNat; simp only [List.length_cons]; omega
 ·simp
theorem doS_deed {v : VVm} {n : Int} (h0 : 39 ≤ n) (h1 : n ≤ 129) : doS v n = doR v (takesS n (names.getD n.toNat [])) (doneS v n (names.getD n.toNat []) (v.d.drop (v.d.length - takesS n (names.getD n.toNat [])))) := by
 unfold doS doR
 rw [if_neg (by omega)]
 simp only
 rw [if_neg (by omega)]
theorem doR_congr {v : VVm} {k : Nat} {r r' : VVm × List Int × Int} (h1 : r'.2.2 = r.2.2) (h2 : r.2.2 = 0 → r' = r) : doR v k r' = doR v k r := by
 by_cases h : r.2.2 = 0
 ·rw [h2 h]
 ·unfold doR
  rw [h1]
  simp only [h, ne_eq, not_false_eq_true, if_true]
theorem body_code (v : VVm) (x : List Int) : (v, pBodyP v x).2.2 = (pBody v x).2.2 := by
 unfold pBodyP pBody
 split <;> rfl
theorem body_eq (v : VVm) (x : List Int) (h : (pBody v x).2.2 = 0) : (v, pBodyP v x) = pBody v x := by
 unfold pBodyP pBody at *
 split at h
 ·cases h
 ·rename_i hc; rw [if_neg hc, if_neg hc]
theorem ushowS_len (n b : Int) : (ushowS n b).1.length ≤ 1000 := by
 unfold ushowS
 split
 ·have := ushowL_len2 (U n) b.toNat; simp only; omega
 ·simp
theorem do_two (v : VVm) (hv : VmOk v) (n : Int) (h0 : 39 ≤ n) (h1 : n ≤ 58) : PureC Tryz.prog 14 [eVm v, i64 n] (tVm (doS v n)) := by
 have hk : takesS n (names.getD n.toNat []) = 2 := by unfold takesS; rw [if_pos h1]
 rw [doS_deed h0 (by omega), hk]
 have e : ∀ x, doneS v n (names.getD n.toNat []) x = (v, [(twoS (names.getD n.toNat []) (xat x 0) (xat x 1)).1], (twoS (names.getD n.toNat []) (xat x 0) (xat x 1)).2.2) := fun x => by unfold doneS; rw [if_pos h1]
 rw [e]
 exact do_deed v n 2 80 _ _ h0 (by omega) (by have := hv.d; omega) hv.data (by omega) (by simp) (found_two n _ h1) (by simp) (fun hk H i hi => ⟨⟨_, Tryz.func80, rfl, rfl⟩, d_pure 51 [.row [str (names.getD n.toNat [])]] v _ _ (by simp) (fun H => ⟨⟨_, Tryz.func51, rfl, rfl⟩, fd_1 _ _ (hv.x hk) H⟩) H i hi⟩)
theorem do_one (v : VVm) (hv : VmOk v) (n : Int) (h0 : 58 < n) (h1 : n ≤ 72) : PureC Tryz.prog 14 [eVm v, i64 n] (tVm (doS v n)) := by
 have hk : takesS n (names.getD n.toNat []) = 1 := by unfold takesS; rw [if_neg (by omega), if_pos h1]
 rw [doS_deed (by omega) (by omega), hk]
 have e : ∀ x, doneS v n (names.getD n.toNat []) x = (v, [(oneS (names.getD n.toNat []) (xat x 0)).1], 0) := fun x => by unfold doneS; rw [if_neg (by omega), if_pos h1]
 rw [e]
 exact do_deed v n 1 80 _ _ (by omega) (by omega) (by have := hv.d; omega) hv.data (by omega) (by simp) (found_one n _ h0 h1) (by simp) (fun hk H i hi => ⟨⟨_, Tryz.func80, rfl, rfl⟩, d_pure 53 [.row [str (names.getD n.toNat [])]] v _ _ (by simp) (fun H => ⟨⟨_, Tryz.func53, rfl, rfl⟩, fd_2 _ _ (hv.x hk) H⟩) H i hi⟩)
theorem ds_73 (v : VVm) (x : List Int) : doneS v 73 [47, 77, 79, 68] x = (v, pDivMod x) := by kernel_rfl
theorem do_73 (v : VVm) (hv : VmOk v) : PureC Tryz.prog 14 [eVm v, i64 73] (tVm (doS v 73)) := by
 have hk : takesS 73 (names.getD (73 : Int).toNat []) = 2 := by kernel_rfl
 have hn : names.getD (73 : Int).toNat [] = [47, 77, 79, 68] := by kernel_rfl
 rw [doS_deed (by decide) (by decide), hk, hn, ds_73]
 refine do_deed v 73 2 80 [.row [fnP 89 capA]] _ (by decide) (by decide) (by have := hv.d; omega) hv.data (by decide) (by simp) (by rw [hn]; exact found_rk 73 _ _ _ _ (by decide) (by simp)  rfl) (by (show List.length _ ≤ _; simp [pFetch, pFetchB, pPut, pLay, pPic, pDig, pAll, pCount, pDivMod, pStarMod, pStar, pUM, pM, pUMod, pSRem, pFMod, pSD, pWithin, pBodyP])) (fun hk H i hi => ?_)
 have hx := hv.x hk
 generalize v.d.drop (v.d.length - 2) = x at hx ⊢
 exact ⟨⟨_, Tryz.func80, rfl, rfl⟩, d_pure 89 capA v x (v, pDivMod x).2 (by simp) (fun H => ⟨⟨_, Tryz.func89, rfl, rfl⟩, rk_3 x hx H⟩) H i hi⟩
theorem ds_75 (v : VVm) (x : List Int) : doneS v 75 [42, 47, 77, 79, 68] x = (v, pStarMod x) := by kernel_rfl
theorem do_75 (v : VVm) (hv : VmOk v) : PureC Tryz.prog 14 [eVm v, i64 75] (tVm (doS v 75)) := by
 have hk : takesS 75 (names.getD (75 : Int).toNat []) = 3 := by kernel_rfl
 have hn : names.getD (75 : Int).toNat [] = [42, 47, 77, 79, 68] := by kernel_rfl
 rw [doS_deed (by decide) (by decide), hk, hn, ds_75]
 refine do_deed v 75 3 80 [.row [fnP 90 capAB]] _ (by decide) (by decide) (by have := hv.d; omega) hv.data (by decide) (by simp) (by rw [hn]; exact found_rk 75 _ _ _ _ (by decide) (by simp)  rfl) (by (show List.length _ ≤ _; simp [pFetch, pFetchB, pPut, pLay, pPic, pDig, pAll, pCount, pDivMod, pStarMod, pStar, pUM, pM, pUMod, pSRem, pFMod, pSD, pWithin, pBodyP])) (fun hk H i hi => ?_)
 have hx := hv.x hk
 generalize v.d.drop (v.d.length - 3) = x at hx ⊢
 exact ⟨⟨_, Tryz.func80, rfl, rfl⟩, d_pure 90 capAB v x (v, pStarMod x).2 (by simp) (fun H => ⟨⟨_, Tryz.func90, rfl, rfl⟩, rk_4 x hx H⟩) H i hi⟩
theorem ds_74 (v : VVm) (x : List Int) : doneS v 74 [42, 47] x = (v, pStar x) := by kernel_rfl
theorem do_74 (v : VVm) (hv : VmOk v) : PureC Tryz.prog 14 [eVm v, i64 74] (tVm (doS v 74)) := by
 have hk : takesS 74 (names.getD (74 : Int).toNat []) = 3 := by kernel_rfl
 have hn : names.getD (74 : Int).toNat [] = [42, 47] := by kernel_rfl
 rw [doS_deed (by decide) (by decide), hk, hn, ds_74]
 refine do_deed v 74 3 80 [.row [fnP 91 capB]] _ (by decide) (by decide) (by have := hv.d; omega) hv.data (by decide) (by simp) (by rw [hn]; exact found_rk 74 _ _ _ _ (by decide) (by simp)  rfl) (by (show List.length _ ≤ _; simp [pFetch, pFetchB, pPut, pLay, pPic, pDig, pAll, pCount, pDivMod, pStarMod, pStar, pUM, pM, pUMod, pSRem, pFMod, pSD, pWithin, pBodyP])) (fun hk H i hi => ?_)
 have hx := hv.x hk
 generalize v.d.drop (v.d.length - 3) = x at hx ⊢
 exact ⟨⟨_, Tryz.func80, rfl, rfl⟩, d_pure 91 capB v x (v, pStar x).2 (by simp) (fun H => ⟨⟨_, Tryz.func91, rfl, rfl⟩, rk_5 x hx H⟩) H i hi⟩
theorem ds_76 (v : VVm) (x : List Int) : doneS v 76 [85, 77, 42] x = (v, pUM x) := by kernel_rfl
theorem do_76 (v : VVm) (hv : VmOk v) : PureC Tryz.prog 14 [eVm v, i64 76] (tVm (doS v 76)) := by
 have hk : takesS 76 (names.getD (76 : Int).toNat []) = 2 := by kernel_rfl
 have hn : names.getD (76 : Int).toNat [] = [85, 77, 42] := by kernel_rfl
 rw [doS_deed (by decide) (by decide), hk, hn, ds_76]
 refine do_deed v 76 2 80 [.row [fnP 92 []]] _ (by decide) (by decide) (by have := hv.d; omega) hv.data (by decide) (by simp) (by rw [hn]; exact found_rk 76 _ _ _ _ (by decide) (by simp)  rfl) (by (show List.length _ ≤ _; simp [pFetch, pFetchB, pPut, pLay, pPic, pDig, pAll, pCount, pDivMod, pStarMod, pStar, pUM, pM, pUMod, pSRem, pFMod, pSD, pWithin, pBodyP])) (fun hk H i hi => ?_)
 have hx := hv.x hk
 generalize v.d.drop (v.d.length - 2) = x at hx ⊢
 exact ⟨⟨_, Tryz.func80, rfl, rfl⟩, d_pure 92 [] v x (v, pUM x).2 (by simp) (fun H => ⟨⟨_, Tryz.func92, rfl, rfl⟩, rk_6 x hx H⟩) H i hi⟩
theorem ds_78 (v : VVm) (x : List Int) : doneS v 78 [77, 42] x = (v, pM x) := by kernel_rfl
theorem do_78 (v : VVm) (hv : VmOk v) : PureC Tryz.prog 14 [eVm v, i64 78] (tVm (doS v 78)) := by
 have hk : takesS 78 (names.getD (78 : Int).toNat []) = 2 := by kernel_rfl
 have hn : names.getD (78 : Int).toNat [] = [77, 42] := by kernel_rfl
 rw [doS_deed (by decide) (by decide), hk, hn, ds_78]
 refine do_deed v 78 2 80 [.row [fnP 94 []]] _ (by decide) (by decide) (by have := hv.d; omega) hv.data (by decide) (by simp) (by rw [hn]; exact found_rk 78 _ _ _ _ (by decide) (by simp)  rfl) (by (show List.length _ ≤ _; simp [pFetch, pFetchB, pPut, pLay, pPic, pDig, pAll, pCount, pDivMod, pStarMod, pStar, pUM, pM, pUMod, pSRem, pFMod, pSD, pWithin, pBodyP])) (fun hk H i hi => ?_)
 have hx := hv.x hk
 generalize v.d.drop (v.d.length - 2) = x at hx ⊢
 exact ⟨⟨_, Tryz.func80, rfl, rfl⟩, d_pure 94 [] v x (v, pM x).2 (by simp) (fun H => ⟨⟨_, Tryz.func94, rfl, rfl⟩, rk_7 x hx H⟩) H i hi⟩
theorem ds_77 (v : VVm) (x : List Int) : doneS v 77 [85, 77, 47, 77, 79, 68] x = (v, pUMod x) := by kernel_rfl
theorem do_77 (v : VVm) (hv : VmOk v) : PureC Tryz.prog 14 [eVm v, i64 77] (tVm (doS v 77)) := by
 have hk : takesS 77 (names.getD (77 : Int).toNat []) = 3 := by kernel_rfl
 have hn : names.getD (77 : Int).toNat [] = [85, 77, 47, 77, 79, 68] := by kernel_rfl
 rw [doS_deed (by decide) (by decide), hk, hn, ds_77]
 refine do_deed v 77 3 80 [.row [fnP 95 capA]] _ (by decide) (by decide) (by have := hv.d; omega) hv.data (by decide) (by simp) (by rw [hn]; exact found_rk 77 _ _ _ _ (by decide) (by simp)  rfl) (by (show List.length _ ≤ _; simp [pFetch, pFetchB, pPut, pLay, pPic, pDig, pAll, pCount, pDivMod, pStarMod, pStar, pUM, pM, pUMod, pSRem, pFMod, pSD, pWithin, pBodyP])) (fun hk H i hi => ?_)
 have hx := hv.x hk
 generalize v.d.drop (v.d.length - 3) = x at hx ⊢
 exact ⟨⟨_, Tryz.func80, rfl, rfl⟩, d_pure 95 capA v x (v, pUMod x).2 (by simp) (fun H => ⟨⟨_, Tryz.func95, rfl, rfl⟩, rk_8 x hx H⟩) H i hi⟩
theorem ds_79 (v : VVm) (x : List Int) : doneS v 79 [83, 77, 47, 82, 69, 77] x = (v, pSRem x) := by kernel_rfl
theorem do_79 (v : VVm) (hv : VmOk v) : PureC Tryz.prog 14 [eVm v, i64 79] (tVm (doS v 79)) := by
 have hk : takesS 79 (names.getD (79 : Int).toNat []) = 3 := by kernel_rfl
 have hn : names.getD (79 : Int).toNat [] = [83, 77, 47, 82, 69, 77] := by kernel_rfl
 rw [doS_deed (by decide) (by decide), hk, hn, ds_79]
 refine do_deed v 79 3 80 [.row [fnP 97 capA]] _ (by decide) (by decide) (by have := hv.d; omega) hv.data (by decide) (by simp) (by rw [hn]; exact found_rk 79 _ _ _ _ (by decide) (by simp)  rfl) (by (show List.length _ ≤ _; simp [pFetch, pFetchB, pPut, pLay, pPic, pDig, pAll, pCount, pDivMod, pStarMod, pStar, pUM, pM, pUMod, pSRem, pFMod, pSD, pWithin, pBodyP])) (fun hk H i hi => ?_)
 have hx := hv.x hk
 generalize v.d.drop (v.d.length - 3) = x at hx ⊢
 exact ⟨⟨_, Tryz.func80, rfl, rfl⟩, d_pure 97 capA v x (v, pSRem x).2 (by simp) (fun H => ⟨⟨_, Tryz.func97, rfl, rfl⟩, rk_9 x hx H⟩) H i hi⟩
theorem ds_80 (v : VVm) (x : List Int) : doneS v 80 [70, 77, 47, 77, 79, 68] x = (v, pFMod x) := by kernel_rfl
theorem do_80 (v : VVm) (hv : VmOk v) : PureC Tryz.prog 14 [eVm v, i64 80] (tVm (doS v 80)) := by
 have hk : takesS 80 (names.getD (80 : Int).toNat []) = 3 := by kernel_rfl
 have hn : names.getD (80 : Int).toNat [] = [70, 77, 47, 77, 79, 68] := by kernel_rfl
 rw [doS_deed (by decide) (by decide), hk, hn, ds_80]
 refine do_deed v 80 3 80 [.row [fnP 99 capA]] _ (by decide) (by decide) (by have := hv.d; omega) hv.data (by decide) (by simp) (by rw [hn]; exact found_rk 80 _ _ _ _ (by decide) (by simp)  rfl) (by (show List.length _ ≤ _; simp [pFetch, pFetchB, pPut, pLay, pPic, pDig, pAll, pCount, pDivMod, pStarMod, pStar, pUM, pM, pUMod, pSRem, pFMod, pSD, pWithin, pBodyP])) (fun hk H i hi => ?_)
 have hx := hv.x hk
 generalize v.d.drop (v.d.length - 3) = x at hx ⊢
 exact ⟨⟨_, Tryz.func80, rfl, rfl⟩, d_pure 99 capA v x (v, pFMod x).2 (by simp) (fun H => ⟨⟨_, Tryz.func99, rfl, rfl⟩, rk_10 x hx H⟩) H i hi⟩
theorem ds_81 (v : VVm) (x : List Int) : doneS v 81 [83, 62, 68] x = (v, pSD x) := by kernel_rfl
theorem do_81 (v : VVm) (hv : VmOk v) : PureC Tryz.prog 14 [eVm v, i64 81] (tVm (doS v 81)) := by
 have hk : takesS 81 (names.getD (81 : Int).toNat []) = 1 := by kernel_rfl
 have hn : names.getD (81 : Int).toNat [] = [83, 62, 68] := by kernel_rfl
 rw [doS_deed (by decide) (by decide), hk, hn, ds_81]
 refine do_deed v 81 1 80 [.row [fnP 100 []]] _ (by decide) (by decide) (by have := hv.d; omega) hv.data (by decide) (by simp) (by rw [hn]; exact found_rk 81 _ _ _ _ (by decide) (by simp)  rfl) (by (show List.length _ ≤ _; simp [pFetch, pFetchB, pPut, pLay, pPic, pDig, pAll, pCount, pDivMod, pStarMod, pStar, pUM, pM, pUMod, pSRem, pFMod, pSD, pWithin, pBodyP])) (fun hk H i hi => ?_)
 have hx := hv.x hk
 generalize v.d.drop (v.d.length - 1) = x at hx ⊢
 exact ⟨⟨_, Tryz.func80, rfl, rfl⟩, d_pure 100 [] v x (v, pSD x).2 (by simp) (fun H => ⟨⟨_, Tryz.func100, rfl, rfl⟩, rk_11 x hx H⟩) H i hi⟩
theorem ds_82 (v : VVm) (x : List Int) : doneS v 82 [87, 73, 84, 72, 73, 78] x = (v, pWithin x) := by kernel_rfl
theorem do_82 (v : VVm) (hv : VmOk v) : PureC Tryz.prog 14 [eVm v, i64 82] (tVm (doS v 82)) := by
 have hk : takesS 82 (names.getD (82 : Int).toNat []) = 3 := by kernel_rfl
 have hn : names.getD (82 : Int).toNat [] = [87, 73, 84, 72, 73, 78] := by kernel_rfl
 rw [doS_deed (by decide) (by decide), hk, hn, ds_82]
 refine do_deed v 82 3 80 [.row [fnP 102 []]] _ (by decide) (by decide) (by have := hv.d; omega) hv.data (by decide) (by simp) (by rw [hn]; exact found_rk 82 _ _ _ _ (by decide) (by simp)  rfl) (by (show List.length _ ≤ _; simp [pFetch, pFetchB, pPut, pLay, pPic, pDig, pAll, pCount, pDivMod, pStarMod, pStar, pUM, pM, pUMod, pSRem, pFMod, pSD, pWithin, pBodyP])) (fun hk H i hi => ?_)
 have hx := hv.x hk
 generalize v.d.drop (v.d.length - 3) = x at hx ⊢
 exact ⟨⟨_, Tryz.func80, rfl, rfl⟩, d_pure 102 [] v x (v, pWithin x).2 (by simp) (fun H => ⟨⟨_, Tryz.func102, rfl, rfl⟩, rk_12 x hx H⟩) H i hi⟩
theorem ds_83 (v : VVm) (x : List Int) : doneS v 83 [64] x = pFetch v x := by kernel_rfl
theorem do_83 (v : VVm) (hv : VmOk v) : PureC Tryz.prog 14 [eVm v, i64 83] (tVm (doS v 83)) := by
 have hk : takesS 83 (names.getD (83 : Int).toNat []) = 1 := by kernel_rfl
 have hn : names.getD (83 : Int).toNat [] = [64] := by kernel_rfl
 rw [doS_deed (by decide) (by decide), hk, hn, ds_83]
 refine do_deed v 83 1 216 [.row [fnP 105 []]] _ (by decide) (by decide) (by have := hv.d; omega) hv.data (by decide) (by simp) (by rw [hn]; exact found_me 83 _ _ _ _ (by decide) (by simp) rfl rfl) (by (show List.length _ ≤ _; simp [pFetch, pFetchB, pPut, pLay, pPic, pDig, pAll, pCount, pDivMod, pStarMod, pStar, pUM, pM, pUMod, pSRem, pFMod, pSD, pWithin, pBodyP])) (fun hk H i hi => ?_)
 have hx := hv.x hk
 generalize v.d.drop (v.d.length - 1) = x at hx ⊢
 exact ⟨⟨_, Tryz.func216, rfl, rfl⟩, d_fetches 105 [] v x _ hx.len (by simp) (fun H => ⟨⟨_, Tryz.func105, rfl, rfl⟩, (mem_Fetch v.mem _ (memOk_len hv.mem) (hx.fit 0)) H⟩) H i hi⟩
theorem ds_86 (v : VVm) (x : List Int) : doneS v 86 [67, 64] x = pFetchB v x := by kernel_rfl
theorem do_86 (v : VVm) (hv : VmOk v) : PureC Tryz.prog 14 [eVm v, i64 86] (tVm (doS v 86)) := by
 have hk : takesS 86 (names.getD (86 : Int).toNat []) = 1 := by kernel_rfl
 have hn : names.getD (86 : Int).toNat [] = [67, 64] := by kernel_rfl
 rw [doS_deed (by decide) (by decide), hk, hn, ds_86]
 refine do_deed v 86 1 216 [.row [fnP 106 []]] _ (by decide) (by decide) (by have := hv.d; omega) hv.data (by decide) (by simp) (by rw [hn]; exact found_me 86 _ _ _ _ (by decide) (by simp) rfl rfl) (by (show List.length _ ≤ _; simp [pFetch, pFetchB, pPut, pLay, pPic, pDig, pAll, pCount, pDivMod, pStarMod, pStar, pUM, pM, pUMod, pSRem, pFMod, pSD, pWithin, pBodyP])) (fun hk H i hi => ?_)
 have hx := hv.x hk
 generalize v.d.drop (v.d.length - 1) = x at hx ⊢
 exact ⟨⟨_, Tryz.func216, rfl, rfl⟩, d_fetches 106 [] v x _ hx.len (by simp) (fun H => ⟨⟨_, Tryz.func106, rfl, rfl⟩, (mem_FetchByte v.mem _ hv.mem (hx.fit 0)) H⟩) H i hi⟩
theorem ds_84 (v : VVm) (x : List Int) : doneS v 84 [33] x = pPut v (memStore v.mem (xat x 1) (xat x 0)) := by kernel_rfl
theorem do_84 (v : VVm) (hv : VmOk v) : PureC Tryz.prog 14 [eVm v, i64 84] (tVm (doS v 84)) := by
 have hk : takesS 84 (names.getD (84 : Int).toNat []) = 2 := by kernel_rfl
 have hn : names.getD (84 : Int).toNat [] = [33] := by kernel_rfl
 rw [doS_deed (by decide) (by decide), hk, hn, ds_84]
 refine do_deed v 84 2 220 [.row [fnP 108 []]] _ (by decide) (by decide) (by have := hv.d; omega) hv.data (by decide) (by simp) (by rw [hn]; exact found_me 84 _ _ _ _ (by decide) (by simp) rfl rfl) (by (show List.length _ ≤ _; simp [pFetch, pFetchB, pPut, pLay, pPic, pDig, pAll, pCount, pDivMod, pStarMod, pStar, pUM, pM, pUMod, pSRem, pFMod, pSD, pWithin, pBodyP])) (fun hk H i hi => ?_)
 have hx := hv.x hk
 generalize v.d.drop (v.d.length - 2) = x at hx ⊢
 exact ⟨⟨_, Tryz.func220, rfl, rfl⟩, d_changes 108 [] v x _ (by simp) (fun H => ⟨⟨_, Tryz.func108, rfl, rfl⟩, me_1 v x hv.mem hx H⟩) H i hi⟩
theorem ds_87 (v : VVm) (x : List Int) : doneS v 87 [67, 33] x = pPut v (memStoreByte v.mem (xat x 1) (xat x 0)) := by kernel_rfl
theorem do_87 (v : VVm) (hv : VmOk v) : PureC Tryz.prog 14 [eVm v, i64 87] (tVm (doS v 87)) := by
 have hk : takesS 87 (names.getD (87 : Int).toNat []) = 2 := by kernel_rfl
 have hn : names.getD (87 : Int).toNat [] = [67, 33] := by kernel_rfl
 rw [doS_deed (by decide) (by decide), hk, hn, ds_87]
 refine do_deed v 87 2 220 [.row [fnP 110 []]] _ (by decide) (by decide) (by have := hv.d; omega) hv.data (by decide) (by simp) (by rw [hn]; exact found_me 87 _ _ _ _ (by decide) (by simp) rfl rfl) (by (show List.length _ ≤ _; simp [pFetch, pFetchB, pPut, pLay, pPic, pDig, pAll, pCount, pDivMod, pStarMod, pStar, pUM, pM, pUMod, pSRem, pFMod, pSD, pWithin, pBodyP])) (fun hk H i hi => ?_)
 have hx := hv.x hk
 generalize v.d.drop (v.d.length - 2) = x at hx ⊢
 exact ⟨⟨_, Tryz.func220, rfl, rfl⟩, d_changes 110 [] v x _ (by simp) (fun H => ⟨⟨_, Tryz.func110, rfl, rfl⟩, me_2 v x hv.mem hx H⟩) H i hi⟩
theorem ds_85 (v : VVm) (x : List Int) : doneS v 85 [43, 33] x = pPut v (pAddTo v x) := by kernel_rfl
theorem do_85 (v : VVm) (hv : VmOk v) : PureC Tryz.prog 14 [eVm v, i64 85] (tVm (doS v 85)) := by
 have hk : takesS 85 (names.getD (85 : Int).toNat []) = 2 := by kernel_rfl
 have hn : names.getD (85 : Int).toNat [] = [43, 33] := by kernel_rfl
 rw [doS_deed (by decide) (by decide), hk, hn, ds_85]
 refine do_deed v 85 2 220 [.row [fnP 112 []]] _ (by decide) (by decide) (by have := hv.d; omega) hv.data (by decide) (by simp) (by rw [hn]; exact found_me 85 _ _ _ _ (by decide) (by simp) rfl rfl) (by (show List.length _ ≤ _; simp [pFetch, pFetchB, pPut, pLay, pPic, pDig, pAll, pCount, pDivMod, pStarMod, pStar, pUM, pM, pUMod, pSRem, pFMod, pSD, pWithin, pBodyP])) (fun hk H i hi => ?_)
 have hx := hv.x hk
 generalize v.d.drop (v.d.length - 2) = x at hx ⊢
 exact ⟨⟨_, Tryz.func220, rfl, rfl⟩, d_changes 112 [] v x _ (by simp) (fun H => ⟨⟨_, Tryz.func112, rfl, rfl⟩, me_3 v x hv.mem hx H⟩) H i hi⟩
theorem ds_88 (v : VVm) (x : List Int) : doneS v 88 [50, 64] x = pFetch2 v x := by kernel_rfl
theorem do_88 (v : VVm) (hv : VmOk v) : PureC Tryz.prog 14 [eVm v, i64 88] (tVm (doS v 88)) := by
 have hk : takesS 88 (names.getD (88 : Int).toNat []) = 1 := by kernel_rfl
 have hn : names.getD (88 : Int).toNat [] = [50, 64] := by kernel_rfl
 rw [doS_deed (by decide) (by decide), hk, hn, ds_88]
 refine do_deed v 88 1 113 [] _ (by decide) (by decide) (by have := hv.d; omega) hv.data (by decide) (by simp) (by rw [hn]; exact found_me 88 _ _ _ _ (by decide) (by simp) rfl rfl) (by unfold pFetch2; split <;> simp) (fun hk H i hi => ?_)
 have hx := hv.x hk
 generalize v.d.drop (v.d.length - 1) = x at hx ⊢
 exact ⟨⟨_, Tryz.func113, rfl, rfl⟩, me_4 v x hv.mem hx H i hi⟩
theorem ds_89 (v : VVm) (x : List Int) : doneS v 89 [50, 33] x = pPut v (pStore2 v x) := by kernel_rfl
theorem do_89 (v : VVm) (hv : VmOk v) : PureC Tryz.prog 14 [eVm v, i64 89] (tVm (doS v 89)) := by
 have hk : takesS 89 (names.getD (89 : Int).toNat []) = 3 := by kernel_rfl
 have hn : names.getD (89 : Int).toNat [] = [50, 33] := by kernel_rfl
 rw [doS_deed (by decide) (by decide), hk, hn, ds_89]
 refine do_deed v 89 3 220 [.row [fnP 114 []]] _ (by decide) (by decide) (by have := hv.d; omega) hv.data (by decide) (by simp) (by rw [hn]; exact found_me 89 _ _ _ _ (by decide) (by simp) rfl rfl) (by (show List.length _ ≤ _; simp [pFetch, pFetchB, pPut, pLay, pPic, pDig, pAll, pCount, pDivMod, pStarMod, pStar, pUM, pM, pUMod, pSRem, pFMod, pSD, pWithin, pBodyP])) (fun hk H i hi => ?_)
 have hx := hv.x hk
 generalize v.d.drop (v.d.length - 3) = x at hx ⊢
 exact ⟨⟨_, Tryz.func220, rfl, rfl⟩, d_changes 114 [] v x _ (by simp) (fun H => ⟨⟨_, Tryz.func114, rfl, rfl⟩, me_5 v x hv.mem hv.old hx H⟩) H i hi⟩
theorem ds_90 (v : VVm) (x : List Int) : doneS v 90 [70, 73, 76, 76] x = pPut v (memFill v.mem (xat x 0) (xat x 1) (xat x 2)) := by kernel_rfl
theorem do_90 (v : VVm) (hv : VmOk v) : PureC Tryz.prog 14 [eVm v, i64 90] (tVm (doS v 90)) := by
 have hk : takesS 90 (names.getD (90 : Int).toNat []) = 3 := by kernel_rfl
 have hn : names.getD (90 : Int).toNat [] = [70, 73, 76, 76] := by kernel_rfl
 rw [doS_deed (by decide) (by decide), hk, hn, ds_90]
 refine do_deed v 90 3 220 [.row [fnP 115 []]] _ (by decide) (by decide) (by have := hv.d; omega) hv.data (by decide) (by simp) (by rw [hn]; exact found_me 90 _ _ _ _ (by decide) (by simp) rfl rfl) (by (show List.length _ ≤ _; simp [pFetch, pFetchB, pPut, pLay, pPic, pDig, pAll, pCount, pDivMod, pStarMod, pStar, pUM, pM, pUMod, pSRem, pFMod, pSD, pWithin, pBodyP])) (fun hk H i hi => ?_)
 have hx := hv.x hk
 generalize v.d.drop (v.d.length - 3) = x at hx ⊢
 exact ⟨⟨_, Tryz.func220, rfl, rfl⟩, d_changes 115 [] v x _ (by simp) (fun H => ⟨⟨_, Tryz.func115, rfl, rfl⟩, me_6 v x hv.mem hx H⟩) H i hi⟩
theorem ds_91 (v : VVm) (x : List Int) : doneS v 91 [77, 79, 86, 69] x = pPut v (memMove v.mem (xat x 0) (xat x 1) (xat x 2)) := by kernel_rfl
theorem do_91 (v : VVm) (hv : VmOk v) : PureC Tryz.prog 14 [eVm v, i64 91] (tVm (doS v 91)) := by
 have hk : takesS 91 (names.getD (91 : Int).toNat []) = 3 := by kernel_rfl
 have hn : names.getD (91 : Int).toNat [] = [77, 79, 86, 69] := by kernel_rfl
 rw [doS_deed (by decide) (by decide), hk, hn, ds_91]
 refine do_deed v 91 3 220 [.row [fnP 117 []]] _ (by decide) (by decide) (by have := hv.d; omega) hv.data (by decide) (by simp) (by rw [hn]; exact found_me 91 _ _ _ _ (by decide) (by simp) rfl rfl) (by (show List.length _ ≤ _; simp [pFetch, pFetchB, pPut, pLay, pPic, pDig, pAll, pCount, pDivMod, pStarMod, pStar, pUM, pM, pUMod, pSRem, pFMod, pSD, pWithin, pBodyP])) (fun hk H i hi => ?_)
 have hx := hv.x hk
 generalize v.d.drop (v.d.length - 3) = x at hx ⊢
 exact ⟨⟨_, Tryz.func220, rfl, rfl⟩, d_changes 117 [] v x _ (by simp) (fun H => ⟨⟨_, Tryz.func117, rfl, rfl⟩, me_7 v x hv.mem hx H⟩) H i hi⟩
theorem ds_92 (v : VVm) (x : List Int) : doneS v 92 [67, 79, 85, 78, 84] x = pCount v x := by kernel_rfl
theorem do_92 (v : VVm) (hv : VmOk v) : PureC Tryz.prog 14 [eVm v, i64 92] (tVm (doS v 92)) := by
 have hk : takesS 92 (names.getD (92 : Int).toNat []) = 1 := by kernel_rfl
 have hn : names.getD (92 : Int).toNat [] = [67, 79, 85, 78, 84] := by kernel_rfl
 rw [doS_deed (by decide) (by decide), hk, hn, ds_92]
 refine do_deed v 92 1 119 [] _ (by decide) (by decide) (by have := hv.d; omega) hv.data (by decide) (by simp) (by rw [hn]; exact found_me 92 _ _ _ _ (by decide) (by simp) rfl rfl) (by (show List.length _ ≤ _; simp [pFetch, pFetchB, pPut, pLay, pPic, pDig, pAll, pCount, pDivMod, pStarMod, pStar, pUM, pM, pUMod, pSRem, pFMod, pSD, pWithin, pBodyP])) (fun hk H i hi => ?_)
 have hx := hv.x hk
 generalize v.d.drop (v.d.length - 1) = x at hx ⊢
 exact ⟨⟨_, Tryz.func119, rfl, rfl⟩, me_8 v x hv.mem hx H i hi⟩
theorem ds_93 (v : VVm) (x : List Int) : doneS v 93 [72, 69, 82, 69] x = (v, [v.here], 0) := by kernel_rfl
theorem do_93 (v : VVm) (hv : VmOk v) : PureC Tryz.prog 14 [eVm v, i64 93] (tVm (doS v 93)) := by
 have hk : takesS 93 (names.getD (93 : Int).toNat []) = 0 := by kernel_rfl
 have hn : names.getD (93 : Int).toNat [] = [72, 69, 82, 69] := by kernel_rfl
 rw [doS_deed (by decide) (by decide), hk, hn, ds_93]
 refine do_deed v 93 0 223 [.row [fnP 126 []]] _ (by decide) (by decide) (by have := hv.d; omega) hv.data (by decide) (by simp) (by rw [hn]; exact found_sp 93 _ _ _ _ (by decide) (by simp) rfl rfl rfl) (by (show List.length _ ≤ _; simp [pFetch, pFetchB, pPut, pLay, pPic, pDig, pAll, pCount, pDivMod, pStarMod, pStar, pUM, pM, pUMod, pSRem, pFMod, pSD, pWithin, pBodyP])) (fun hk H i hi => ?_)
 have hx := hv.x hk
 generalize v.d.drop (v.d.length - 0) = x at hx ⊢
 exact ⟨⟨_, Tryz.func223, rfl, rfl⟩, d_shown 126 [] v x _ (by simp) (fun H => ⟨⟨_, Tryz.func126, rfl, rfl⟩, sp_3 v H⟩) H i hi⟩
theorem ds_94 (v : VVm) (x : List Int) : doneS v 94 [65, 76, 76, 79, 84] x = pLay v (pAllot v x) := by kernel_rfl
theorem do_94 (v : VVm) (hv : VmOk v) : PureC Tryz.prog 14 [eVm v, i64 94] (tVm (doS v 94)) := by
 have hk : takesS 94 (names.getD (94 : Int).toNat []) = 1 := by kernel_rfl
 have hn : names.getD (94 : Int).toNat [] = [65, 76, 76, 79, 84] := by kernel_rfl
 rw [doS_deed (by decide) (by decide), hk, hn, ds_94]
 refine do_deed v 94 1 224 [.row [fnP 128 []]] _ (by decide) (by decide) (by have := hv.d; omega) hv.data (by decide) (by simp) (by rw [hn]; exact found_sp 94 _ _ _ _ (by decide) (by simp) rfl rfl rfl) (by (show List.length _ ≤ _; simp [pFetch, pFetchB, pPut, pLay, pPic, pDig, pAll, pCount, pDivMod, pStarMod, pStar, pUM, pM, pUMod, pSRem, pFMod, pSD, pWithin, pBodyP])) (fun hk H i hi => ?_)
 have hx := hv.x hk
 generalize v.d.drop (v.d.length - 1) = x at hx ⊢
 exact ⟨⟨_, Tryz.func224, rfl, rfl⟩, d_lays 128 [] v x _ (by simp) (fun H => ⟨⟨_, Tryz.func128, rfl, rfl⟩, sp_4 v x hv.mem hv.here hx H⟩) H i hi⟩
theorem ds_95 (v : VVm) (x : List Int) : doneS v 95 [44] x = pLay v (spcComma v.mem v.here (xat x 0)) := by kernel_rfl
theorem do_95 (v : VVm) (hv : VmOk v) : PureC Tryz.prog 14 [eVm v, i64 95] (tVm (doS v 95)) := by
 have hk : takesS 95 (names.getD (95 : Int).toNat []) = 1 := by kernel_rfl
 have hn : names.getD (95 : Int).toNat [] = [44] := by kernel_rfl
 rw [doS_deed (by decide) (by decide), hk, hn, ds_95]
 refine do_deed v 95 1 224 [.row [fnP 131 []]] _ (by decide) (by decide) (by have := hv.d; omega) hv.data (by decide) (by simp) (by rw [hn]; exact found_sp 95 _ _ _ _ (by decide) (by simp) rfl rfl rfl) (by (show List.length _ ≤ _; simp [pFetch, pFetchB, pPut, pLay, pPic, pDig, pAll, pCount, pDivMod, pStarMod, pStar, pUM, pM, pUMod, pSRem, pFMod, pSD, pWithin, pBodyP])) (fun hk H i hi => ?_)
 have hx := hv.x hk
 generalize v.d.drop (v.d.length - 1) = x at hx ⊢
 exact ⟨⟨_, Tryz.func224, rfl, rfl⟩, d_lays 131 [] v x _ (by simp) (fun H => ⟨⟨_, Tryz.func131, rfl, rfl⟩, sp_5 v x hv.mem hv.here hx H⟩) H i hi⟩
theorem ds_96 (v : VVm) (x : List Int) : doneS v 96 [67, 44] x = pLay v (spcLay v.mem v.here [loB (xat x 0)]) := by kernel_rfl
theorem do_96 (v : VVm) (hv : VmOk v) : PureC Tryz.prog 14 [eVm v, i64 96] (tVm (doS v 96)) := by
 have hk : takesS 96 (names.getD (96 : Int).toNat []) = 1 := by kernel_rfl
 have hn : names.getD (96 : Int).toNat [] = [67, 44] := by kernel_rfl
 rw [doS_deed (by decide) (by decide), hk, hn, ds_96]
 refine do_deed v 96 1 224 [.row [fnP 133 []]] _ (by decide) (by decide) (by have := hv.d; omega) hv.data (by decide) (by simp) (by rw [hn]; exact found_sp 96 _ _ _ _ (by decide) (by simp) rfl rfl rfl) (by (show List.length _ ≤ _; simp [pFetch, pFetchB, pPut, pLay, pPic, pDig, pAll, pCount, pDivMod, pStarMod, pStar, pUM, pM, pUMod, pSRem, pFMod, pSD, pWithin, pBodyP])) (fun hk H i hi => ?_)
 have hx := hv.x hk
 generalize v.d.drop (v.d.length - 1) = x at hx ⊢
 exact ⟨⟨_, Tryz.func224, rfl, rfl⟩, d_lays 133 [] v x _ (by simp) (fun H => ⟨⟨_, Tryz.func133, rfl, rfl⟩, sp_6 v x hv.mem hv.here hx H⟩) H i hi⟩
theorem ds_97 (v : VVm) (x : List Int) : doneS v 97 [65, 76, 73, 71, 78] x = pLay v (spcAlign v.mem v.here) := by kernel_rfl
theorem do_97 (v : VVm) (hv : VmOk v) : PureC Tryz.prog 14 [eVm v, i64 97] (tVm (doS v 97)) := by
 have hk : takesS 97 (names.getD (97 : Int).toNat []) = 0 := by kernel_rfl
 have hn : names.getD (97 : Int).toNat [] = [65, 76, 73, 71, 78] := by kernel_rfl
 rw [doS_deed (by decide) (by decide), hk, hn, ds_97]
 refine do_deed v 97 0 224 [.row [fnP 135 []]] _ (by decide) (by decide) (by have := hv.d; omega) hv.data (by decide) (by simp) (by rw [hn]; exact found_sp 97 _ _ _ _ (by decide) (by simp) rfl rfl rfl) (by (show List.length _ ≤ _; simp [pFetch, pFetchB, pPut, pLay, pPic, pDig, pAll, pCount, pDivMod, pStarMod, pStar, pUM, pM, pUMod, pSRem, pFMod, pSD, pWithin, pBodyP])) (fun hk H i hi => ?_)
 have hx := hv.x hk
 generalize v.d.drop (v.d.length - 0) = x at hx ⊢
 exact ⟨⟨_, Tryz.func224, rfl, rfl⟩, d_lays 135 [] v x _ (by simp) (fun H => ⟨⟨_, Tryz.func135, rfl, rfl⟩, sp_7 v x hv.mem hv.here H⟩) H i hi⟩
theorem ds_98 (v : VVm) (x : List Int) : doneS v 98 [66, 65, 83, 69] x = (v, [0], 0) := by kernel_rfl
theorem do_98 (v : VVm) (hv : VmOk v) : PureC Tryz.prog 14 [eVm v, i64 98] (tVm (doS v 98)) := by
 have hk : takesS 98 (names.getD (98 : Int).toNat []) = 0 := by kernel_rfl
 have hn : names.getD (98 : Int).toNat [] = [66, 65, 83, 69] := by kernel_rfl
 rw [doS_deed (by decide) (by decide), hk, hn, ds_98]
 refine do_deed v 98 0 223 [.row [fnP 125 [.row [i64 (0)]]]] _ (by decide) (by decide) (by have := hv.d; omega) hv.data (by decide) (by simp) (by rw [hn]; exact found_sp 98 _ _ _ _ (by decide) (by simp) rfl rfl rfl) (by (show List.length _ ≤ _; simp [pFetch, pFetchB, pPut, pLay, pPic, pDig, pAll, pCount, pDivMod, pStarMod, pStar, pUM, pM, pUMod, pSRem, pFMod, pSD, pWithin, pBodyP])) (fun hk H i hi => ?_)
 have hx := hv.x hk
 generalize v.d.drop (v.d.length - 0) = x at hx ⊢
 exact ⟨⟨_, Tryz.func223, rfl, rfl⟩, d_shown 125 [.row [i64 (0)]] v x (0) (by simp) (fun H => ⟨⟨_, Tryz.func125, rfl, rfl⟩, d_always v (0) H⟩) H i hi⟩
theorem ds_99 (v : VVm) (x : List Int) : doneS v 99 [83, 84, 65, 84, 69] x = (v, [8], 0) := by kernel_rfl
theorem do_99 (v : VVm) (hv : VmOk v) : PureC Tryz.prog 14 [eVm v, i64 99] (tVm (doS v 99)) := by
 have hk : takesS 99 (names.getD (99 : Int).toNat []) = 0 := by kernel_rfl
 have hn : names.getD (99 : Int).toNat [] = [83, 84, 65, 84, 69] := by kernel_rfl
 rw [doS_deed (by decide) (by decide), hk, hn, ds_99]
 refine do_deed v 99 0 223 [.row [fnP 125 [.row [i64 (8)]]]] _ (by decide) (by decide) (by have := hv.d; omega) hv.data (by decide) (by simp) (by rw [hn]; exact found_sp 99 _ _ _ _ (by decide) (by simp) rfl rfl rfl) (by (show List.length _ ≤ _; simp [pFetch, pFetchB, pPut, pLay, pPic, pDig, pAll, pCount, pDivMod, pStarMod, pStar, pUM, pM, pUMod, pSRem, pFMod, pSD, pWithin, pBodyP])) (fun hk H i hi => ?_)
 have hx := hv.x hk
 generalize v.d.drop (v.d.length - 0) = x at hx ⊢
 exact ⟨⟨_, Tryz.func223, rfl, rfl⟩, d_shown 125 [.row [i64 (8)]] v x (8) (by simp) (fun H => ⟨⟨_, Tryz.func125, rfl, rfl⟩, d_always v (8) H⟩) H i hi⟩
theorem ds_100 (v : VVm) (x : List Int) : doneS v 100 [84, 82, 85, 69] x = (v, [-1], 0) := by kernel_rfl
theorem do_100 (v : VVm) (hv : VmOk v) : PureC Tryz.prog 14 [eVm v, i64 100] (tVm (doS v 100)) := by
 have hk : takesS 100 (names.getD (100 : Int).toNat []) = 0 := by kernel_rfl
 have hn : names.getD (100 : Int).toNat [] = [84, 82, 85, 69] := by kernel_rfl
 rw [doS_deed (by decide) (by decide), hk, hn, ds_100]
 refine do_deed v 100 0 223 [.row [fnP 125 [.row [i64 (-1)]]]] _ (by decide) (by decide) (by have := hv.d; omega) hv.data (by decide) (by simp) (by rw [hn]; exact found_sp 100 _ _ _ _ (by decide) (by simp) rfl rfl rfl) (by (show List.length _ ≤ _; simp [pFetch, pFetchB, pPut, pLay, pPic, pDig, pAll, pCount, pDivMod, pStarMod, pStar, pUM, pM, pUMod, pSRem, pFMod, pSD, pWithin, pBodyP])) (fun hk H i hi => ?_)
 have hx := hv.x hk
 generalize v.d.drop (v.d.length - 0) = x at hx ⊢
 exact ⟨⟨_, Tryz.func223, rfl, rfl⟩, d_shown 125 [.row [i64 (-1)]] v x (-1) (by simp) (fun H => ⟨⟨_, Tryz.func125, rfl, rfl⟩, d_always v (-1) H⟩) H i hi⟩
theorem ds_101 (v : VVm) (x : List Int) : doneS v 101 [70, 65, 76, 83, 69] x = (v, [0], 0) := by kernel_rfl
theorem do_101 (v : VVm) (hv : VmOk v) : PureC Tryz.prog 14 [eVm v, i64 101] (tVm (doS v 101)) := by
 have hk : takesS 101 (names.getD (101 : Int).toNat []) = 0 := by kernel_rfl
 have hn : names.getD (101 : Int).toNat [] = [70, 65, 76, 83, 69] := by kernel_rfl
 rw [doS_deed (by decide) (by decide), hk, hn, ds_101]
 refine do_deed v 101 0 223 [.row [fnP 125 [.row [i64 (0)]]]] _ (by decide) (by decide) (by have := hv.d; omega) hv.data (by decide) (by simp) (by rw [hn]; exact found_sp 101 _ _ _ _ (by decide) (by simp) rfl rfl rfl) (by (show List.length _ ≤ _; simp [pFetch, pFetchB, pPut, pLay, pPic, pDig, pAll, pCount, pDivMod, pStarMod, pStar, pUM, pM, pUMod, pSRem, pFMod, pSD, pWithin, pBodyP])) (fun hk H i hi => ?_)
 have hx := hv.x hk
 generalize v.d.drop (v.d.length - 0) = x at hx ⊢
 exact ⟨⟨_, Tryz.func223, rfl, rfl⟩, d_shown 125 [.row [i64 (0)]] v x (0) (by simp) (fun H => ⟨⟨_, Tryz.func125, rfl, rfl⟩, d_always v (0) H⟩) H i hi⟩
theorem ds_102 (v : VVm) (x : List Int) : doneS v 102 [66, 76] x = (v, [32], 0) := by kernel_rfl
theorem do_102 (v : VVm) (hv : VmOk v) : PureC Tryz.prog 14 [eVm v, i64 102] (tVm (doS v 102)) := by
 have hk : takesS 102 (names.getD (102 : Int).toNat []) = 0 := by kernel_rfl
 have hn : names.getD (102 : Int).toNat [] = [66, 76] := by kernel_rfl
 rw [doS_deed (by decide) (by decide), hk, hn, ds_102]
 refine do_deed v 102 0 223 [.row [fnP 125 [.row [i64 (32)]]]] _ (by decide) (by decide) (by have := hv.d; omega) hv.data (by decide) (by simp) (by rw [hn]; exact found_sp 102 _ _ _ _ (by decide) (by simp) rfl rfl rfl) (by (show List.length _ ≤ _; simp [pFetch, pFetchB, pPut, pLay, pPic, pDig, pAll, pCount, pDivMod, pStarMod, pStar, pUM, pM, pUMod, pSRem, pFMod, pSD, pWithin, pBodyP])) (fun hk H i hi => ?_)
 have hx := hv.x hk
 generalize v.d.drop (v.d.length - 0) = x at hx ⊢
 exact ⟨⟨_, Tryz.func223, rfl, rfl⟩, d_shown 125 [.row [i64 (32)]] v x (32) (by simp) (fun H => ⟨⟨_, Tryz.func125, rfl, rfl⟩, d_always v (32) H⟩) H i hi⟩
theorem ds_103 (v : VVm) (x : List Int) : doneS v 103 [68, 69, 67, 73, 77, 65, 76] x = pPut v (memStore v.mem 0 10) := by kernel_rfl
theorem do_103 (v : VVm) (hv : VmOk v) : PureC Tryz.prog 14 [eVm v, i64 103] (tVm (doS v 103)) := by
 have hk : takesS 103 (names.getD (103 : Int).toNat []) = 0 := by kernel_rfl
 have hn : names.getD (103 : Int).toNat [] = [68, 69, 67, 73, 77, 65, 76] := by kernel_rfl
 rw [doS_deed (by decide) (by decide), hk, hn, ds_103]
 refine do_deed v 103 0 121 [.row [i64 10]] _ (by decide) (by decide) (by have := hv.d; omega) hv.data (by decide) (by simp) (by rw [hn]; exact found_sp 103 _ _ _ _ (by decide) (by simp) rfl rfl rfl) (by (show List.length _ ≤ _; simp [pFetch, pFetchB, pPut, pLay, pPic, pDig, pAll, pCount, pDivMod, pStarMod, pStar, pUM, pM, pUMod, pSRem, pFMod, pSD, pWithin, pBodyP])) (fun hk H i hi => ?_)
 have hx := hv.x hk
 generalize v.d.drop (v.d.length - 0) = x at hx ⊢
 exact ⟨⟨_, Tryz.func121, rfl, rfl⟩, d_base v x 10 hv.mem H i hi⟩
theorem ds_104 (v : VVm) (x : List Int) : doneS v 104 [72, 69, 88] x = pPut v (memStore v.mem 0 16) := by kernel_rfl
theorem do_104 (v : VVm) (hv : VmOk v) : PureC Tryz.prog 14 [eVm v, i64 104] (tVm (doS v 104)) := by
 have hk : takesS 104 (names.getD (104 : Int).toNat []) = 0 := by kernel_rfl
 have hn : names.getD (104 : Int).toNat [] = [72, 69, 88] := by kernel_rfl
 rw [doS_deed (by decide) (by decide), hk, hn, ds_104]
 refine do_deed v 104 0 121 [.row [i64 16]] _ (by decide) (by decide) (by have := hv.d; omega) hv.data (by decide) (by simp) (by rw [hn]; exact found_sp 104 _ _ _ _ (by decide) (by simp) rfl rfl rfl) (by (show List.length _ ≤ _; simp [pFetch, pFetchB, pPut, pLay, pPic, pDig, pAll, pCount, pDivMod, pStarMod, pStar, pUM, pM, pUMod, pSRem, pFMod, pSD, pWithin, pBodyP])) (fun hk H i hi => ?_)
 have hx := hv.x hk
 generalize v.d.drop (v.d.length - 0) = x at hx ⊢
 exact ⟨⟨_, Tryz.func121, rfl, rfl⟩, d_base v x 16 hv.mem H i hi⟩
theorem ds_105 (v : VVm) (x : List Int) : doneS v 105 [69, 77, 73, 84] x = pPrint v ([loB (xat x 0)], 0) := by kernel_rfl
theorem do_105 (v : VVm) (hv : VmOk v) : PureC Tryz.prog 14 [eVm v, i64 105] (tVm (doS v 105)) := by
 have hk : takesS 105 (names.getD (105 : Int).toNat []) = 1 := by kernel_rfl
 have hn : names.getD (105 : Int).toNat [] = [69, 77, 73, 84] := by kernel_rfl
 rw [doS_deed (by decide) (by decide), hk, hn, ds_105]
 refine do_deed v 105 1 227 [.row [fnP 143 []]] _ (by decide) (by decide) (by have := hv.d; omega) hv.data (by decide) (by simp) (by rw [hn]; exact found_pr 105 _ _ _ _ (by decide) (by simp) rfl rfl rfl rfl) (by unfold pPrint; split <;> simp) (fun hk H i hi => ?_)
 have hx := hv.x hk
 generalize v.d.drop (v.d.length - 1) = x at hx ⊢
 exact ⟨⟨_, Tryz.func227, rfl, rfl⟩, d_puts 143 [] v x ([loB (xat x 0)], 0) hv.out1 hv.out (by simp) (by simp) (fun H => ⟨⟨_, Tryz.func143, rfl, rfl⟩, pr_3 v x hx H⟩) H i hi⟩
theorem ds_106 (v : VVm) (x : List Int) : doneS v 106 [67, 82] x = pPrint v ([10], 0) := by kernel_rfl
theorem do_106 (v : VVm) (hv : VmOk v) : PureC Tryz.prog 14 [eVm v, i64 106] (tVm (doS v 106)) := by
 have hk : takesS 106 (names.getD (106 : Int).toNat []) = 0 := by kernel_rfl
 have hn : names.getD (106 : Int).toNat [] = [67, 82] := by kernel_rfl
 rw [doS_deed (by decide) (by decide), hk, hn, ds_106]
 refine do_deed v 106 0 227 [.row [fnP 142 [.row [str [10]]]]] _ (by decide) (by decide) (by have := hv.d; omega) hv.data (by decide) (by simp) (by rw [hn]; exact found_pr 106 _ _ _ _ (by decide) (by simp) rfl rfl rfl rfl) (by unfold pPrint; split <;> simp) (fun hk H i hi => ?_)
 have hx := hv.x hk
 generalize v.d.drop (v.d.length - 0) = x at hx ⊢
 exact ⟨⟨_, Tryz.func227, rfl, rfl⟩, d_puts 142 [.row [str [10]]] v x ([10], 0) hv.out1 hv.out (by simp) (by simp) (fun H => ⟨⟨_, Tryz.func142, rfl, rfl⟩, d_text [10] v x H⟩) H i hi⟩
theorem ds_107 (v : VVm) (x : List Int) : doneS v 107 [83, 80, 65, 67, 69] x = pPrint v ([32], 0) := by kernel_rfl
theorem do_107 (v : VVm) (hv : VmOk v) : PureC Tryz.prog 14 [eVm v, i64 107] (tVm (doS v 107)) := by
 have hk : takesS 107 (names.getD (107 : Int).toNat []) = 0 := by kernel_rfl
 have hn : names.getD (107 : Int).toNat [] = [83, 80, 65, 67, 69] := by kernel_rfl
 rw [doS_deed (by decide) (by decide), hk, hn, ds_107]
 refine do_deed v 107 0 227 [.row [fnP 142 [.row [str [32]]]]] _ (by decide) (by decide) (by have := hv.d; omega) hv.data (by decide) (by simp) (by rw [hn]; exact found_pr 107 _ _ _ _ (by decide) (by simp) rfl rfl rfl rfl) (by unfold pPrint; split <;> simp) (fun hk H i hi => ?_)
 have hx := hv.x hk
 generalize v.d.drop (v.d.length - 0) = x at hx ⊢
 exact ⟨⟨_, Tryz.func227, rfl, rfl⟩, d_puts 142 [.row [str [32]]] v x ([32], 0) hv.out1 hv.out (by simp) (by simp) (fun H => ⟨⟨_, Tryz.func142, rfl, rfl⟩, d_text [32] v x H⟩) H i hi⟩
theorem ds_108 (v : VVm) (x : List Int) : doneS v 108 [83, 80, 65, 67, 69, 83] x = pPrint v (pSpaces v x, 0) := by kernel_rfl
theorem do_108 (v : VVm) (hv : VmOk v) : PureC Tryz.prog 14 [eVm v, i64 108] (tVm (doS v 108)) := by
 have hk : takesS 108 (names.getD (108 : Int).toNat []) = 1 := by kernel_rfl
 have hn : names.getD (108 : Int).toNat [] = [83, 80, 65, 67, 69, 83] := by kernel_rfl
 rw [doS_deed (by decide) (by decide), hk, hn, ds_108]
 refine do_deed v 108 1 227 [.row [fnP 144 []]] _ (by decide) (by decide) (by have := hv.d; omega) hv.data (by decide) (by simp) (by rw [hn]; exact found_pr 108 _ _ _ _ (by decide) (by simp) rfl rfl rfl rfl) (by unfold pPrint; split <;> simp) (fun hk H i hi => ?_)
 have hx := hv.x hk
 generalize v.d.drop (v.d.length - 1) = x at hx ⊢
 exact ⟨⟨_, Tryz.func227, rfl, rfl⟩, d_puts 144 [] v x (pSpaces v x, 0) hv.out1 hv.out (by have := hv.out2; simp only [pSpaces, List.length_replicate]; omega) (by simp) (fun H => ⟨⟨_, Tryz.func144, rfl, rfl⟩, pr_4 v x hv.out2 hx H⟩) H i hi⟩
theorem ds_109 (v : VVm) (x : List Int) : doneS v 109 [84, 89, 80, 69] x = pPrint v (memText v.mem (xat x 0) (xat x 1)) := by kernel_rfl
theorem do_109 (v : VVm) (hv : VmOk v) : PureC Tryz.prog 14 [eVm v, i64 109] (tVm (doS v 109)) := by
 have hk : takesS 109 (names.getD (109 : Int).toNat []) = 2 := by kernel_rfl
 have hn : names.getD (109 : Int).toNat [] = [84, 89, 80, 69] := by kernel_rfl
 rw [doS_deed (by decide) (by decide), hk, hn, ds_109]
 refine do_deed v 109 2 227 [.row [fnP 146 []]] _ (by decide) (by decide) (by have := hv.d; omega) hv.data (by decide) (by simp) (by rw [hn]; exact found_pr 109 _ _ _ _ (by decide) (by simp) rfl rfl rfl rfl) (by unfold pPrint; split <;> simp) (fun hk H i hi => ?_)
 have hx := hv.x hk
 generalize v.d.drop (v.d.length - 2) = x at hx ⊢
 exact ⟨⟨_, Tryz.func227, rfl, rfl⟩, d_puts 146 [] v x (memText v.mem (xat x 0) (xat x 1)) hv.out1 hv.out (by have := memText_len2 v.mem (xat x 0) (xat x 1); have := hv.mem.b; omega) (by simp) (fun H => ⟨⟨_, Tryz.func146, rfl, rfl⟩, pr_5 v x hv.mem hx H⟩) H i hi⟩
theorem ds_110 (v : VVm) (x : List Int) : doneS v 110 [46] x = pPrint v (pDot (showS (xat x 0) (baseS v))) := by kernel_rfl
theorem do_110 (v : VVm) (hv : VmOk v) : PureC Tryz.prog 14 [eVm v, i64 110] (tVm (doS v 110)) := by
 have hk : takesS 110 (names.getD (110 : Int).toNat []) = 1 := by kernel_rfl
 have hn : names.getD (110 : Int).toNat [] = [46] := by kernel_rfl
 rw [doS_deed (by decide) (by decide), hk, hn, ds_110]
 refine do_deed v 110 1 227 [.row [fnP 139 [.row [fnP 148 []]]]] _ (by decide) (by decide) (by have := hv.d; omega) hv.data (by decide) (by simp) (by rw [hn]; exact found_pr 110 _ _ _ _ (by decide) (by simp) rfl rfl rfl rfl) (by unfold pPrint; split <;> simp) (fun hk H i hi => ?_)
 have hx := hv.x hk
 generalize v.d.drop (v.d.length - 1) = x at hx ⊢
 exact ⟨⟨_, Tryz.func227, rfl, rfl⟩, d_puts 139 [.row [fnP 148 []]] v x (pDot (showS (xat x 0) (baseS v))) hv.out1 hv.out (by have := showS_len (xat x 0) (baseS v); simp only [pDot, List.length_append, List.length_singleton]; omega) (by simp) (fun H => ⟨⟨_, Tryz.func139, rfl, rfl⟩, d_number 148 [] v x (showS (xat x 0) (baseS v)) hx.len (memOk_len hv.mem) (by have := showS_len (xat x 0) (baseS v); omega) (by simp) (fun H => ⟨⟨_, Tryz.func148, rfl, rfl⟩, k_Show _ _ (hx.fit 0) H⟩) H⟩) H i hi⟩
theorem ds_111 (v : VVm) (x : List Int) : doneS v 111 [85, 46] x = pPrint v (pDot (ushowS (xat x 0) (baseS v))) := by kernel_rfl
theorem do_111 (v : VVm) (hv : VmOk v) : PureC Tryz.prog 14 [eVm v, i64 111] (tVm (doS v 111)) := by
 have hk : takesS 111 (names.getD (111 : Int).toNat []) = 1 := by kernel_rfl
 have hn : names.getD (111 : Int).toNat [] = [85, 46] := by kernel_rfl
 rw [doS_deed (by decide) (by decide), hk, hn, ds_111]
 refine do_deed v 111 1 227 [.row [fnP 139 [.row [fnP 149 []]]]] _ (by decide) (by decide) (by have := hv.d; omega) hv.data (by decide) (by simp) (by rw [hn]; exact found_pr 111 _ _ _ _ (by decide) (by simp) rfl rfl rfl rfl) (by unfold pPrint; split <;> simp) (fun hk H i hi => ?_)
 have hx := hv.x hk
 generalize v.d.drop (v.d.length - 1) = x at hx ⊢
 exact ⟨⟨_, Tryz.func227, rfl, rfl⟩, d_puts 139 [.row [fnP 149 []]] v x (pDot (ushowS (xat x 0) (baseS v))) hv.out1 hv.out (by have := ushowS_len (xat x 0) (baseS v); simp only [pDot, List.length_append, List.length_singleton]; omega) (by simp) (fun H => ⟨⟨_, Tryz.func139, rfl, rfl⟩, d_number 149 [] v x (ushowS (xat x 0) (baseS v)) hx.len (memOk_len hv.mem) (by have := ushowS_len (xat x 0) (baseS v); omega) (by simp) (fun H => ⟨⟨_, Tryz.func149, rfl, rfl⟩, k_UShow _ _ (hx.fit 0) H⟩) H⟩) H i hi⟩
theorem ds_112 (v : VVm) (x : List Int) : doneS v 112 [60, 35] x = (withP v ⟨[], true⟩, [], 0) := by kernel_rfl
theorem do_112 (v : VVm) (hv : VmOk v) : PureC Tryz.prog 14 [eVm v, i64 112] (tVm (doS v 112)) := by
 have hk : takesS 112 (names.getD (112 : Int).toNat []) = 0 := by kernel_rfl
 have hn : names.getD (112 : Int).toNat [] = [60, 35] := by kernel_rfl
 rw [doS_deed (by decide) (by decide), hk, hn, ds_112]
 refine do_deed v 112 0 152 [] _ (by decide) (by decide) (by have := hv.d; omega) hv.data (by decide) (by simp) (by rw [hn]; exact found_pi 112 _ _ _ _ (by decide) (by simp) rfl rfl rfl rfl rfl) (by (show List.length _ ≤ _; simp [pFetch, pFetchB, pPut, pLay, pPic, pDig, pAll, pCount, pDivMod, pStarMod, pStar, pUM, pM, pUMod, pSRem, pFMod, pSD, pWithin, pBodyP])) (fun hk H i hi => ?_)
 have hx := hv.x hk
 generalize v.d.drop (v.d.length - 0) = x at hx ⊢
 exact ⟨⟨_, Tryz.func152, rfl, rfl⟩, pi_2 v x H i hi⟩
theorem ds_113 (v : VVm) (x : List Int) : doneS v 113 [35] x = pDig v x := by kernel_rfl
theorem do_113 (v : VVm) (hv : VmOk v) : PureC Tryz.prog 14 [eVm v, i64 113] (tVm (doS v 113)) := by
 have hk : takesS 113 (names.getD (113 : Int).toNat []) = 2 := by kernel_rfl
 have hn : names.getD (113 : Int).toNat [] = [35] := by kernel_rfl
 rw [doS_deed (by decide) (by decide), hk, hn, ds_113]
 refine do_deed v 113 2 154 [] _ (by decide) (by decide) (by have := hv.d; omega) hv.data (by decide) (by simp) (by rw [hn]; exact found_pi 113 _ _ _ _ (by decide) (by simp) rfl rfl rfl rfl rfl) (by (show List.length _ ≤ _; simp [pFetch, pFetchB, pPut, pLay, pPic, pDig, pAll, pCount, pDivMod, pStarMod, pStar, pUM, pM, pUMod, pSRem, pFMod, pSD, pWithin, pBodyP])) (fun hk H i hi => ?_)
 have hx := hv.x hk
 generalize v.d.drop (v.d.length - 2) = x at hx ⊢
 exact ⟨⟨_, Tryz.func154, rfl, rfl⟩, pi_3 v x hv.pic (memOk_len hv.mem) hx H i hi⟩
theorem ds_114 (v : VVm) (x : List Int) : doneS v 114 [35, 83] x = pAll v x := by kernel_rfl
theorem do_114 (v : VVm) (hv : VmOk v) : PureC Tryz.prog 14 [eVm v, i64 114] (tVm (doS v 114)) := by
 have hk : takesS 114 (names.getD (114 : Int).toNat []) = 2 := by kernel_rfl
 have hn : names.getD (114 : Int).toNat [] = [35, 83] := by kernel_rfl
 rw [doS_deed (by decide) (by decide), hk, hn, ds_114]
 refine do_deed v 114 2 156 [] _ (by decide) (by decide) (by have := hv.d; omega) hv.data (by decide) (by simp) (by rw [hn]; exact found_pi 114 _ _ _ _ (by decide) (by simp) rfl rfl rfl rfl rfl) (by (show List.length _ ≤ _; simp [pFetch, pFetchB, pPut, pLay, pPic, pDig, pAll, pCount, pDivMod, pStarMod, pStar, pUM, pM, pUMod, pSRem, pFMod, pSD, pWithin, pBodyP])) (fun hk H i hi => ?_)
 have hx := hv.x hk
 generalize v.d.drop (v.d.length - 2) = x at hx ⊢
 exact ⟨⟨_, Tryz.func156, rfl, rfl⟩, pi_4 v x hv.pic (memOk_len hv.mem) hx H i hi⟩
theorem ds_115 (v : VVm) (x : List Int) : doneS v 115 [72, 79, 76, 68] x = pPic v (picHold v.pic (xat x 0)) := by kernel_rfl
theorem do_115 (v : VVm) (hv : VmOk v) : PureC Tryz.prog 14 [eVm v, i64 115] (tVm (doS v 115)) := by
 have hk : takesS 115 (names.getD (115 : Int).toNat []) = 1 := by kernel_rfl
 have hn : names.getD (115 : Int).toNat [] = [72, 79, 76, 68] := by kernel_rfl
 rw [doS_deed (by decide) (by decide), hk, hn, ds_115]
 refine do_deed v 115 1 151 [.row [fnP 158 []]] _ (by decide) (by decide) (by have := hv.d; omega) hv.data (by decide) (by simp) (by rw [hn]; exact found_pi 115 _ _ _ _ (by decide) (by simp) rfl rfl rfl rfl rfl) (by (show List.length _ ≤ _; simp [pFetch, pFetchB, pPut, pLay, pPic, pDig, pAll, pCount, pDivMod, pStarMod, pStar, pUM, pM, pUMod, pSRem, pFMod, pSD, pWithin, pBodyP])) (fun hk H i hi => ?_)
 have hx := hv.x hk
 generalize v.d.drop (v.d.length - 1) = x at hx ⊢
 exact ⟨⟨_, Tryz.func151, rfl, rfl⟩, d_lay 158 [] v x _ hx.len (by simp) (fun H => ⟨⟨_, Tryz.func158, rfl, rfl⟩, pic_Hold v.pic _ hv.pic H⟩) H i hi⟩
theorem ds_116 (v : VVm) (x : List Int) : doneS v 116 [83, 73, 71, 78] x = pPic v (picSign v.pic (xat x 0)) := by kernel_rfl
theorem do_116 (v : VVm) (hv : VmOk v) : PureC Tryz.prog 14 [eVm v, i64 116] (tVm (doS v 116)) := by
 have hk : takesS 116 (names.getD (116 : Int).toNat []) = 1 := by kernel_rfl
 have hn : names.getD (116 : Int).toNat [] = [83, 73, 71, 78] := by kernel_rfl
 rw [doS_deed (by decide) (by decide), hk, hn, ds_116]
 refine do_deed v 116 1 151 [.row [fnP 159 []]] _ (by decide) (by decide) (by have := hv.d; omega) hv.data (by decide) (by simp) (by rw [hn]; exact found_pi 116 _ _ _ _ (by decide) (by simp) rfl rfl rfl rfl rfl) (by (show List.length _ ≤ _; simp [pFetch, pFetchB, pPut, pLay, pPic, pDig, pAll, pCount, pDivMod, pStarMod, pStar, pUM, pM, pUMod, pSRem, pFMod, pSD, pWithin, pBodyP])) (fun hk H i hi => ?_)
 have hx := hv.x hk
 generalize v.d.drop (v.d.length - 1) = x at hx ⊢
 exact ⟨⟨_, Tryz.func151, rfl, rfl⟩, d_lay 159 [] v x _ hx.len (by simp) (fun H => ⟨⟨_, Tryz.func159, rfl, rfl⟩, pic_Sign v.pic _ hv.pic H⟩) H i hi⟩
theorem ds_117 (v : VVm) (x : List Int) : doneS v 117 [35, 62] x = pEnd v := by kernel_rfl
theorem do_117 (v : VVm) (hv : VmOk v) : PureC Tryz.prog 14 [eVm v, i64 117] (tVm (doS v 117)) := by
 have hk : takesS 117 (names.getD (117 : Int).toNat []) = 2 := by kernel_rfl
 have hn : names.getD (117 : Int).toNat [] = [35, 62] := by kernel_rfl
 rw [doS_deed (by decide) (by decide), hk, hn, ds_117]
 refine do_deed v 117 2 160 [] _ (by decide) (by decide) (by have := hv.d; omega) hv.data (by decide) (by simp) (by rw [hn]; exact found_pi 117 _ _ _ _ (by decide) (by simp) rfl rfl rfl rfl rfl) (by unfold pEnd; split <;> simp) (fun hk H i hi => ?_)
 have hx := hv.x hk
 generalize v.d.drop (v.d.length - 2) = x at hx ⊢
 exact ⟨⟨_, Tryz.func160, rfl, rfl⟩, pi_5 v x hv.pic hv.mem H i hi⟩
theorem ds_118 (v : VVm) (x : List Int) : doneS v 118 [62, 66, 79, 68, 89] x = pBody v x := by kernel_rfl
theorem do_118 (v : VVm) (hv : VmOk v) : PureC Tryz.prog 14 [eVm v, i64 118] (tVm (doS v 118)) := by
 have hk : takesS 118 (names.getD (118 : Int).toNat []) = 1 := by kernel_rfl
 have hn : names.getD (118 : Int).toNat [] = [62, 66, 79, 68, 89] := by kernel_rfl
 rw [doS_deed (by decide) (by decide), hk, hn, ds_118]
 rw [← doR_congr (r' := (v, pBodyP v (v.d.drop (v.d.length - 1)))) (body_code v _) (body_eq v _)]
 refine do_deed v 118 1 163 [] _ (by decide) (by decide) (by have := hv.d; omega) hv.data (by decide) (by simp) (by rw [hn]; exact found_ot 118 _ _ _ _ (by decide) (by simp) rfl rfl rfl rfl rfl rfl) (by (show List.length _ ≤ _; simp [pFetch, pFetchB, pPut, pLay, pPic, pDig, pAll, pCount, pDivMod, pStarMod, pStar, pUM, pM, pUMod, pSRem, pFMod, pSD, pWithin, pBodyP])) (fun hk H i hi => ?_)
 have hx := hv.x hk
 generalize v.d.drop (v.d.length - 1) = x at hx ⊢
 exact ⟨⟨_, Tryz.func163, rfl, rfl⟩, ot_1 v x (memOk_len hv.mem) hx H i hi⟩
theorem ds_119 (v : VVm) (x : List Int) : doneS v 119 [65, 66, 79, 82, 84] x = (v, [], -1) := by kernel_rfl
theorem do_119 (v : VVm) (hv : VmOk v) : PureC Tryz.prog 14 [eVm v, i64 119] (tVm (doS v 119)) := by
 have hk : takesS 119 (names.getD (119 : Int).toNat []) = 0 := by kernel_rfl
 have hn : names.getD (119 : Int).toNat [] = [65, 66, 79, 82, 84] := by kernel_rfl
 rw [doS_deed (by decide) (by decide), hk, hn, ds_119]
 refine do_deed v 119 0 80 [.row [fnP 165 []]] _ (by decide) (by decide) (by have := hv.d; omega) hv.data (by decide) (by simp) (by rw [hn]; exact found_ot 119 _ _ _ _ (by decide) (by simp) rfl rfl rfl rfl rfl rfl) (by (show List.length _ ≤ _; simp [pFetch, pFetchB, pPut, pLay, pPic, pDig, pAll, pCount, pDivMod, pStarMod, pStar, pUM, pM, pUMod, pSRem, pFMod, pSD, pWithin, pBodyP])) (fun hk H i hi => ?_)
 have hx := hv.x hk
 generalize v.d.drop (v.d.length - 0) = x at hx ⊢
 exact ⟨⟨_, Tryz.func80, rfl, rfl⟩, d_pure 165 [] v x (v, [], -1).2 (by simp) (fun H => ⟨⟨_, Tryz.func165, rfl, rfl⟩, ot_2 x H⟩) H i hi⟩
theorem ds_120 (v : VVm) (x : List Int) : doneS v 120 [80, 79, 83, 84] x = pPost v x := by kernel_rfl
theorem do_120 (v : VVm) (hv : VmOk v) : PureC Tryz.prog 14 [eVm v, i64 120] (tVm (doS v 120)) := by
 have hk : takesS 120 (names.getD (120 : Int).toNat []) = 3 := by kernel_rfl
 have hn : names.getD (120 : Int).toNat [] = [80, 79, 83, 84] := by kernel_rfl
 rw [doS_deed (by decide) (by decide), hk, hn, ds_120]
 refine do_deed v 120 3 244 [.row [i64 1], .row [i64 3]] _ (by decide) (by decide) (by have := hv.d; omega) hv.data (by decide) (by simp) (by rw [hn]; exact found_ot 120 _ _ _ _ (by decide) (by simp) rfl rfl rfl rfl rfl rfl) (by unfold pPost; split; simp; split <;> simp) (fun hk H i hi => ?_)
 have hx := hv.x hk
 generalize v.d.drop (v.d.length - 3) = x at hx ⊢
 exact ⟨⟨_, Tryz.func244, rfl, rfl⟩, d_post v x hv.req hv.hand hx H i hi⟩
theorem ds_121 (v : VVm) (x : List Int) : doneS v 121 [65, 70, 84, 69, 82] x = pTimer 2 v x := by kernel_rfl
theorem do_121 (v : VVm) (hv : VmOk v) : PureC Tryz.prog 14 [eVm v, i64 121] (tVm (doS v 121)) := by
 have hk : takesS 121 (names.getD (121 : Int).toNat []) = 4 := by kernel_rfl
 have hn : names.getD (121 : Int).toNat [] = [65, 70, 84, 69, 82] := by kernel_rfl
 rw [doS_deed (by decide) (by decide), hk, hn, ds_121]
 refine do_deed v 121 4 244 [.row [i64 2], .row [i64 4]] _ (by decide) (by decide) (by have := hv.d; omega) hv.data (by decide) (by simp) (by rw [hn]; exact found_ot 121 _ _ _ _ (by decide) (by simp) rfl rfl rfl rfl rfl rfl) (by unfold pTimer; split; simp; split; simp; split; simp; split <;> simp) (fun hk H i hi => ?_)
 have hx := hv.x hk
 generalize v.d.drop (v.d.length - 4) = x at hx ⊢
 exact ⟨⟨_, Tryz.func244, rfl, rfl⟩, d_timer 2 (by decide) v x hv.req hv.hand hx H i hi⟩
theorem ds_122 (v : VVm) (x : List Int) : doneS v 122 [69, 86, 69, 82, 89] x = pTimer 3 v x := by kernel_rfl
theorem do_122 (v : VVm) (hv : VmOk v) : PureC Tryz.prog 14 [eVm v, i64 122] (tVm (doS v 122)) := by
 have hk : takesS 122 (names.getD (122 : Int).toNat []) = 4 := by kernel_rfl
 have hn : names.getD (122 : Int).toNat [] = [69, 86, 69, 82, 89] := by kernel_rfl
 rw [doS_deed (by decide) (by decide), hk, hn, ds_122]
 refine do_deed v 122 4 244 [.row [i64 3], .row [i64 4]] _ (by decide) (by decide) (by have := hv.d; omega) hv.data (by decide) (by simp) (by rw [hn]; exact found_ot 122 _ _ _ _ (by decide) (by simp) rfl rfl rfl rfl rfl rfl) (by unfold pTimer; split; simp; split; simp; split; simp; split <;> simp) (fun hk H i hi => ?_)
 have hx := hv.x hk
 generalize v.d.drop (v.d.length - 4) = x at hx ⊢
 exact ⟨⟨_, Tryz.func244, rfl, rfl⟩, d_timer 3 (by decide) v x hv.req hv.hand hx H i hi⟩
theorem ds_123 (v : VVm) (x : List Int) : doneS v 123 [67, 65, 78, 67, 69, 76] x = pCancel v x := by kernel_rfl
theorem do_123 (v : VVm) (hv : VmOk v) : PureC Tryz.prog 14 [eVm v, i64 123] (tVm (doS v 123)) := by
 have hk : takesS 123 (names.getD (123 : Int).toNat []) = 1 := by kernel_rfl
 have hn : names.getD (123 : Int).toNat [] = [67, 65, 78, 67, 69, 76] := by kernel_rfl
 rw [doS_deed (by decide) (by decide), hk, hn, ds_123]
 refine do_deed v 123 1 244 [.row [i64 4], .row [i64 1]] _ (by decide) (by decide) (by have := hv.d; omega) hv.data (by decide) (by simp) (by rw [hn]; exact found_ot 123 _ _ _ _ (by decide) (by simp) rfl rfl rfl rfl rfl rfl) (by unfold pCancel; split <;> simp) (fun hk H i hi => ?_)
 have hx := hv.x hk
 generalize v.d.drop (v.d.length - 1) = x at hx ⊢
 exact ⟨⟨_, Tryz.func244, rfl, rfl⟩, d_cancel v x hv.req hx H i hi⟩
theorem ds_124 (v : VVm) (x : List Int) : doneS v 124 [65, 82, 71] x = (v, [v.arg], 0) := by kernel_rfl
theorem do_124 (v : VVm) (hv : VmOk v) : PureC Tryz.prog 14 [eVm v, i64 124] (tVm (doS v 124)) := by
 have hk : takesS 124 (names.getD (124 : Int).toNat []) = 0 := by kernel_rfl
 have hn : names.getD (124 : Int).toNat [] = [65, 82, 71] := by kernel_rfl
 rw [doS_deed (by decide) (by decide), hk, hn, ds_124]
 refine do_deed v 124 0 223 [.row [fnP 167 []]] _ (by decide) (by decide) (by have := hv.d; omega) hv.data (by decide) (by simp) (by rw [hn]; exact found_ot 124 _ _ _ _ (by decide) (by simp) rfl rfl rfl rfl rfl rfl) (by (show List.length _ ≤ _; simp [pFetch, pFetchB, pPut, pLay, pPic, pDig, pAll, pCount, pDivMod, pStarMod, pStar, pUM, pM, pUMod, pSRem, pFMod, pSD, pWithin, pBodyP])) (fun hk H i hi => ?_)
 have hx := hv.x hk
 generalize v.d.drop (v.d.length - 0) = x at hx ⊢
 exact ⟨⟨_, Tryz.func223, rfl, rfl⟩, d_shown 167 [] v x _ (by simp) (fun H => ⟨⟨_, Tryz.func167, rfl, rfl⟩, ot_3 v H⟩) H i hi⟩
theorem ds_125 (v : VVm) (x : List Int) : doneS v 125 [83, 69, 76, 70] x = (v, [v.self], 0) := by kernel_rfl
theorem do_125 (v : VVm) (hv : VmOk v) : PureC Tryz.prog 14 [eVm v, i64 125] (tVm (doS v 125)) := by
 have hk : takesS 125 (names.getD (125 : Int).toNat []) = 0 := by kernel_rfl
 have hn : names.getD (125 : Int).toNat [] = [83, 69, 76, 70] := by kernel_rfl
 rw [doS_deed (by decide) (by decide), hk, hn, ds_125]
 refine do_deed v 125 0 223 [.row [fnP 168 []]] _ (by decide) (by decide) (by have := hv.d; omega) hv.data (by decide) (by simp) (by rw [hn]; exact found_ot 125 _ _ _ _ (by decide) (by simp) rfl rfl rfl rfl rfl rfl) (by (show List.length _ ≤ _; simp [pFetch, pFetchB, pPut, pLay, pPic, pDig, pAll, pCount, pDivMod, pStarMod, pStar, pUM, pM, pUMod, pSRem, pFMod, pSD, pWithin, pBodyP])) (fun hk H i hi => ?_)
 have hx := hv.x hk
 generalize v.d.drop (v.d.length - 0) = x at hx ⊢
 exact ⟨⟨_, Tryz.func223, rfl, rfl⟩, d_shown 168 [] v x _ (by simp) (fun H => ⟨⟨_, Tryz.func168, rfl, rfl⟩, ot_4 v H⟩) H i hi⟩
theorem ds_126 (v : VVm) (x : List Int) : doneS v 126 [78, 79, 87] x = (v, [v.now], 0) := by kernel_rfl
theorem do_126 (v : VVm) (hv : VmOk v) : PureC Tryz.prog 14 [eVm v, i64 126] (tVm (doS v 126)) := by
 have hk : takesS 126 (names.getD (126 : Int).toNat []) = 0 := by kernel_rfl
 have hn : names.getD (126 : Int).toNat [] = [78, 79, 87] := by kernel_rfl
 rw [doS_deed (by decide) (by decide), hk, hn, ds_126]
 refine do_deed v 126 0 223 [.row [fnP 169 []]] _ (by decide) (by decide) (by have := hv.d; omega) hv.data (by decide) (by simp) (by rw [hn]; exact found_ot 126 _ _ _ _ (by decide) (by simp) rfl rfl rfl rfl rfl rfl) (by (show List.length _ ≤ _; simp [pFetch, pFetchB, pPut, pLay, pPic, pDig, pAll, pCount, pDivMod, pStarMod, pStar, pUM, pM, pUMod, pSRem, pFMod, pSD, pWithin, pBodyP])) (fun hk H i hi => ?_)
 have hx := hv.x hk
 generalize v.d.drop (v.d.length - 0) = x at hx ⊢
 exact ⟨⟨_, Tryz.func223, rfl, rfl⟩, d_shown 169 [] v x _ (by simp) (fun H => ⟨⟨_, Tryz.func169, rfl, rfl⟩, ot_5 v H⟩) H i hi⟩
theorem ds_127 (v : VVm) (x : List Int) : doneS v 127 [83, 69, 84, 45, 83, 84, 65, 84, 69] x = pSetState v x := by kernel_rfl
theorem do_127 (v : VVm) (hv : VmOk v) : PureC Tryz.prog 14 [eVm v, i64 127] (tVm (doS v 127)) := by
 have hk : takesS 127 (names.getD (127 : Int).toNat []) = 2 := by kernel_rfl
 have hn : names.getD (127 : Int).toNat [] = [83, 69, 84, 45, 83, 84, 65, 84, 69] := by kernel_rfl
 rw [doS_deed (by decide) (by decide), hk, hn, ds_127]
 refine do_deed v 127 2 170 [] _ (by decide) (by decide) (by have := hv.d; omega) hv.data (by decide) (by simp) (by rw [hn]; exact found_ot 127 _ _ _ _ (by decide) (by simp) rfl rfl rfl rfl rfl rfl) (by unfold pSetState pPut; split <;> simp) (fun hk H i hi => ?_)
 have hx := hv.x hk
 generalize v.d.drop (v.d.length - 2) = x at hx ⊢
 exact ⟨⟨_, Tryz.func170, rfl, rfl⟩, ot_6 v x hv.mem hx H i hi⟩
theorem ds_128 (v : VVm) (x : List Int) : doneS v 128 [65, 84, 45, 83, 84, 65, 84, 69] x = pAtState v x := by kernel_rfl
theorem do_128 (v : VVm) (hv : VmOk v) : PureC Tryz.prog 14 [eVm v, i64 128] (tVm (doS v 128)) := by
 have hk : takesS 128 (names.getD (128 : Int).toNat []) = 3 := by kernel_rfl
 have hn : names.getD (128 : Int).toNat [] = [65, 84, 45, 83, 84, 65, 84, 69] := by kernel_rfl
 rw [doS_deed (by decide) (by decide), hk, hn, ds_128]
 refine do_deed v 128 3 172 [] _ (by decide) (by decide) (by have := hv.d; omega) hv.data (by decide) (by simp) (by rw [hn]; exact found_ot 128 _ _ _ _ (by decide) (by simp) rfl rfl rfl rfl rfl rfl) (by unfold pAtState pPut; split <;> simp) (fun hk H i hi => ?_)
 have hx := hv.x hk
 generalize v.d.drop (v.d.length - 3) = x at hx ⊢
 exact ⟨⟨_, Tryz.func172, rfl, rfl⟩, ot_7 v x hv.mem hx H i hi⟩
theorem ds_129 (v : VVm) (x : List Int) : doneS v 129 [71, 69, 84, 45, 83, 84, 65, 84, 69] x = pFetch v x := by kernel_rfl
theorem do_129 (v : VVm) (hv : VmOk v) : PureC Tryz.prog 14 [eVm v, i64 129] (tVm (doS v 129)) := by
 have hk : takesS 129 (names.getD (129 : Int).toNat []) = 1 := by kernel_rfl
 have hn : names.getD (129 : Int).toNat [] = [71, 69, 84, 45, 83, 84, 65, 84, 69] := by kernel_rfl
 rw [doS_deed (by decide) (by decide), hk, hn, ds_129]
 refine do_deed v 129 1 216 [.row [fnP 105 []]] _ (by decide) (by decide) (by have := hv.d; omega) hv.data (by decide) (by simp) (by rw [hn]; exact found_ot 129 _ _ _ _ (by decide) (by simp) rfl rfl rfl rfl rfl rfl) (by (show List.length _ ≤ _; simp [pFetch, pFetchB, pPut, pLay, pPic, pDig, pAll, pCount, pDivMod, pStarMod, pStar, pUM, pM, pUMod, pSRem, pFMod, pSD, pWithin, pBodyP])) (fun hk H i hi => ?_)
 have hx := hv.x hk
 generalize v.d.drop (v.d.length - 1) = x at hx ⊢
 exact ⟨⟨_, Tryz.func216, rfl, rfl⟩, d_fetches 105 [] v x _ hx.len (by simp) (fun H => ⟨⟨_, Tryz.func105, rfl, rfl⟩, (mem_Fetch v.mem _ (memOk_len hv.mem) (hx.fit 0)) H⟩) H i hi⟩
theorem shuf_mem {n : Int} (h0 : 23 ≤ n) (h1 : n ≤ 38) : names.getD n.toNat [] ∈ shufNames := by
 have : n = 23 ∨ n = 24 ∨ n = 25 ∨ n = 26 ∨ n = 27 ∨ n = 28 ∨ n = 29 ∨ n = 30 ∨ n = 31 ∨ n = 32 ∨ n = 33 ∨ n = 34 ∨ n = 35 ∨ n = 36 ∨ n = 37 ∨ n = 38 := by omega
 rcases this with rfl | rfl | rfl | rfl | rfl | rfl | rfl | rfl | rfl | rfl | rfl | rfl | rfl | rfl | rfl | rfl <;> decide
theorem prim_Do (v : VVm) (hv : VmOk v) (n : Int) : PureC Tryz.prog 14 [eVm v, i64 n] (tVm (doS v n)) := by
 by_cases h : 23 ≤ n ∧ n ≤ 129
 ·by_cases h1 : n ≤ 38
  ·have hs : names.getD n.toNat [] ∈ shufNames := shuf_mem h.1 h1
   have e : doS v n = ({ v with d := (shuffleS (names.getD n.toNat []) v.d v.conf.data).1 }, (shuffleS (names.getD n.toNat []) v.d v.conf.data).2.2) := by
    unfold doS; rw [if_neg (by omega)]; simp only; rw [if_pos h1]
   rw [e]
   exact do_shuffle v n h.1 h1 hs (by have := hv.d; omega) hv.data
  ·by_cases h2 : n ≤ 58
   ·exact do_two v hv n (by omega) h2
   ·by_cases h3 : n ≤ 72
    ·exact do_one v hv n (by omega) h3
    ·have : n = 73 ∨ n = 74 ∨ n = 75 ∨ n = 76 ∨ n = 77 ∨ n = 78 ∨ n = 79 ∨ n = 80 ∨ n = 81 ∨ n = 82 ∨ n = 83 ∨ n = 84 ∨ n = 85 ∨ n = 86 ∨ n = 87 ∨ n = 88 ∨ n = 89 ∨ n = 90 ∨ n = 91 ∨ n = 92 ∨ n = 93 ∨ n = 94 ∨ n = 95 ∨ n = 96 ∨ n = 97 ∨ n = 98 ∨ n = 99 ∨ n = 100 ∨ n = 101 ∨ n = 102 ∨ n = 103 ∨ n = 104 ∨ n = 105 ∨ n = 106 ∨ n = 107 ∨ n = 108 ∨ n = 109 ∨ n = 110 ∨ n = 111 ∨ n = 112 ∨ n = 113 ∨ n = 114 ∨ n = 115 ∨ n = 116 ∨ n = 117 ∨ n = 118 ∨ n = 119 ∨ n = 120 ∨ n = 121 ∨ n = 122 ∨ n = 123 ∨ n = 124 ∨ n = 125 ∨ n = 126 ∨ n = 127 ∨ n = 128 ∨ n = 129 := by omega
     rcases this with rfl | rfl | rfl | rfl | rfl | rfl | rfl | rfl | rfl | rfl | rfl | rfl | rfl | rfl | rfl | rfl | rfl | rfl | rfl | rfl | rfl | rfl | rfl | rfl | rfl | rfl | rfl | rfl | rfl | rfl | rfl | rfl | rfl | rfl | rfl | rfl | rfl | rfl | rfl | rfl | rfl | rfl | rfl | rfl | rfl | rfl | rfl | rfl | rfl | rfl | rfl | rfl | rfl | rfl | rfl | rfl | rfl
     ·exact do_73 v hv
     ·exact do_74 v hv
     ·exact do_75 v hv
     ·exact do_76 v hv
     ·exact do_77 v hv
     ·exact do_78 v hv
     ·exact do_79 v hv
     ·exact do_80 v hv
     ·exact do_81 v hv
     ·exact do_82 v hv
     ·exact do_83 v hv
     ·exact do_84 v hv
     ·exact do_85 v hv
     ·exact do_86 v hv
     ·exact do_87 v hv
     ·exact do_88 v hv
     ·exact do_89 v hv
     ·exact do_90 v hv
     ·exact do_91 v hv
     ·exact do_92 v hv
     ·exact do_93 v hv
     ·exact do_94 v hv
     ·exact do_95 v hv
     ·exact do_96 v hv
     ·exact do_97 v hv
     ·exact do_98 v hv
     ·exact do_99 v hv
     ·exact do_100 v hv
     ·exact do_101 v hv
     ·exact do_102 v hv
     ·exact do_103 v hv
     ·exact do_104 v hv
     ·exact do_105 v hv
     ·exact do_106 v hv
     ·exact do_107 v hv
     ·exact do_108 v hv
     ·exact do_109 v hv
     ·exact do_110 v hv
     ·exact do_111 v hv
     ·exact do_112 v hv
     ·exact do_113 v hv
     ·exact do_114 v hv
     ·exact do_115 v hv
     ·exact do_116 v hv
     ·exact do_117 v hv
     ·exact do_118 v hv
     ·exact do_119 v hv
     ·exact do_120 v hv
     ·exact do_121 v hv
     ·exact do_122 v hv
     ·exact do_123 v hv
     ·exact do_124 v hv
     ·exact do_125 v hv
     ·exact do_126 v hv
     ·exact do_127 v hv
     ·exact do_128 v hv
     ·exact do_129 v hv
 ·have e : doS v n = (v, -24) := by unfold doS; rw [if_pos (by omega)]
  rw [e]; exact do_bad v n h
end Go.Proofs.YtphgdofmjpdhaaaGreat
namespace Go.Proofs.YtphgdofmjpdhaaaGreat
open Go.RowKit
set_option maxRecDepth 100000
set_option maxHeartbeats 4000000
def reqVs (x : VReq) : List Value := [.int .i64 x.kind, .int .i64 x.arg, .int .i64 x.hand, .int .i64 x.rank, .int .i64 x.delay, .int .i64 x.id]
theorem req_eq {x y : VReq} (h : eqVs (reqVs x) (reqVs y) = true) : x = y := by cases x; cases y; simp [reqVs, eqVs, eqV] at h; simp [h]
theorem req_self (x : VReq) : eqVs (reqVs x) (reqVs x) = true := by simp [reqVs, eqVs, eqV]
def handVs (x : VHand) : List Value := [.int .i64 x.xt, .int .i64 x.fuel, .int .i64 x.strikes, .bool x.out]
theorem hand_eq {x y : VHand} (h : eqVs (handVs x) (handVs y) = true) : x = y := by cases x; cases y; simp [handVs, eqVs, eqV] at h; simp [h]
theorem hand_self (x : VHand) : eqVs (handVs x) (handVs x) = true := by simp [handVs, eqVs, eqV]
def confVs (x : VConf) : List Value := [.int .i64 x.mem, .int .i64 x.data, .int .i64 x.ret, .int .i64 x.words, .int .i64 x.out]
theorem conf_eq {x y : VConf} (h : eqVs (confVs x) (confVs y) = true) : x = y := by cases x; cases y; simp [confVs, eqVs, eqV] at h; simp [h]
theorem conf_self (x : VConf) : eqVs (confVs x) (confVs x) = true := by simp [confVs, eqVs, eqV]
theorem not_f {b : Bool} (h : (!b) = false) : b = true := by cases b <;> simp_all
theorem not_t {b : Bool} (h : (!b) = true) : b = false := by cases b <;> simp_all
theorem ref_Reqs (a b : List VReq) (ha : a.length ≤ 1000000) (hb : b.length ≤ 1000000) : PureC Tryz.prog 38 [sq cReq a, sq cReq b] (boo (decide (a = b))) := by
 refine pW tG (rs := [.tmp 4]) Tryz.func38 rfl rfl rfl (by simp) (by simp) (fun B => ?_)
 refine zu1 ?_
 refine Ws ?_
 refine zu5 ?_
 refine Wi rfl (fun hi1 => ?_) (fun hi1 => ?_)
 ·have hne : a ≠ b := fun h => by subst h; simp at hi1
  refine zu1 ?_
  refine zR ?_
  exact congrArg boo (decide_eq_false hne).symm
 ·have hl : a.length = b.length := by (try simp only [dnL] at *); omega
  refine Wj ?_
  refine Ws ?_
  refine zu1 ?_
  refine Wl ?_
  show W _ _ _ _ _ _ _
  refine W_loopS (fun (k : Nat) => [(0, sq cReq a), (1, sq cReq b), (5, i64 k)]) (fun (k : Nat) => []) (fun (k : Nat) => []) (fun (k : Nat) => k ≤ a.length ∧ a.take k = b.take k) (fun (k : Nat) => a.length - k) (0) (by simp) [] ?_ ?_
  ·exact fitT
  ·intro k hk
   refine Ws ?_
   refine zu4 ?_
   refine Wi rfl (fun hi2 => ?_) (fun hi2 => ?_)
   ·have hlt : k < a.length := by have := oT hi2; omega
    refine Wj ?_
    refine Ws ?_
    refine Wl ?_
    refine Ws ?_
    refine W_drawU [0, 0, 0, 1, 0, 0, 0, 1, 0] [0, 1, 2, 3, 4, 5, 6, 7, 8] mG rfl (by kernel_rfl) ?_
    iterate 2 refine z3 ?_
    refine Xi tG rfl rfl rfl rfl (fun _ => rfl) (by omega) (iN cReq 6 (fun _ => rfl) default (by omega)) ?_
    refine z5 ?_
    iterate 2 refine z3 ?_
    refine Xi tG rfl rfl rfl rfl (fun _ => rfl) (by omega) (iN cReq 6 (fun _ => rfl) default (by omega)) ?_
    refine z5 ?_
    refine WU_does0 rfl rfl rfl rfl (fun _ => does_struct_neq rfl rfl rfl rfl rfl (by kernel_rfl)) ?_
    refine WU_nil ?_
    refine Wi rfl (fun hi3 => ?_) (fun hi3 => ?_)
    ·have hne : a ≠ b := fun h => by have h1 := not_t hi3; rw [h] at h1; exact absurd ((req_self _).symm.trans h1) (by simp)
     refine zu1 ?_
     refine zR ?_
     exact congrArg boo (decide_eq_false hne).symm
    ·have he : a.getD k default = b.getD k default := req_eq (not_f hi3)
     refine Wj ?_
     refine W_region rfl ?_
     refine zs3 ?_
     exact ⟨k + 1, [], (by exact ⟨by omega, take_same default hl hlt hk.2 he⟩), (by omega), fitT⟩
   ·have hge : a.length ≤ k := by have := oF hi2; omega
    refine W_exit ?_
    refine zu1 ?_
    refine zR ?_
    exact congrArg boo (decide_eq_true (by have h1 := hk.2; rw [take_all' a k hge, take_all' b k (by omega)] at h1; exact h1)).symm
theorem ref_Hands (a b : List VHand) (ha : a.length ≤ 1000000) (hb : b.length ≤ 1000000) : PureC Tryz.prog 39 [sq cHand a, sq cHand b] (boo (decide (a = b))) := by
 refine pW tG (rs := [.tmp 4]) Tryz.func39 rfl rfl rfl (by simp) (by simp) (fun B => ?_)
 refine zu1 ?_
 refine Ws ?_
 refine zu5 ?_
 refine Wi rfl (fun hi1 => ?_) (fun hi1 => ?_)
 ·have hne : a ≠ b := fun h => by subst h; simp at hi1
  refine zu1 ?_
  refine zR ?_
  exact congrArg boo (decide_eq_false hne).symm
 ·have hl : a.length = b.length := by (try simp only [dnL] at *); omega
  refine Wj ?_
  refine Ws ?_
  refine zu1 ?_
  refine Wl ?_
  show W _ _ _ _ _ _ _
  refine W_loopS (fun (k : Nat) => [(0, sq cHand a), (1, sq cHand b), (5, i64 k)]) (fun (k : Nat) => []) (fun (k : Nat) => []) (fun (k : Nat) => k ≤ a.length ∧ a.take k = b.take k) (fun (k : Nat) => a.length - k) (0) (by simp) [] ?_ ?_
  ·exact fitT
  ·intro k hk
   refine Ws ?_
   refine zu4 ?_
   refine Wi rfl (fun hi2 => ?_) (fun hi2 => ?_)
   ·have hlt : k < a.length := by have := oT hi2; omega
    refine Wj ?_
    refine Ws ?_
    refine Wl ?_
    refine Ws ?_
    refine W_drawU [0, 0, 0, 1, 0, 0, 0, 1, 0] [0, 1, 2, 3, 4, 5, 6, 7, 8] mG rfl (by kernel_rfl) ?_
    iterate 2 refine z3 ?_
    refine Xi tG rfl rfl rfl rfl (fun _ => rfl) (by omega) (iN cHand 4 (fun _ => rfl) default (by omega)) ?_
    refine z5 ?_
    iterate 2 refine z3 ?_
    refine Xi tG rfl rfl rfl rfl (fun _ => rfl) (by omega) (iN cHand 4 (fun _ => rfl) default (by omega)) ?_
    refine z5 ?_
    refine WU_does0 rfl rfl rfl rfl (fun _ => does_struct_neq rfl rfl rfl rfl rfl (by kernel_rfl)) ?_
    refine WU_nil ?_
    refine Wi rfl (fun hi3 => ?_) (fun hi3 => ?_)
    ·have hne : a ≠ b := fun h => by have h1 := not_t hi3; rw [h] at h1; exact absurd ((hand_self _).symm.trans h1) (by simp)
     refine zu1 ?_
     refine zR ?_
     exact congrArg boo (decide_eq_false hne).symm
    ·have he : a.getD k default = b.getD k default := hand_eq (not_f hi3)
     refine Wj ?_
     refine W_region rfl ?_
     refine zs3 ?_
     exact ⟨k + 1, [], (by exact ⟨by omega, take_same default hl hlt hk.2 he⟩), (by omega), fitT⟩
   ·have hge : a.length ≤ k := by have := oF hi2; omega
    refine W_exit ?_
    refine zu1 ?_
    refine zR ?_
    exact congrArg boo (decide_eq_true (by have h1 := hk.2; rw [take_all' a k hge, take_all' b k (by omega)] at h1; exact h1)).symm
theorem word_ext {x y : VWord} (h1 : x.name = y.name) (h2 : x.xt = y.xt) (h3 : x.flags = y.flags) : x = y := by cases x; cases y; simp_all
theorem ref_Same9 (a b : List VWord) (ha : a.length ≤ 1000000) (hb : b.length ≤ 1000000) : PureC Tryz.prog 36 [sq cWord a, sq cWord b] (boo (decide (a = b))) := by
 refine pW tG (rs := [.tmp 4]) Tryz.func36 rfl rfl rfl (by simp) (by simp) (fun B => ?_)
 refine zu1 ?_
 refine Ws ?_
 refine zu5 ?_
 refine Wi rfl (fun hi1 => ?_) (fun hi1 => ?_)
 ·have hne : a ≠ b := fun h => by subst h; simp at hi1
  refine zu1 ?_
  refine zR ?_
  exact congrArg boo (decide_eq_false hne).symm
 ·have hl : a.length = b.length := by (try simp only [dnL] at *); omega
  refine Wj ?_
  refine Ws ?_
  refine zu1 ?_
  refine Wl ?_
  show W _ _ _ _ _ _ _
  refine W_loopS (fun (k : Nat) => [(0, sq cWord a), (1, sq cWord b), (5, i64 k)]) (fun (k : Nat) => []) (fun (k : Nat) => []) (fun (k : Nat) => k ≤ a.length ∧ a.take k = b.take k) (fun (k : Nat) => a.length - k) (0) (by simp) [] ?_ ?_
  ·exact fitT
  ·intro k hk
   refine Ws ?_
   refine zu4 ?_
   refine Wi rfl (fun hi2 => ?_) (fun hi2 => ?_)
   ·have hlt : k < a.length := by have := oT hi2; omega
    refine Wj ?_
    refine Ws ?_
    refine Wl ?_
    refine Ws ?_
    refine W_drawU [0, 0, 0, 0, 1, 0, 0, 0, 0, 1, 0, 0, 0, 0, 0, 0, 1, 0, 0, 0, 0, 1, 0, 0, 0, 0, 0, 0, 0, 1, 0, 0, 0, 0, 1, 0, 0] [0, 1, 2, 3, 4, 5, 6, 7, 8, 9, 10, 11, 12, 13, 14, 15, 16, 17, 18, 19, 20, 21, 22, 23, 24, 25, 26, 27, 28, 29, 30, 31, 32, 33, 34, 35, 36] mG rfl (by kernel_rfl) ?_
    iterate 2 refine z3 ?_
    refine Xi tG rfl rfl rfl rfl (fun _ => rfl) (by omega) (iN cWord 3 (fun _ => rfl) default (by omega)) ?_
    refine z3 ?_
    refine z5 ?_
    iterate 2 refine z3 ?_
    refine Xi tG rfl rfl rfl rfl (fun _ => rfl) (by omega) (iN cWord 3 (fun _ => rfl) default (by omega)) ?_
    refine z3 ?_
    refine z5 ?_
    refine z3 ?_
    refine Xa 27 rfl (str_neq _ _) ?_
    refine z3 ?_
    refine WU_split 28 rfl (fun hg1 => ?_) (fun hg1 => ?_)
    ·have hne : a ≠ b := fun h => by have h1 := oF (not_t hg1); rw [h] at h1; exact h1 rfl
     iterate 11 refine z7 ?_
     iterate 2 refine z3 ?_
     iterate 11 refine z7 ?_
     refine z3 ?_
     refine WU_nil ?_
     refine Wt rfl rfl ?_
     refine zu1 ?_
     refine zR ?_
     exact congrArg boo (decide_eq_false hne).symm
    ·have h1 : (a.getD k default).name = (b.getD k default).name := oT (not_f hg1)
     iterate 2 refine z3 ?_
     refine Xi tG rfl rfl rfl rfl (fun _ => rfl) (by omega) (iN cWord 3 (fun _ => rfl) default (by omega)) ?_
     refine z3 ?_
     refine z5 ?_
     iterate 2 refine z3 ?_
     refine Xi tG rfl rfl rfl rfl (fun _ => rfl) (by omega) (iN cWord 3 (fun _ => rfl) default (by omega)) ?_
     refine z3 ?_
     refine z5 ?_
     iterate 3 refine z3 ?_
     refine WU_split 41 rfl (fun hg2 => ?_) (fun hg2 => ?_)
     ·have hne : a ≠ b := fun h => by have h1 := bne_iff_ne.1 hg2; rw [h] at h1; exact h1 rfl
      iterate 11 refine z7 ?_
      refine z3 ?_
      refine WU_nil ?_
      refine Wt rfl rfl ?_
      refine zu1 ?_
      refine zR ?_
      exact congrArg boo (decide_eq_false hne).symm
     ·have h2 : (a.getD k default).xt = (b.getD k default).xt := bne_eq_false_iff_eq.1 hg2
      iterate 2 refine z3 ?_
      refine Xi tG rfl rfl rfl rfl (fun _ => rfl) (by omega) (iN cWord 3 (fun _ => rfl) default (by omega)) ?_
      refine z3 ?_
      refine z5 ?_
      iterate 2 refine z3 ?_
      refine Xi tG rfl rfl rfl rfl (fun _ => rfl) (by omega) (iN cWord 3 (fun _ => rfl) default (by omega)) ?_
      refine z3 ?_
      refine z5 ?_
      iterate 2 refine z3 ?_
      refine WU_nil ?_
      refine Wi rfl (fun hi3 => ?_) (fun hi3 => ?_)
      ·have hne : a ≠ b := fun h => by have h1 := bne_iff_ne.1 hi3; rw [h] at h1; exact h1 rfl
       refine zu1 ?_
       refine zR ?_
       exact congrArg boo (decide_eq_false hne).symm
      ·have he : a.getD k default = b.getD k default := word_ext h1 h2 (bne_eq_false_iff_eq.1 hi3)
       refine Wj ?_
       refine W_region rfl ?_
       refine zs3 ?_
       exact ⟨k + 1, [], (by exact ⟨by omega, take_same default hl hlt hk.2 he⟩), (by omega), fitT⟩
   ·have hge : a.length ≤ k := by have := oF hi2; omega
    refine W_exit ?_
    refine zu1 ?_
    refine zR ?_
    exact congrArg boo (decide_eq_true (by have h1 := hk.2; rw [take_all' a k hge, take_all' b k (by omega)] at h1; exact h1)).symm
structure VSm (v : VVm) : Prop where
 old : v.mem.old.length ≤ 1000000
 d : v.d.length ≤ 1000000
 r : v.r.length ≤ 1000000
 f : v.f.length ≤ 1000000
 dict : v.dict.length ≤ 1000000
 req : v.req.length ≤ 1000000
 hand : v.hand.length ≤ 1000000
theorem vm_ext {a b : VVm} (h1 : a.conf = b.conf) (h2 : a.mem = b.mem) (h3 : a.here = b.here) (h4 : a.d = b.d) (h5 : a.r = b.r) (h6 : a.f = b.f) (h7 : a.dict = b.dict) (h8 : a.last = b.last) (h9 : a.out = b.out) (h10 : a.pic = b.pic) (h11 : a.req = b.req) (h12 : a.free = b.free) (h13 : a.next = b.next) (h14 : a.arg = b.arg) (h15 : a.self = b.self) (h16 : a.now = b.now) (h17 : a.hand = b.hand) : a = b := by
 cases a; cases b; simp only [VVm.mk.injEq]; exact ⟨h1, h2, h3, h4, h5, h6, h7, h8, h9, h10, h11, h12, h13, h14, h15, h16, h17⟩
theorem ref_Same10 (a b : VVm) (ha : VSm a) (hb : VSm b) : PureC Tryz.prog 18 [eVm a, eVm b] (boo (decide (a = b))) := by
 refine pW tG (rs := [.tmp 4]) Tryz.func18 rfl rfl rfl (by simp) (by simp) (fun B => ?_)
 refine zu3 ?_
 refine zp4 ?_
 refine Wc rfl rfl (dC rfl Tryz.func34 rfl rfl ((ref_Same3 a.mem b.mem ha.old hb.old) _)) ?_
 refine zs1 ?_
 refine zp4 ?_
 refine Wc rfl rfl (dC rfl Tryz.func23 rfl rfl ((ref_Same4 a.d b.d ha.d hb.d) _)) ?_
 refine zs1 ?_
 refine zp4 ?_
 refine Wc rfl rfl (dC rfl Tryz.func23 rfl rfl ((ref_Same4 a.r b.r ha.r hb.r) _)) ?_
 refine zs1 ?_
 refine zp4 ?_
 refine Wc rfl rfl (dC rfl Tryz.func35 rfl rfl ((ref_frames a.f b.f ha.f hb.f) _)) ?_
 refine zs1 ?_
 refine zp4 ?_
 refine Wc rfl rfl (dC rfl Tryz.func36 rfl rfl ((ref_Same9 a.dict b.dict ha.dict hb.dict) _)) ?_
 refine zs1 ?_
 refine zp4 ?_
 refine Wc rfl rfl (dC rfl Tryz.func37 rfl rfl ((ref_Same7 a.pic b.pic) _)) ?_
 refine zs1 ?_
 refine zp4 ?_
 refine Wc rfl rfl (dC rfl Tryz.func38 rfl rfl ((ref_Reqs a.req b.req ha.req hb.req) _)) ?_
 refine zs1 ?_
 refine zp4 ?_
 refine Wc rfl rfl (dC rfl Tryz.func39 rfl rfl ((ref_Hands a.hand b.hand ha.hand hb.hand) _)) ?_
 refine zs1 ?_
 refine Ws ?_
 refine zp3 ?_
 refine Wb 55 rfl (fun hg1 => ?_) (fun hg1 => ?_)
 ·have hne : a ≠ b := fun h => oF (not_t hg1) (by rw [h])
  iterate 2 refine z6 ?_
  refine zy2 ?_
  iterate 2 refine z6 ?_
  refine zy2 ?_
  iterate 2 refine z6 ?_
  refine zy2 ?_
  iterate 2 refine z6 ?_
  refine zy2 ?_
  iterate 2 refine z6 ?_
  refine zy2 ?_
  iterate 2 refine z6 ?_
  refine zy2 ?_
  iterate 2 refine z6 ?_
  refine zy2 ?_
  iterate 5 refine z6 ?_
  refine zy2 ?_
  iterate 7 refine z6 ?_
  refine zs1 ?_
  refine Wt rfl rfl ?_
  refine zu1 ?_
  refine zR ?_
  exact congrArg boo (decide_eq_false hne).symm
 ·have h1 := oT (not_f hg1)
  refine zy4 ?_
  refine Wb 59 rfl (fun hg2 => ?_) (fun hg2 => ?_)
  ·have hne : a ≠ b := fun h => oF (not_t hg2) (by rw [h])
   iterate 2 refine z6 ?_
   refine zy2 ?_
   iterate 2 refine z6 ?_
   refine zy2 ?_
   iterate 2 refine z6 ?_
   refine zy2 ?_
   iterate 2 refine z6 ?_
   refine zy2 ?_
   iterate 2 refine z6 ?_
   refine zy2 ?_
   iterate 2 refine z6 ?_
   refine zy2 ?_
   iterate 5 refine z6 ?_
   refine zy2 ?_
   iterate 7 refine z6 ?_
   refine zs1 ?_
   refine Wt rfl rfl ?_
   refine zu1 ?_
   refine zR ?_
   exact congrArg boo (decide_eq_false hne).symm
  ·have h2 := oT (not_f hg2)
   refine zy4 ?_
   refine Wb 63 rfl (fun hg3 => ?_) (fun hg3 => ?_)
   ·have hne : a ≠ b := fun h => oF (not_t hg3) (by rw [h])
    iterate 2 refine z6 ?_
    refine zy2 ?_
    iterate 2 refine z6 ?_
    refine zy2 ?_
    iterate 2 refine z6 ?_
    refine zy2 ?_
    iterate 2 refine z6 ?_
    refine zy2 ?_
    iterate 2 refine z6 ?_
    refine zy2 ?_
    iterate 5 refine z6 ?_
    refine zy2 ?_
    iterate 7 refine z6 ?_
    refine zs1 ?_
    refine Wt rfl rfl ?_
    refine zu1 ?_
    refine zR ?_
    exact congrArg boo (decide_eq_false hne).symm
   ·have h3 := oT (not_f hg3)
    refine zy4 ?_
    refine Wb 67 rfl (fun hg4 => ?_) (fun hg4 => ?_)
    ·have hne : a ≠ b := fun h => oF (not_t hg4) (by rw [h])
     iterate 2 refine z6 ?_
     refine zy2 ?_
     iterate 2 refine z6 ?_
     refine zy2 ?_
     iterate 2 refine z6 ?_
     refine zy2 ?_
     iterate 2 refine z6 ?_
     refine zy2 ?_
     iterate 5 refine z6 ?_
     refine zy2 ?_
     iterate 7 refine z6 ?_
     refine zs1 ?_
     refine Wt rfl rfl ?_
     refine zu1 ?_
     refine zR ?_
     exact congrArg boo (decide_eq_false hne).symm
    ·have h4 := oT (not_f hg4)
     refine zy4 ?_
     refine Wb 71 rfl (fun hg5 => ?_) (fun hg5 => ?_)
     ·have hne : a ≠ b := fun h => oF (not_t hg5) (by rw [h])
      iterate 2 refine z6 ?_
      refine zy2 ?_
      iterate 2 refine z6 ?_
      refine zy2 ?_
      iterate 2 refine z6 ?_
      refine zy2 ?_
      iterate 5 refine z6 ?_
      refine zy2 ?_
      iterate 7 refine z6 ?_
      refine zs1 ?_
      refine Wt rfl rfl ?_
      refine zu1 ?_
      refine zR ?_
      exact congrArg boo (decide_eq_false hne).symm
     ·have h5 := oT (not_f hg5)
      refine zy4 ?_
      refine Wb 75 rfl (fun hg6 => ?_) (fun hg6 => ?_)
      ·have hne : a ≠ b := fun h => oF (not_t hg6) (by rw [h])
       iterate 2 refine z6 ?_
       refine zy2 ?_
       iterate 2 refine z6 ?_
       refine zy2 ?_
       iterate 5 refine z6 ?_
       refine zy2 ?_
       iterate 7 refine z6 ?_
       refine zs1 ?_
       refine Wt rfl rfl ?_
       refine zu1 ?_
       refine zR ?_
       exact congrArg boo (decide_eq_false hne).symm
      ·have h6 := oT (not_f hg6)
       refine zy4 ?_
       refine Wb 79 rfl (fun hg7 => ?_) (fun hg7 => ?_)
       ·have hne : a ≠ b := fun h => oF (not_t hg7) (by rw [h])
        iterate 2 refine z6 ?_
        refine zy2 ?_
        iterate 5 refine z6 ?_
        refine zy2 ?_
        iterate 7 refine z6 ?_
        refine zs1 ?_
        refine Wt rfl rfl ?_
        refine zu1 ?_
        refine zR ?_
        exact congrArg boo (decide_eq_false hne).symm
       ·have h7 := oT (not_f hg7)
        refine zy4 ?_
        refine Wb 83 rfl (fun hg8 => ?_) (fun hg8 => ?_)
        ·have hne : a ≠ b := fun h => oF (not_t hg8) (by rw [h])
         iterate 5 refine z6 ?_
         refine zy2 ?_
         iterate 7 refine z6 ?_
         refine zs1 ?_
         refine Wt rfl rfl ?_
         refine zu1 ?_
         refine zR ?_
         exact congrArg boo (decide_eq_false hne).symm
        ·have h8 := oT (not_f hg8)
         refine zy4 ?_
         refine Wd rfl rfl (does_struct_neq rfl rfl rfl rfl rfl (by kernel_rfl)) ?_
         refine zy2 ?_
         refine Wb 90 rfl (fun hg9 => ?_) (fun hg9 => ?_)
         ·have hne : a ≠ b := fun h => by have h1 := not_t hg9; rw [h] at h1; exact absurd ((conf_self _).symm.trans h1) (by simp)
          iterate 7 refine z6 ?_
          refine zs1 ?_
          refine Wt rfl rfl ?_
          refine zu1 ?_
          refine zR ?_
          exact congrArg boo (decide_eq_false hne).symm
         ·have h9 : a.conf = b.conf := conf_eq (not_f hg9)
          refine zy2 ?_
          refine Wd rfl rfl (does_bytes_str (lO tG rfl) rfl (lO tG rfl) rfl (lO tG rfl) rfl rfl rfl) ?_
          refine zy2 ?_
          refine Wd rfl rfl (does_bytes_str (lO tG rfl) rfl (lO tG rfl) rfl (lO tG rfl) rfl rfl rfl) ?_
          refine z1 ?_
          refine Wa 97 rfl (str_neq _ _) ?_
          refine zs1 ?_
          refine Wi rfl (fun hi1 => ?_) (fun hi1 => ?_)
          ·have hne : a ≠ b := fun h => oF (not_t hi1) (by rw [h])
           refine zu1 ?_
           refine zR ?_
           exact congrArg boo (decide_eq_false hne).symm
          ·have h10 := oT (not_f hi1)
           refine Wj ?_
           refine zp5 ?_
           refine z1 ?_
           refine Wb 104 rfl (fun hg10 => ?_) (fun hg10 => ?_)
           ·have q1 : a.here = b.here := beq_iff_eq.1 hg10
            refine zy5 ?_
            refine zy2 ?_
            refine Wb 111 rfl (fun hg11 => ?_) (fun hg11 => ?_)
            ·have q2 : a.last = b.last := beq_iff_eq.1 hg11
             refine zy5 ?_
             refine zy2 ?_
             refine Wb 118 rfl (fun hg12 => ?_) (fun hg12 => ?_)
             ·have q3 : a.free = b.free := beq_iff_eq.1 hg12
              refine zy5 ?_
              refine zy2 ?_
              refine Wb 125 rfl (fun hg13 => ?_) (fun hg13 => ?_)
              ·have q4 : a.next = b.next := beq_iff_eq.1 hg13
               refine zy5 ?_
               refine zy2 ?_
               refine Wb 132 rfl (fun hg14 => ?_) (fun hg14 => ?_)
               ·have q5 : a.arg = b.arg := beq_iff_eq.1 hg14
                refine zy5 ?_
                refine zy2 ?_
                refine Wb 139 rfl (fun hg15 => ?_) (fun hg15 => ?_)
                ·have q6 : a.self = b.self := beq_iff_eq.1 hg15
                 refine zy5 ?_
                 refine zs2 ?_
                 refine zR ?_
                 (refine congrArg boo ?_; rw [Bool.eq_iff_iff, beq_iff_eq, decide_eq_true_eq]; exact ⟨fun q7 => vm_ext h9 h1 q1 h2 h3 h4 h5 q2 h10 h6 h7 q3 q4 q5 q6 q7 h8, fun h => by rw [h]⟩)
                ·have hne : a ≠ b := fun h => beq_eq_false_iff_ne.1 hg15 (by rw [h])
                 iterate 5 refine z6 ?_
                 refine zs2 ?_
                 refine zR ?_
                 exact congrArg boo (decide_eq_false hne).symm
               ·have hne : a ≠ b := fun h => beq_eq_false_iff_ne.1 hg14 (by rw [h])
                iterate 5 refine z6 ?_
                refine zy2 ?_
                iterate 5 refine z6 ?_
                refine zs2 ?_
                refine zR ?_
                exact congrArg boo (decide_eq_false hne).symm
              ·have hne : a ≠ b := fun h => beq_eq_false_iff_ne.1 hg13 (by rw [h])
               iterate 5 refine z6 ?_
               refine zy2 ?_
               iterate 5 refine z6 ?_
               refine zy2 ?_
               iterate 5 refine z6 ?_
               refine zs2 ?_
               refine zR ?_
               exact congrArg boo (decide_eq_false hne).symm
             ·have hne : a ≠ b := fun h => beq_eq_false_iff_ne.1 hg12 (by rw [h])
              iterate 5 refine z6 ?_
              refine zy2 ?_
              iterate 5 refine z6 ?_
              refine zy2 ?_
              iterate 5 refine z6 ?_
              refine zy2 ?_
              iterate 5 refine z6 ?_
              refine zs2 ?_
              refine zR ?_
              exact congrArg boo (decide_eq_false hne).symm
            ·have hne : a ≠ b := fun h => beq_eq_false_iff_ne.1 hg11 (by rw [h])
             iterate 5 refine z6 ?_
             refine zy2 ?_
             iterate 5 refine z6 ?_
             refine zy2 ?_
             iterate 5 refine z6 ?_
             refine zy2 ?_
             iterate 5 refine z6 ?_
             refine zy2 ?_
             iterate 5 refine z6 ?_
             refine zs2 ?_
             refine zR ?_
             exact congrArg boo (decide_eq_false hne).symm
           ·have hne : a ≠ b := fun h => beq_eq_false_iff_ne.1 hg10 (by rw [h])
            iterate 5 refine z6 ?_
            refine zy2 ?_
            iterate 5 refine z6 ?_
            refine zy2 ?_
            iterate 5 refine z6 ?_
            refine zy2 ?_
            iterate 5 refine z6 ?_
            refine zy2 ?_
            iterate 5 refine z6 ?_
            refine zy2 ?_
            iterate 5 refine z6 ?_
            refine zs2 ?_
            refine zR ?_
            exact congrArg boo (decide_eq_false hne).symm
end Go.Proofs.YtphgdofmjpdhaaaGreat
namespace Go.Proofs.YtphgdofmjpdhaaaGreat
open Go.RowKit
set_option maxRecDepth 100000
set_option maxHeartbeats 4000000
def namedS (s : Str) : Int := if s.length = 0 then -16 else if 31 < s.length then -19 else if s.all (fun c => decide (32 < c.toNat)) then 0 else -32
theorem ref_named (s : Str) : PureC Tryz.prog 76 [str s] (i64 (namedS s)) := by
 refine pW tG (rs := [.tmp 2]) Tryz.func76 rfl rfl rfl (by simp) (by simp) (fun B => ?_)
 refine zu1 ?_
 refine Ws ?_
 refine zp2 ?_
 refine Wa 5 rfl (str_len _) ?_
 refine zs1 ?_
 refine Wi rfl (fun hi1 => ?_) (fun hi1 => ?_)
 ·have h0 : s.length = 0 := by have := beq_iff_eq.1 hi1; omega
  refine zu1 ?_
  refine zR ?_
  rw [namedS, if_pos h0]; rfl
 ·have h0 : ¬ s.length = 0 := by have := beq_eq_false_iff_ne.1 hi1; omega
  refine Wj ?_
  refine Ws ?_
  refine zp2 ?_
  refine Wa 8 rfl (str_len _) ?_
  refine zs1 ?_
  refine Wi rfl (fun hi2 => ?_) (fun hi2 => ?_)
  ·have h1 : 31 < s.length := by have := oT hi2; omega
   refine zu1 ?_
   refine zR ?_
   rw [namedS, if_neg h0, if_pos h1]; rfl
  ·have h1 : ¬ 31 < s.length := by have := oF hi2; omega
   refine Wj ?_
   refine Ws ?_
   refine zu1 ?_
   refine Wl ?_
   show W _ _ _ _ _ _ _
   refine W_loopS (fun (k : Nat) => [(0, str s), (3, i64 k)]) (fun (k : Nat) => []) (fun (k : Nat) => []) (fun (k : Nat) => k ≤ s.length ∧ (s.take k).all (fun c => decide (32 < c.toNat)) = true) (fun (k : Nat) => s.length - k) (0) (by simp) [] ?_ ?_
   ·exact fitT
   ·intro k hk
    refine Ws ?_
    refine zp3 ?_
    refine Wa 12 rfl (str_len _) ?_
    refine zs1 ?_
    refine Wi rfl (fun hi3 => ?_) (fun hi3 => ?_)
    ·have hlt : k < s.length := by have := oT hi3; omega
     refine Wj ?_
     refine Ws ?_
     refine Wl ?_
     refine zp2 ?_
     refine z2 ?_ (q := (by simp only [str_size]; omega))
     refine Wa 18 rfl (str_byteN _ _) ?_
     refine zs1 ?_
     refine Wi rfl (fun hi4 => ?_) (fun hi4 => ?_)
     ·have hn : s.all (fun c => decide (32 < c.toNat)) = false := all_no 0 hlt (decide_eq_false (by have := oT hi4; omega))
      refine zu1 ?_
      refine zR ?_
      rw [namedS, if_neg h0, if_neg h1, hn]; rfl
     ·have hy : decide (32 < (s.getD k 0).toNat) = true := decide_eq_true (by have := oF hi4; omega)
      refine Wj ?_
      refine W_region rfl ?_
      refine zs3 ?_
      exact ⟨k + 1, [], (by exact ⟨by omega, all_snoc 0 hlt hk.2 hy⟩), (by omega), fitT⟩
    ·have hge : s.length ≤ k := by have := oF hi3; omega
     have hall : s.all (fun c => decide (32 < c.toNat)) = true := by have h1 := hk.2; rw [take_all' _ k hge] at h1; exact h1
     refine W_exit ?_
     refine zu1 ?_
     refine zR ?_
     rw [namedS, if_neg h0, if_neg h1, hall]; rfl
def wordOk (w : VWord) : Bool := decide (namedS w.name = 0 ∧ 0 ≤ w.flags ∧ w.flags ≤ 7)
def right9 (l : List VWord) : Bool := l.all wordOk && decide (l.length ≤ 1024)
theorem ref_Right9 (l : List VWord) (hl : l.length ≤ 9223372036854775807) : PureC Tryz.prog 42 [sq cWord l] (boo (right9 l)) := by
 refine pW tG (rs := [.tmp 2]) Tryz.func42 rfl rfl rfl (by simp) (by simp) (fun B => ?_)
 refine zu1 ?_
 refine Ws ?_
 refine zu1 ?_
 refine Wl ?_
 show W _ _ _ _ _ _ _
 refine W_loopS (fun (k : Nat) => [(0, sq cWord l), (3, i64 k)]) (fun (k : Nat) => []) (fun (k : Nat) => []) (fun (k : Nat) => k ≤ l.length ∧ (l.take k).all wordOk = true) (fun (k : Nat) => l.length - k) (0) (by simp) [] ?_ ?_
 ·exact fitT
 ·intro k hk
  refine Ws ?_
  refine zu4 ?_
  refine Wi rfl (fun hi1 => ?_) (fun hi1 => ?_)
  ·have hlt : k < l.length := by have := oT hi1; omega
   refine Wj ?_
   refine Ws ?_
   refine Wl ?_
   refine zp2 ?_
   refine Wv tG rfl rfl rfl (by omega) (iN cWord 3 (fun _ => rfl) default (by omega)) ?_
   refine zy2 ?_
   refine Wc rfl rfl (dC rfl Tryz.func76 rfl rfl ((ref_named _) _)) ?_
   refine zy2 ?_
   refine Wb 17 rfl (fun hg1 => ?_) (fun hg1 => ?_)
   ·have hn : l.all wordOk = false := all_no default hlt (decide_eq_false (fun h => by have := bne_iff_ne.1 hg1; omega))
    iterate 6 refine z6 ?_
    refine zy2 ?_
    iterate 6 refine z6 ?_
    refine zs1 ?_
    refine Wt rfl rfl ?_
    refine zu1 ?_
    refine zR ?_
    exact congrArg boo (by rw [right9, hn]; rfl)
   ·have h0 : namedS (l.getD k default).name = 0 := bne_eq_false_iff_eq.1 hg1
    refine zy2 ?_
    refine Wv tG rfl rfl rfl (by omega) (iN cWord 3 (fun _ => rfl) default (by omega)) ?_
    refine zy5 ?_
    refine Wb 25 rfl (fun hg2 => ?_) (fun hg2 => ?_)
    ·have hn : l.all wordOk = false := all_no default hlt (decide_eq_false (fun h => by have := oT hg2; omega))
     iterate 6 refine z6 ?_
     refine zs1 ?_
     refine Wt rfl rfl ?_
     refine zu1 ?_
     refine zR ?_
     exact congrArg boo (by rw [right9, hn]; rfl)
    ·have h1 := oF hg2
     refine zy2 ?_
     refine Wv tG rfl rfl rfl (by omega) (iN cWord 3 (fun _ => rfl) default (by omega)) ?_
     refine zs4 ?_
     refine Wi rfl (fun hi2 => ?_) (fun hi2 => ?_)
     ·have hn : l.all wordOk = false := all_no default hlt (decide_eq_false (fun h => by have := oT hi2; omega))
      refine zu1 ?_
      refine zR ?_
      exact congrArg boo (by rw [right9, hn]; rfl)
     ·have hy : wordOk (l.getD k default) = true := decide_eq_true ⟨h0, by omega, by have := oF hi2; omega⟩
      refine Wj ?_
      refine W_region rfl ?_
      refine zs3 ?_
      exact ⟨k + 1, [], (by exact ⟨by omega, all_snoc default hlt hk.2 hy⟩), (by omega), fitT⟩
  ·have hge : l.length ≤ k := by have := oF hi1; omega
   have hall : l.all wordOk = true := by have h1 := hk.2; rw [take_all' _ k hge] at h1; exact h1
   refine W_exit ?_
   refine zu4 ?_
   refine zR ?_
   exact congrArg boo (by rw [right9, hall, Bool.true_and, Bool.eq_iff_iff, decide_eq_true_eq, decide_eq_true_eq]; omega)
structure VIn (v : VVm) : Prop where
 b : v.mem.b.length ≤ 9223372036854775807
 old : v.mem.old.length ≤ 9223372036854775807
 dict : v.dict.length ≤ 9223372036854775807
 pt : ∀ p ∈ v.mem.old, (p.old.length = 0 ∨ Fit64 p.place) ∧ p.old.length ≤ 9223372036854775807
end Go.Proofs.YtphgdofmjpdhaaaGreat
namespace Go.Proofs.YtphgdofmjpdhaaaGreat
open Go.RowKit
set_option maxRecDepth 100000
set_option maxHeartbeats 4000000
def rightA (v : VVm) : Bool := decide (fitsV v.conf ∧ memRight v.mem = true ∧ right9 v.dict = true ∧ picRight v.pic ∧ (v.mem.b.length : Int) = v.conf.mem ∧ 1368 ≤ v.here ∧ v.here ≤ v.conf.mem)
def frameOk (f : VFrame) : Bool := decide (0 ≤ f.d ∧ f.d ≤ 256 ∧ 0 ≤ f.r ∧ f.r ≤ 256)
def handOk (h : VHand) : Bool := decide (0 ≤ h.fuel)
def rightC (v : VVm) : Bool := decide ((v.d.length : Int) ≤ v.conf.data ∧ (v.r.length : Int) ≤ v.conf.ret ∧ v.f.length ≤ 64 ∧ (v.dict.length : Int) ≤ v.conf.words ∧ (v.out.length : Int) ≤ v.conf.out ∧ v.req.length ≤ 16 ∧ 0 ≤ v.free ∧ v.free ≤ 64 ∧ 0 ≤ v.next ∧ v.next ≤ 4611686018427387904 ∧ v.hand.length ≤ 64)
def right10 (v : VVm) : Bool := rightA v && (v.f.all frameOk && (v.hand.all handOk && rightC v))
structure VIn2 (v : VVm) : Prop extends VIn v where
 f : v.f.length ≤ 9223372036854775807
 hand : v.hand.length ≤ 9223372036854775807
theorem ref_Right10 (v : VVm) (h : VIn2 v) : PureC Tryz.prog 19 [eVm v] (boo (right10 v)) := by
 have e1 := h.f
 have e2 := h.hand
 refine pW tG (rs := [.tmp 2]) Tryz.func19 rfl rfl rfl (by simp) (by simp) (fun B => ?_)
 refine zu2 ?_
 refine zp2 ?_
 refine Wc rfl rfl (dC rfl Tryz.func40 rfl rfl ((ref_Fits v.conf) _)) ?_
 refine zs1 ?_
 refine zp2 ?_
 refine Wc rfl rfl (dC rfl Tryz.func41 rfl rfl ((ref_Right3 v.mem h.b h.old h.pt) _)) ?_
 refine zs1 ?_
 refine zp2 ?_
 refine Wc rfl rfl (dC rfl Tryz.func42 rfl rfl ((ref_Right9 v.dict h.dict) _)) ?_
 refine zs1 ?_
 refine zp2 ?_
 refine Wc rfl rfl (dC rfl Tryz.func43 rfl rfl ((ref_Right7 v.pic) _)) ?_
 refine zs1 ?_
 refine Ws ?_
 refine zp3 ?_
 refine Wb 23 rfl (fun hg1 => ?_) (fun hg1 => ?_)
 ·have hbad : rightA v = false := decide_eq_false (fun q => oF (not_t hg1) q.1)
  iterate 2 refine z6 ?_
  refine zy2 ?_
  iterate 2 refine z6 ?_
  refine zy2 ?_
  iterate 2 refine z6 ?_
  refine zy2 ?_
  iterate 8 refine z6 ?_
  refine zy2 ?_
  iterate 3 refine z6 ?_
  refine zy2 ?_
  iterate 6 refine z6 ?_
  refine zs1 ?_
  refine Wt rfl rfl ?_
  refine zu1 ?_
  refine zR ?_
  exact congrArg boo (by rw [right10, hbad]; rfl)
 ·have h1 : fitsV v.conf := oT (not_f hg1)
  refine zy4 ?_
  refine Wb 27 rfl (fun hg2 => ?_) (fun hg2 => ?_)
  ·have hbad : rightA v = false := decide_eq_false (fun q => by have := not_t hg2; rw [q.2.1] at this; cases this)
   iterate 2 refine z6 ?_
   refine zy2 ?_
   iterate 2 refine z6 ?_
   refine zy2 ?_
   iterate 8 refine z6 ?_
   refine zy2 ?_
   iterate 3 refine z6 ?_
   refine zy2 ?_
   iterate 6 refine z6 ?_
   refine zs1 ?_
   refine Wt rfl rfl ?_
   refine zu1 ?_
   refine zR ?_
   exact congrArg boo (by rw [right10, hbad]; rfl)
  ·have h2 : memRight v.mem = true := not_f hg2
   refine zy4 ?_
   refine Wb 31 rfl (fun hg3 => ?_) (fun hg3 => ?_)
   ·have hbad : rightA v = false := decide_eq_false (fun q => by have := not_t hg3; rw [q.2.2.1] at this; cases this)
    iterate 2 refine z6 ?_
    refine zy2 ?_
    iterate 8 refine z6 ?_
    refine zy2 ?_
    iterate 3 refine z6 ?_
    refine zy2 ?_
    iterate 6 refine z6 ?_
    refine zs1 ?_
    refine Wt rfl rfl ?_
    refine zu1 ?_
    refine zR ?_
    exact congrArg boo (by rw [right10, hbad]; rfl)
   ·have h3 : right9 v.dict = true := not_f hg3
    refine zy4 ?_
    refine Wb 35 rfl (fun hg4 => ?_) (fun hg4 => ?_)
    ·have hbad : rightA v = false := decide_eq_false (fun q => oF (not_t hg4) q.2.2.2.1)
     iterate 8 refine z6 ?_
     refine zy2 ?_
     iterate 3 refine z6 ?_
     refine zy2 ?_
     iterate 6 refine z6 ?_
     refine zs1 ?_
     refine Wt rfl rfl ?_
     refine zu1 ?_
     refine zR ?_
     exact congrArg boo (by rw [right10, hbad]; rfl)
    ·have h4 : picRight v.pic := oT (not_f hg4)
     refine zy5 ?_
     refine zy5 ?_
     refine Wb 45 rfl (fun hg5 => ?_) (fun hg5 => ?_)
     ·have hbad : rightA v = false := decide_eq_false (fun q => bne_iff_ne.1 hg5 q.2.2.2.2.1)
      iterate 3 refine z6 ?_
      refine zy2 ?_
      iterate 6 refine z6 ?_
      refine zs1 ?_
      refine Wt rfl rfl ?_
      refine zu1 ?_
      refine zR ?_
      exact congrArg boo (by rw [right10, hbad]; rfl)
     ·have h5 : (v.mem.b.length : Int) = v.conf.mem := bne_eq_false_iff_eq.1 hg5
      refine zy5 ?_
      refine Wb 50 rfl (fun hg6 => ?_) (fun hg6 => ?_)
      ·have hbad : rightA v = false := decide_eq_false (fun q => by have := oT hg6; omega)
       iterate 6 refine z6 ?_
       refine zs1 ?_
       refine Wt rfl rfl ?_
       refine zu1 ?_
       refine zR ?_
       exact congrArg boo (by rw [right10, hbad]; rfl)
      ·have h6 := oF hg6
       refine zy5 ?_
       refine zs2 ?_
       refine Wi rfl (fun hi1 => ?_) (fun hi1 => ?_)
       ·have hbad : rightA v = false := decide_eq_false (fun q => by have := oT hi1; omega)
        refine zu1 ?_
        refine zR ?_
        exact congrArg boo (by rw [right10, hbad]; rfl)
       ·have hA : rightA v = true := decide_eq_true ⟨h1, h2, h3, h4, h5, by omega, by have := oF hi1; omega⟩
        refine Wj ?_
        refine Ws ?_
        refine zu1 ?_
        refine Wl ?_
        show W _ _ _ _ _ _ _
        refine W_loopS (fun (k : Nat) => [(1, .ptr 0 0), (7, i64 k)]) (fun (k : Nat) => [.cells (cVm v) 36]) (fun (k : Nat) => []) (fun (k : Nat) => k ≤ v.f.length ∧ (v.f.take k).all frameOk = true) (fun (k : Nat) => v.f.length - k) (0) (by simp) [] ?_ ?_
        ·exact fitT
        ·intro k hk
         refine Ws ?_
         refine zu5 ?_
         refine Wi rfl (fun hi2 => ?_) (fun hi2 => ?_)
         ·have hlt : k < v.f.length := by have := oT hi2; omega
          refine Wj ?_
          refine Ws ?_
          refine Wl ?_
          refine zp3 ?_
          refine Wv tG rfl rfl rfl (by omega) (iN cFrame 3 (fun _ => rfl) default (by omega)) ?_
          refine zy4 ?_
          refine Wb 72 rfl (fun hg7 => ?_) (fun hg7 => ?_)
          ·have hn : v.f.all frameOk = false := all_no default hlt (decide_eq_false (fun q => by have := oT hg7; omega))
           iterate 7 refine z6 ?_
           refine zy2 ?_
           iterate 7 refine z6 ?_
           refine zy2 ?_
           iterate 7 refine z6 ?_
           refine zs1 ?_
           refine Wt rfl rfl ?_
           refine zu1 ?_
           refine zR ?_
           exact congrArg boo (by rw [right10, hA, hn]; rfl)
          ·have q1 := oF hg7
           refine zy3 ?_
           refine Wv tG rfl rfl rfl (by omega) (iN cFrame 3 (fun _ => rfl) default (by omega)) ?_
           refine zy5 ?_
           refine Wb 81 rfl (fun hg8 => ?_) (fun hg8 => ?_)
           ·have hn : v.f.all frameOk = false := all_no default hlt (decide_eq_false (fun q => by have := oT hg8; omega))
            iterate 7 refine z6 ?_
            refine zy2 ?_
            iterate 7 refine z6 ?_
            refine zs1 ?_
            refine Wt rfl rfl ?_
            refine zu1 ?_
            refine zR ?_
            exact congrArg boo (by rw [right10, hA, hn]; rfl)
           ·have q2 := oF hg8
            refine zy3 ?_
            refine Wv tG rfl rfl rfl (by omega) (iN cFrame 3 (fun _ => rfl) default (by omega)) ?_
            refine zy5 ?_
            refine Wb 90 rfl (fun hg9 => ?_) (fun hg9 => ?_)
            ·have hn : v.f.all frameOk = false := all_no default hlt (decide_eq_false (fun q => by have := oT hg9; omega))
             iterate 7 refine z6 ?_
             refine zs1 ?_
             refine Wt rfl rfl ?_
             refine zu1 ?_
             refine zR ?_
             exact congrArg boo (by rw [right10, hA, hn]; rfl)
            ·have q3 := oF hg9
             refine zy3 ?_
             refine Wv tG rfl rfl rfl (by omega) (iN cFrame 3 (fun _ => rfl) default (by omega)) ?_
             refine zs4 ?_
             refine Wi rfl (fun hi3 => ?_) (fun hi3 => ?_)
             ·have hn : v.f.all frameOk = false := all_no default hlt (decide_eq_false (fun q => by have := oT hi3; omega))
              refine zu1 ?_
              refine zR ?_
              exact congrArg boo (by rw [right10, hA, hn]; rfl)
             ·have hy : frameOk (v.f.getD k default) = true := decide_eq_true ⟨by omega, by omega, by omega, by have := oF hi3; omega⟩
              refine Wj ?_
              refine W_region rfl ?_
              refine zs3 ?_
              exact ⟨k + 1, [], (by exact ⟨by omega, all_snoc default hlt hk.2 hy⟩), (by omega), fitT⟩
         ·have hge : v.f.length ≤ k := by have := oF hi2; omega
          have hF : v.f.all frameOk = true := by have h1 := hk.2; rw [take_all' _ k hge] at h1; exact h1
          refine W_exit ?_
          refine Ws ?_
          refine zu1 ?_
          refine Wl ?_
          show W _ _ _ _ _ _ _
          refine W_loopS (fun (j : Nat) => [(1, .ptr 0 0), (8, i64 j)]) (fun (j : Nat) => [.cells (cVm v) 36]) (fun (j : Nat) => []) (fun (j : Nat) => j ≤ v.hand.length ∧ (v.hand.take j).all handOk = true) (fun (j : Nat) => v.hand.length - j) (0) (by simp) [] ?_ ?_
          ·exact fitT
          ·intro j hj
           refine Ws ?_
           refine zu5 ?_
           refine Wi rfl (fun hi4 => ?_) (fun hi4 => ?_)
           ·have hlt : j < v.hand.length := by have := oT hi4; omega
            refine Wj ?_
            refine Ws ?_
            refine Wl ?_
            refine zp3 ?_
            refine Wv tG rfl rfl rfl (by omega) (iN cHand 4 (fun _ => rfl) default (by omega)) ?_
            refine zs3 ?_
            refine Wi rfl (fun hi5 => ?_) (fun hi5 => ?_)
            ·have hn : v.hand.all handOk = false := all_no default hlt (decide_eq_false (fun q => by have := oT hi5; omega))
             refine zu1 ?_
             refine zR ?_
             exact congrArg boo (by rw [right10, hA, hF, hn]; rfl)
            ·have hy : handOk (v.hand.getD j default) = true := decide_eq_true (by have := oF hi5; omega)
             refine Wj ?_
             refine W_region rfl ?_
             refine zs3 ?_
             exact ⟨j + 1, [], (by exact ⟨by omega, all_snoc default hlt hj.2 hy⟩), (by omega), fitT⟩
           ·have hge : v.hand.length ≤ j := by have := oF hi4; omega
            have hH : v.hand.all handOk = true := by have h1 := hj.2; rw [take_all' _ j hge] at h1; exact h1
            have hR : right10 v = rightC v := by rw [right10, hA, hF, hH]; rfl
            clear hA hF hH h1 h2 h3 h4 hk hj h
            refine W_exit ?_
            refine zp5 ?_
            refine zy3 ?_
            refine Wb 120 rfl (fun hg10 => ?_) (fun hg10 => ?_)
            ·refine zy5 ?_
             refine zy4 ?_
             refine Wb 129 rfl (fun hg11 => ?_) (fun hg11 => ?_)
             ·refine zy5 ?_
              refine z1 ?_
              refine Wb 135 rfl (fun hg12 => ?_) (fun hg12 => ?_)
              ·refine zy5 ?_
               refine zy4 ?_
               refine Wb 144 rfl (fun hg13 => ?_) (fun hg13 => ?_)
               ·refine zy5 ?_
                refine zy4 ?_
                refine Wb 153 rfl (fun hg14 => ?_) (fun hg14 => ?_)
                ·refine zy5 ?_
                 refine z1 ?_
                 refine Wb 159 rfl (fun hg15 => ?_) (fun hg15 => ?_)
                 ·refine zy5 ?_
                  refine Wb 164 rfl (fun hg16 => ?_) (fun hg16 => ?_)
                  ·refine zy5 ?_
                   refine Wb 169 rfl (fun hg17 => ?_) (fun hg17 => ?_)
                   ·refine zy5 ?_
                    refine Wb 174 rfl (fun hg18 => ?_) (fun hg18 => ?_)
                    ·refine zy5 ?_
                     refine Wb 179 rfl (fun hg19 => ?_) (fun hg19 => ?_)
                     ·refine zy5 ?_
                      refine zs1 ?_
                      refine zR ?_
                      refine congrArg boo ?_; rw [hR]; unfold rightC; rw [Bool.eq_iff_iff]; (try simp only [dnL] at *); omega
                     ·refine z6 ?_
                      iterate 3 refine z6 ?_
                      refine zs2 ?_
                      refine zR ?_
                      refine congrArg boo ?_; rw [hR]; unfold rightC; rw [Bool.eq_iff_iff]; (try simp only [dnL] at *); omega
                    ·refine z6 ?_
                     iterate 2 refine z6 ?_
                     refine zy2 ?_
                     iterate 4 refine z6 ?_
                     refine zs2 ?_
                     refine zR ?_
                     refine congrArg boo ?_; rw [hR]; unfold rightC; rw [Bool.eq_iff_iff]; (try simp only [dnL] at *); omega
                   ·refine z6 ?_
                    iterate 2 refine z6 ?_
                    refine zy2 ?_
                    iterate 3 refine z6 ?_
                    refine zy2 ?_
                    iterate 4 refine z6 ?_
                    refine zs2 ?_
                    refine zR ?_
                    refine congrArg boo ?_; rw [hR]; unfold rightC; rw [Bool.eq_iff_iff]; (try simp only [dnL] at *); omega
                  ·refine z6 ?_
                   iterate 2 refine z6 ?_
                   refine zy2 ?_
                   iterate 3 refine z6 ?_
                   refine zy2 ?_
                   iterate 3 refine z6 ?_
                   refine zy2 ?_
                   iterate 4 refine z6 ?_
                   refine zs2 ?_
                   refine zR ?_
                   refine congrArg boo ?_; rw [hR]; unfold rightC; rw [Bool.eq_iff_iff]; (try simp only [dnL] at *); omega
                 ·refine z6 ?_
                  iterate 2 refine z6 ?_
                  refine zy2 ?_
                  iterate 3 refine z6 ?_
                  refine zy2 ?_
                  iterate 3 refine z6 ?_
                  refine zy2 ?_
                  iterate 3 refine z6 ?_
                  refine zy2 ?_
                  iterate 4 refine z6 ?_
                  refine zs2 ?_
                  refine zR ?_
                  refine congrArg boo ?_; rw [hR]; unfold rightC; rw [Bool.eq_iff_iff]; (try simp only [dnL] at *); omega
                ·refine z6 ?_
                 iterate 3 refine z6 ?_
                 refine zy2 ?_
                 iterate 3 refine z6 ?_
                 refine zy2 ?_
                 iterate 3 refine z6 ?_
                 refine zy2 ?_
                 iterate 3 refine z6 ?_
                 refine zy2 ?_
                 iterate 3 refine z6 ?_
                 refine zy2 ?_
                 iterate 4 refine z6 ?_
                 refine zs2 ?_
                 refine zR ?_
                 refine congrArg boo ?_; rw [hR]; unfold rightC; rw [Bool.eq_iff_iff]; (try simp only [dnL] at *); omega
               ·refine z6 ?_
                iterate 6 refine z6 ?_
                refine zy2 ?_
                iterate 4 refine z6 ?_
                refine zy2 ?_
                iterate 3 refine z6 ?_
                refine zy2 ?_
                iterate 3 refine z6 ?_
                refine zy2 ?_
                iterate 3 refine z6 ?_
                refine zy2 ?_
                iterate 3 refine z6 ?_
                refine zy2 ?_
                iterate 4 refine z6 ?_
                refine zs2 ?_
                refine zR ?_
                refine congrArg boo ?_; rw [hR]; unfold rightC; rw [Bool.eq_iff_iff]; (try simp only [dnL] at *); omega
              ·refine z6 ?_
               iterate 6 refine z6 ?_
               refine zy2 ?_
               iterate 7 refine z6 ?_
               refine zy2 ?_
               iterate 4 refine z6 ?_
               refine zy2 ?_
               iterate 3 refine z6 ?_
               refine zy2 ?_
               iterate 3 refine z6 ?_
               refine zy2 ?_
               iterate 3 refine z6 ?_
               refine zy2 ?_
               iterate 3 refine z6 ?_
               refine zy2 ?_
               iterate 4 refine z6 ?_
               refine zs2 ?_
               refine zR ?_
               refine congrArg boo ?_; rw [hR]; unfold rightC; rw [Bool.eq_iff_iff]; (try simp only [dnL] at *); omega
             ·refine z6 ?_
              iterate 3 refine z6 ?_
              refine zy2 ?_
              iterate 7 refine z6 ?_
              refine zy2 ?_
              iterate 7 refine z6 ?_
              refine zy2 ?_
              iterate 4 refine z6 ?_
              refine zy2 ?_
              iterate 3 refine z6 ?_
              refine zy2 ?_
              iterate 3 refine z6 ?_
              refine zy2 ?_
              iterate 3 refine z6 ?_
              refine zy2 ?_
              iterate 3 refine z6 ?_
              refine zy2 ?_
              iterate 4 refine z6 ?_
              refine zs2 ?_
              refine zR ?_
              refine congrArg boo ?_; rw [hR]; unfold rightC; rw [Bool.eq_iff_iff]; (try simp only [dnL] at *); omega
            ·refine z6 ?_
             iterate 6 refine z6 ?_
             refine zy2 ?_
             iterate 4 refine z6 ?_
             refine zy2 ?_
             iterate 7 refine z6 ?_
             refine zy2 ?_
             iterate 7 refine z6 ?_
             refine zy2 ?_
             iterate 4 refine z6 ?_
             refine zy2 ?_
             iterate 3 refine z6 ?_
             refine zy2 ?_
             iterate 3 refine z6 ?_
             refine zy2 ?_
             iterate 3 refine z6 ?_
             refine zy2 ?_
             iterate 3 refine z6 ?_
             refine zy2 ?_
             iterate 4 refine z6 ?_
             refine zs2 ?_
             refine zR ?_
             refine congrArg boo ?_; rw [hR]; unfold rightC; rw [Bool.eq_iff_iff]; (try simp only [dnL] at *); omega
end Go.Proofs.YtphgdofmjpdhaaaGreat
namespace Go.Proofs.YtphgdofmjpdhaaaGreat
open Go.RowKit
theorem fit_w (n : Int) : Fit64 (wrap64 n) := wrap64_rng n
theorem fit_S (n : Nat) : Fit64 (S n) := S_rng n
theorem fit_0 : Fit64 0 := by unfold Fit64; omega
theorem fit_flag (b : Bool) : Fit64 (flagS b) := by unfold flagS Fit64; split <;> omega
theorem fit_fmod {a b : Int} (hb : Fit64 b) (h0 : b ≠ 0) : Fit64 (a.fmod b) := by
 unfold Fit64 at hb ⊢
 rw [Int.fmod_eq_emod]
 have h1 := Int.emod_nonneg a h0
 have h2 : a % b < b.natAbs := by
  rcases Int.lt_or_gt_of_ne h0 with h | h
  ·have := Int.emod_lt_of_pos a (show 0 < -b by omega); rw [Int.emod_neg] at this; omega
  ·have := Int.emod_lt_of_pos a h; omega
 split <;> omega
theorem fit_tmod {a b : Int} (hb : Fit64 b) (h0 : b ≠ 0) : Fit64 (a.tmod b) := by
 unfold Fit64 at hb ⊢
 have h1 : (a.tmod b).natAbs = a.natAbs % b.natAbs := Int.natAbs_tmod a b
 have h2 : a.natAbs % b.natAbs < b.natAbs := Nat.mod_lt _ (by omega)
 omega
theorem fits_spec {n : Int} (h : fits n = true) : Fit64 n := by unfold fits at h; unfold Fit64; simpa using h
theorem fit_div {a b : Int} (hb : Fit64 b) : Fit64 (divS a b).1 ∧ Fit64 (divS a b).2.1 := by
 unfold divS
 split
 ·exact ⟨fit_0, fit_0⟩
 ·rename_i h0; exact ⟨fit_w _, fit_fmod hb h0⟩
theorem fit_fdiv {lo hi d : Int} (hd : Fit64 d) : Fit64 (fdivS lo hi d).1 ∧ Fit64 (fdivS lo hi d).2.1 := by
 unfold fdivS
 split
 ·exact ⟨fit_0, fit_0⟩
 ·rename_i h0
  split
  ·rename_i h1; exact ⟨fits_spec h1, fit_fmod hd h0⟩
  ·exact ⟨fit_0, fit_0⟩
theorem fit_sdiv {lo hi d : Int} (hd : Fit64 d) : Fit64 (sdivS lo hi d).1 ∧ Fit64 (sdivS lo hi d).2.1 := by
 unfold sdivS
 split
 ·exact ⟨fit_0, fit_0⟩
 ·rename_i h0
  split
  ·rename_i h1; exact ⟨fits_spec h1, fit_tmod hd h0⟩
  ·exact ⟨fit_0, fit_0⟩
theorem fit_udiv {lo hi d : Int} : Fit64 (udivS lo hi d).1 ∧ Fit64 (udivS lo hi d).2.1 := by
 unfold udivS
 split
 ·exact ⟨fit_0, fit_0⟩
 ·split
  ·exact ⟨fit_0, fit_0⟩
  ·exact ⟨fit_S _, fit_S _⟩
theorem fit_shift (a b : Int) (up : Bool) : Fit64 (shiftS a b up) := by
 unfold shiftS
 split
 ·exact fit_0
 ·split <;> exact fit_S _
theorem fit_one (o : Op1) {a : Int} (ha : Fit64 a) : Fit64 (one o a) := by
 unfold Fit64 at *
 cases o <;> simp only [one] <;> first | exact wrap64_rng _ | exact fit_flag _ | (split <;> first | exact wrap64_rng _ | omega) | omega
theorem fit_two (o : Op2) {a b : Int} (ha : Fit64 a) (hb : Fit64 b) : Fit64 (two o a b).1 := by
 cases o <;> simp only [two] <;> first | exact (fit_div hb).1 | exact (fit_div hb).2 | exact fit_w _ | exact fit_shift _ _ _ | exact fit_flag _ | (split <;> assumption)
theorem fit_oneS (name : Str) {a : Int} (ha : Fit64 a) : Fit64 (oneS name a).1 := by
 unfold oneS
 split
 ·exact fit_one _ ha
 ·exact fit_0
theorem fit_twoS (name : Str) {a b : Int} (ha : Fit64 a) (hb : Fit64 b) : Fit64 (twoS name a b).1 := by
 unfold twoS
 split
 ·exact fit_two _ ha hb
 ·exact fit_0
theorem fit_fetch (m : VMem) (a : Int) : Fit64 (memFetch m a).1 := by
 unfold memFetch getC
 split
 ·exact fit_w _
 ·exact fit_0
theorem fit_fetchB (m : VMem) (a : Int) : Fit64 (memFetchByte m a).1 := by
 unfold memFetchByte
 split
 ·have := (m.b.getD a.toNat 0).toNat_lt; unfold Fit64; simp only; omega
 ·exact fit_0
structure MKeeps (m m' : VMem) (k : Nat) : Prop where
 right : memRight m = true → memRight m' = true
 len : m'.b.length = m.b.length
 old : m'.old.length ≤ m.old.length + k
theorem MKeeps.refl (m : VMem) (k : Nat) : MKeeps m m k := ⟨id, rfl, Nat.le_add_right _ _⟩
theorem MKeeps.trans {a b c : VMem} {i j : Nat} (h : MKeeps a b i) (g : MKeeps b c j) : MKeeps a c (i + j) := ⟨fun q => g.right (h.right q), g.len.trans h.len, by have := h.old; have := g.old; omega⟩
theorem MKeeps.up {a b : VMem} {i j : Nat} (h : MKeeps a b i) (hij : i ≤ j) : MKeeps a b j := ⟨h.right, h.len, by have := h.old; omega⟩
theorem there_len {m m' : VMem} (h : m'.b.length = m.b.length) (a n : Int) : memThere m' a n = memThere m a n := by unfold memThere; rw [h]
theorem keeps_write (m : VMem) (a : Int) (b : List UInt8) : MKeeps m (memWrite m a b).1 1 := by
 have hl := memWrite_len m a b
 refine ⟨fun h => ?_, hl, memWrite_old m a b⟩
 unfold memRight at h ⊢
 rw [hl]
 rw [Bool.and_eq_true] at h ⊢
 refine ⟨?_, h.2⟩
 have hall : ∀ p ∈ m.old, memThere (memWrite m a b).1 p.place p.old.length = true := fun p hp => by rw [there_len hl]; exact List.all_eq_true.1 h.1 p hp
 rw [List.all_eq_true]
 intro p hp
 unfold memWrite at hp
 split at hp
 ·rename_i ht
  split at hp
  ·exact hall p hp
  ·rcases List.mem_append.1 hp with hp | hp
   ·exact hall p hp
   ·simp only [List.mem_singleton] at hp
    subst hp
    rw [there_len hl]
    simp only [List.length_take, List.length_drop]
    rcases memThere_rng ht with h0 | ⟨h0, h1, h2⟩
    ·unfold memThere; exact decide_eq_true (.inl (by omega))
    ·unfold memThere; exact decide_eq_true (.inr ⟨by omega, h1, by omega⟩)
 ·exact hall p hp
theorem keeps_store (m : VMem) (a n : Int) : MKeeps m (memStore m a n).1 1 := by
 unfold memStore; split
 ·exact keeps_write _ _ _
 ·exact .refl _ _
theorem keeps_fill (m : VMem) (a n c : Int) : MKeeps m (memFill m a n c).1 1 := by
 unfold memFill; split
 ·exact keeps_write _ _ _
 ·exact .refl _ _
theorem keeps_move (m : VMem) (a b n : Int) : MKeeps m (memMove m a b n).1 1 := by
 unfold memMove; split
 ·exact keeps_write _ _ _
 ·exact .refl _ _
theorem keeps_lay {m : VMem} {here : Int} (b : List UInt8) : MKeeps m (spcLay m here b).1 1 := by
 unfold spcLay; split
 ·exact .refl _ _
 ·exact keeps_write _ _ _
theorem lay_here {m : VMem} {here : Int} (b : List UInt8) (h0 : 1368 ≤ here) (h1 : here ≤ m.b.length) : 1368 ≤ (spcLay m here b).2.1 ∧ (spcLay m here b).2.1 ≤ m.b.length := by
 unfold spcLay; split
 ·exact ⟨h0, h1⟩
 ·simp only; omega
theorem hold_right {p : VPic} (c : Int) (h : picRight p) : picRight (picHold p c).1 := by
 unfold picHold; split
 ·rename_i hc; exact ⟨by simp; omega, .inl hc.1⟩
 ·exact h
theorem digit_right {p : VPic} (lo hi base : Int) (h : picRight p) : picRight (picDigit p lo hi base).1 := by
 unfold picDigit; split
 ·exact h
 ·split
  ·exact hold_right _ h
  ·exact h
theorem allN_right (base : Int) : ∀ (n : Nat) {q : VPic} (lo hi : Int), picRight q → picRight (picAllN n q lo hi base).1
 | 0, q, lo, hi, h => h
 | n + 1, q, lo, hi, h => by
  unfold picAllN
  split
  ·exact h
  ·split
   ·exact digit_right _ _ _ h
   ·exact allN_right base n _ _ (digit_right _ _ _ h)
theorem all_right {p : VPic} (lo hi base : Int) (h : picRight p) : picRight (picAll p lo hi base).1 := by
 unfold picAll finP
 split
 ·exact allN_right base _ _ _ h
 ·exact h
theorem sign_right {p : VPic} (n : Int) (h : picRight p) : picRight (picSign p n).1 := by
 unfold picSign; split
 ·exact h
 ·exact hold_right _ h
theorem digit_fit {p : VPic} {lo hi base : Int} (hl : Fit64 lo) (hh : Fit64 hi) : Fit64 (picDigit p lo hi base).2.1 ∧ Fit64 (picDigit p lo hi base).2.2.1 := by
 unfold picDigit; split
 ·exact ⟨hl, hh⟩
 ·split
  ·exact ⟨fit_udiv.1, fit_udiv.1⟩
  ·exact ⟨hl, hh⟩
end Go.Proofs.YtphgdofmjpdhaaaGreat
namespace Go.Proofs.YtphgdofmjpdhaaaGreat
open Go.RowKit
set_option maxRecDepth 100000
def reset (v v' : VVm) : VVm := { v' with mem := v.mem, here := v.here, d := v.d, out := v.out, pic := v.pic, req := v.req, free := v.free, next := v.next }
structure Keeps (v v' : VVm) : Prop where
 same : reset v v' = v
 dd : v'.d = v.d
 mem : MKeeps v.mem v'.mem 2
 here : 1368 ≤ v.here → v.here ≤ v.mem.b.length → 1368 ≤ v'.here ∧ v'.here ≤ v.mem.b.length
 pic : picRight v.pic → picRight v'.pic
 out : v.out.length ≤ v.conf.out → v'.out.length ≤ v.conf.out
 req : v.req.length ≤ 16 → v'.req.length ≤ 16
 free : 0 ≤ v.free → v.free ≤ 64 → 0 ≤ v'.free ∧ v'.free ≤ 64
 next : 0 ≤ v.next → v.next ≤ 4611686018427387904 → 0 ≤ v'.next ∧ v'.next ≤ 4611686018427387904
theorem Keeps.refl (v : VVm) : Keeps v v := ⟨rfl, rfl, .refl _ _, fun a b => ⟨a, b⟩, id, id, id, fun a b => ⟨a, b⟩, fun a b => ⟨a, b⟩⟩
theorem keeps_mem {v : VVm} {m : VMem} {k : Nat} (h : MKeeps v.mem m k) (hk : k ≤ 2) : Keeps v (withM v m) :=
 ⟨rfl, rfl, h.up hk, fun a b => ⟨a, b⟩, id, id, id, fun a b => ⟨a, b⟩, fun a b => ⟨a, b⟩⟩
theorem keeps_pic {v : VVm} {p : VPic} (h : picRight v.pic → picRight p) : Keeps v (withP v p) :=
 ⟨rfl, rfl, .refl _ _, fun a b => ⟨a, b⟩, h, id, id, fun a b => ⟨a, b⟩, fun a b => ⟨a, b⟩⟩
theorem keeps_lays {v : VVm} {r : VMem × Int × Int} (h : MKeeps v.mem r.1 1) (hh : 1368 ≤ v.here → v.here ≤ v.mem.b.length → 1368 ≤ r.2.1 ∧ r.2.1 ≤ v.mem.b.length) : Keeps v (pLay v r).1 :=
 ⟨rfl, rfl, h.up (by omega), hh, id, id, id, fun a b => ⟨a, b⟩, fun a b => ⟨a, b⟩⟩
theorem keeps_print (v : VVm) (r : Str × Int) : Keeps v (pPrint v r).1 := by
 unfold pPrint vmPrint
 split
 ·split
  ·exact .refl v
  ·rename_i h
   exact ⟨rfl, rfl, .refl _ _, fun a b => ⟨a, b⟩, id, fun _ => by simp only [List.length_append]; omega, id, fun a b => ⟨a, b⟩, fun a b => ⟨a, b⟩⟩
 ·exact .refl v
theorem keeps_end (v : VVm) : Keeps v (pEnd v).1 := by
 unfold pEnd
 split
 ·exact ⟨rfl, rfl, (keeps_write _ _ _).up (by omega), fun a b => ⟨a, b⟩, fun _ => ⟨by simp [withP], .inr rfl⟩, id, id, fun a b => ⟨a, b⟩, fun a b => ⟨a, b⟩⟩
 ·exact .refl v
theorem w64_id {n : Int} (h : Fit64 n) : W64 n = n := by unfold W64; rw [i64w]; exact wrap64_fit n h
theorem keeps_ask (v : VVm) (q : VReq) (h : ¬ 16 ≤ (v.req.length : Int)) : Keeps v (withR v q) :=
 ⟨rfl, rfl, .refl _ _, fun a b => ⟨a, b⟩, id, id, fun _ => by simp only [withR, List.length_append, List.length_singleton]; omega, fun a b => ⟨a, b⟩, fun a b => ⟨a, b⟩⟩
theorem keeps_cancel (v : VVm) (x : List Int) : Keeps v (pCancel v x).1 := by
 unfold pCancel; split
 ·exact .refl v
 ·rename_i h; exact keeps_ask v _ h
theorem keeps_post (v : VVm) (x : List Int) : Keeps v (pPost v x).1 := by
 unfold pPost; split
 ·exact .refl v
 ·split
  ·exact .refl v
  ·rename_i h; exact keeps_ask v _ h
theorem keeps_timer (k : Int) (v : VVm) (x : List Int) : Keeps v (pTimer k v x).1 := by
 unfold pTimer; split
 ·exact .refl v
 ·split
  ·exact .refl v
  ·split
   ·exact .refl v
   ·rename_i h
    split
    ·exact .refl v
    ·rename_i hw
     refine ⟨rfl, rfl, .refl _ _, fun a b => ⟨a, b⟩, id, id, fun _ => by simp only [withR, List.length_append, List.length_singleton]; omega, fun a b => ?_, fun a b => ?_⟩
     ·simp only
      rw [w64_id (by unfold Fit64; omega)]
      have : v.free ≠ 0 := fun h => hw (.inl h)
      omega
     ·simp only
      rw [w64_id (by unfold Fit64; omega)]
      have : v.next ≠ 4611686018427387904 := fun h => hw (.inr h)
      omega
theorem keeps_addTo (v : VVm) (x : List Int) : MKeeps v.mem (pAddTo v x).1 1 := by
 unfold pAddTo; split
 ·exact keeps_store _ _ _
 ·exact .refl _ _
theorem keeps_store2 (v : VVm) (x : List Int) : MKeeps v.mem (pStore2 v x).1 2 := by
 unfold pStore2; split
 ·exact (keeps_store _ _ _).trans (keeps_store _ _ _)
 ·exact (keeps_store _ _ _).up (by omega)
theorem keeps_put {v : VVm} {r : VMem × Int} {k : Nat} (h : MKeeps v.mem r.1 k) (hk : k ≤ 2) : Keeps v (pPut v r).1 := keeps_mem h hk
def FitL (l : List Int) : Prop := ∀ a ∈ l, Fit64 a
theorem fitL_nil : FitL [] := fun a h => by simp at h
theorem fitL_one {a : Int} (h : Fit64 a) : FitL [a] := fun b hb => by simp at hb; subst hb; exact h
theorem fitL_two {a b : Int} (h : Fit64 a) (g : Fit64 b) : FitL [a, b] := fun c hc => by simp at hc; rcases hc with rfl | rfl; exact h; exact g
def KF (v : VVm) (r : VVm × List Int × Int) : Prop := Keeps v r.1 ∧ FitL r.2.1
theorem fit_xat {x : List Int} (h : FitL x) (i : Nat) : Fit64 (xat x i) := XOk.fit (k := 0) ⟨Nat.zero_le _, h⟩ i
theorem some_ite {α : Type} {c : Prop} [Decidable c] {a r : α} {b : Option α} (h : (if c then some a else b) = some r) : a = r ∨ b = some r := by
 by_cases hc : c
 ·rw [if_pos hc] at h; exact .inl (Option.some.inj h)
 ·rw [if_neg hc] at h; exact .inr h
theorem ite_P {α : Type} {P : α → Prop} {c : Prop} [Decidable c] {a b : α} (h1 : P a) (h2 : P b) : P (if c then a else b) := by
 by_cases hc : c
 ·rw [if_pos hc]; exact h1
 ·rw [if_neg hc]; exact h2
theorem reckon_fit {name : Str} {x : List Int} {r : List Int × Int} (hx : FitL x) (h : reckonS name x = some r) : FitL r.1 := by
 have f := fit_xat hx
 unfold reckonS at h
 rcases some_ite h with rfl | h
 ·exact fitL_two (fit_div (f 1)).2 (fit_div (f 1)).1
 rcases some_ite h with rfl | h
 ·exact fitL_one (fit_fdiv (f 2)).1
 rcases some_ite h with rfl | h
 ·exact fitL_two (fit_fdiv (f 2)).2 (fit_fdiv (f 2)).1
 rcases some_ite h with rfl | h
 ·exact fitL_two (fit_S _) (fit_S _)
 rcases some_ite h with rfl | h
 ·exact fitL_two (mulS_fit (f 0) (f 1)).1 (mulS_fit (f 0) (f 1)).2
 rcases some_ite h with rfl | h
 ·exact fitL_two fit_udiv.2 fit_udiv.1
 rcases some_ite h with rfl | h
 ·exact fitL_two (fit_sdiv (f 2)).2 (fit_sdiv (f 2)).1
 rcases some_ite h with rfl | h
 ·exact fitL_two (fit_fdiv (f 2)).2 (fit_fdiv (f 2)).1
 rcases some_ite h with rfl | h
 ·exact fitL_two (f 0) (fit_flag _)
 rcases some_ite h with rfl | h
 ·exact fitL_one (fit_flag _)
 rcases some_ite h with rfl | h
 ·exact fitL_one (by unfold Fit64; omega)
 rcases some_ite h with rfl | h
 ·exact fitL_one (by unfold Fit64; omega)
 rcases some_ite h with rfl | h
 ·exact fitL_one (by unfold Fit64; omega)
 rcases some_ite h with rfl | h
 ·exact fitL_one (by unfold Fit64; omega)
 rcases some_ite h with rfl | h
 ·exact fitL_one (by unfold Fit64; omega)
 cases h
theorem memory_kf {v : VVm} {name : Str} {x : List Int} {r : VVm × List Int × Int} (hx : FitL x) (h : memoryS v name x = some r) : KF v r := by
 have f := fit_xat hx
 unfold memoryS at h
 rcases some_ite h with rfl | h
 ·exact ⟨.refl v, fitL_one (fit_fetch _ _)⟩
 rcases some_ite h with rfl | h
 ·exact ⟨.refl v, fitL_one (fit_fetchB _ _)⟩
 rcases some_ite h with rfl | h
 ·exact ⟨keeps_put (keeps_store _ _ _) (by omega), fitL_nil⟩
 rcases some_ite h with rfl | h
 ·exact ⟨keeps_put (keeps_write _ _ _) (by omega), fitL_nil⟩
 rcases some_ite h with rfl | h
 ·exact ⟨keeps_put (keeps_addTo _ _) (by omega), fitL_nil⟩
 rcases some_ite h with rfl | h
 ·unfold pFetch2; split
  ·exact ⟨.refl v, fitL_two (fit_fetch _ _) (fit_fetch _ _)⟩
  ·exact ⟨.refl v, fitL_nil⟩
 rcases some_ite h with rfl | h
 ·exact ⟨keeps_put (keeps_store2 _ _) (by omega), fitL_nil⟩
 rcases some_ite h with rfl | h
 ·exact ⟨keeps_put (keeps_fill _ _ _ _) (by omega), fitL_nil⟩
 rcases some_ite h with rfl | h
 ·exact ⟨keeps_put (keeps_move _ _ _ _) (by omega), fitL_nil⟩
 rcases some_ite h with rfl | h
 ·exact ⟨.refl v, fitL_two (w64_fit _) (fit_fetchB _ _)⟩
 rcases some_ite h with rfl | h
 ·exact ⟨keeps_put (keeps_store _ _ _) (by omega), fitL_nil⟩
 rcases some_ite h with rfl | h
 ·exact ⟨keeps_put (keeps_store _ _ _) (by omega), fitL_nil⟩
 rcases some_ite h with rfl | h
 ·unfold pSetState; split
  ·exact ⟨keeps_put (keeps_store _ _ _) (by omega), fitL_nil⟩
  ·exact ⟨.refl v, fitL_nil⟩
 rcases some_ite h with rfl | h
 ·unfold pAtState; split
  ·exact ⟨keeps_put (keeps_store _ _ _) (by omega), fitL_nil⟩
  ·exact ⟨.refl v, fitL_nil⟩
 cases h
theorem allot_here {v : VVm} {x : List Int} (h0 : 1368 ≤ v.here) (h1 : v.here ≤ v.mem.b.length) : 1368 ≤ (pAllot v x).2.1 ∧ (pAllot v x).2.1 ≤ v.mem.b.length := by
 unfold pAllot spcAllot
 simp only
 split <;> simp only <;> omega
theorem space_kf {v : VVm} {name : Str} {x : List Int} {r : VVm × List Int × Int} (h : spaceS v name x = some r) : KF v r := by
 unfold spaceS at h
 rcases some_ite h with rfl | h
 ·exact ⟨keeps_lays (.refl _ _) (fun a b => allot_here a b), fitL_nil⟩
 rcases some_ite h with rfl | h
 ·refine ⟨keeps_lays ?_ ?_, fitL_nil⟩
  ·unfold spcComma; split
   ·exact keeps_lay _
   ·exact .refl _ _
  ·unfold spcComma; split
   ·exact fun a b => lay_here _ a b
   ·exact fun a b => ⟨a, b⟩
 rcases some_ite h with rfl | h
 ·exact ⟨keeps_lays (keeps_lay _) (fun a b => lay_here _ a b), fitL_nil⟩
 rcases some_ite h with rfl | h
 ·exact ⟨keeps_lays (keeps_lay _) (fun a b => lay_here _ a b), fitL_nil⟩
 cases h
theorem print_kf (v : VVm) (r : Str × Int) : KF v (pPrint v r) := ⟨keeps_print v r, by unfold pPrint; split <;> exact fitL_nil⟩
theorem pics_kf {v : VVm} {name : Str} {x : List Int} {r : VVm × List Int × Int} (hx : FitL x) (hc : -100 ≤ v.conf.mem ∧ v.conf.mem ≤ 100000) (hp : v.pic.b.length ≤ 1000000) (h : picsS v name x = some r) : KF v r := by
 have f := fit_xat hx
 unfold picsS at h
 rcases some_ite h with rfl | h
 ·exact ⟨keeps_pic (fun _ => ⟨by simp, .inl rfl⟩), fitL_nil⟩
 rcases some_ite h with rfl | h
 ·exact ⟨keeps_pic (digit_right _ _ _), fitL_two (digit_fit (f 0) (f 1)).1 (digit_fit (f 0) (f 1)).2⟩
 rcases some_ite h with rfl | h
 ·exact ⟨keeps_pic (all_right _ _ _), fitL_two fit_0 fit_0⟩
 rcases some_ite h with rfl | h
 ·exact ⟨keeps_pic (hold_right _), fitL_nil⟩
 rcases some_ite h with rfl | h
 ·exact ⟨keeps_pic (sign_right _), fitL_nil⟩
 rcases some_ite h with rfl | h
 ·refine ⟨keeps_end v, ?_⟩
  unfold pEnd; split
  ·have := picEnd_len v.pic
   exact fitL_two (w64_fit _) (by unfold Fit64; omega)
  ·exact fitL_nil
 cases h
theorem ask_kf {v : VVm} {name : Str} {x : List Int} {r : VVm × List Int × Int} (hn : Fit64 v.next) (h : askS2 v name x = some r) : KF v r := by
 unfold askS2 at h
 have ht : ∀ k, FitL (pTimer k v x).2.1 := fun k => by unfold pTimer; split; exact fitL_nil; split; exact fitL_nil; split; exact fitL_nil; split; exact fitL_nil; exact fitL_one hn
 rcases some_ite h with rfl | h
 ·exact ⟨keeps_post _ _, by unfold pPost; split; exact fitL_nil; split <;> exact fitL_nil⟩
 rcases some_ite h with rfl | h
 ·exact ⟨keeps_cancel _ _, by unfold pCancel; split <;> exact fitL_nil⟩
 rcases some_ite h with rfl | h
 ·exact ⟨keeps_timer _ _ _, ht _⟩
 rcases some_ite h with rfl | h
 ·exact ⟨keeps_timer _ _ _, ht _⟩
 cases h
theorem rest_kf {v : VVm} {name : Str} {x : List Int} (hh : Fit64 v.here ∧ Fit64 v.arg ∧ Fit64 v.self ∧ Fit64 v.now) : KF v (restS v name x) := by
 unfold restS
 split
 ·exact ⟨.refl v, fitL_one hh.1⟩
 ·split
  ·exact ⟨.refl v, fitL_one hh.2.1⟩
  ·split
   ·exact ⟨.refl v, fitL_one hh.2.2.1⟩
   ·split
    ·exact ⟨.refl v, fitL_one hh.2.2.2⟩
    ·split
     ·unfold pBody; split
      ·exact ⟨.refl v, fitL_nil⟩
      ·exact ⟨.refl v, fitL_one (w64_fit _)⟩
     ·exact ⟨.refl v, fitL_nil⟩
structure GoodV (N : Nat) (v : VVm) : Prop where
 right : right10 v = true
 old : v.mem.old.length ≤ N
 d : FitL v.d
 ints : Fit64 v.arg ∧ Fit64 v.self ∧ Fit64 v.now
structure RightP (v : VVm) : Prop where
 fits : fitsV v.conf
 mem : memRight v.mem = true
 dict : right9 v.dict = true
 pic : picRight v.pic
 len : (v.mem.b.length : Int) = v.conf.mem
 here0 : 1368 ≤ v.here
 here1 : v.here ≤ v.conf.mem
 f : v.f.all frameOk = true
 hand : v.hand.all handOk = true
 d : (v.d.length : Int) ≤ v.conf.data
 r : (v.r.length : Int) ≤ v.conf.ret
 fl : v.f.length ≤ 64
 dl : (v.dict.length : Int) ≤ v.conf.words
 out : (v.out.length : Int) ≤ v.conf.out
 req : v.req.length ≤ 16
 free0 : 0 ≤ v.free
 free1 : v.free ≤ 64
 next0 : 0 ≤ v.next
 next1 : v.next ≤ 4611686018427387904
 handl : v.hand.length ≤ 64
theorem right_iff (v : VVm) : right10 v = true ↔ RightP v := by
 unfold right10 rightA rightC
 simp only [Bool.and_eq_true, decide_eq_true_eq]
 constructor
 ·rintro ⟨⟨a1, a2, a3, a4, a5, a6, a7⟩, a8, a9, a10, a11, a12, a13, a14, a15, a16, a17, a18, a19, a20⟩
  exact ⟨a1, a2, a3, a4, a5, a6, a7, a8, a9, a10, a11, a12, a13, a14, a15, a16, a17, a18, a19, a20⟩
 ·rintro ⟨a1, a2, a3, a4, a5, a6, a7, a8, a9, a10, a11, a12, a13, a14, a15, a16, a17, a18, a19, a20⟩
  exact ⟨⟨a1, a2, a3, a4, a5, a6, a7⟩, a8, a9, a10, a11, a12, a13, a14, a15, a16, a17, a18, a19, a20⟩
theorem done_kf {v : VVm} {n : Int} {name : Str} {x : List Int} {N : Nat} (g : GoodV N v) (hx : FitL x) : KF v (doneS v n name x) := by
 have R := (right_iff v).1 g.right
 have f := fit_xat hx
 have hm := R.fits
 unfold fitsV at hm
 unfold doneS
 split
 ·exact ⟨.refl v, fitL_one (fit_twoS _ (f 0) (f 1))⟩
 ·split
  ·exact ⟨.refl v, fitL_one (fit_oneS _ (f 0))⟩
  ·cases h1 : reckonS name x with
   | some r => exact ⟨.refl v, reckon_fit hx h1⟩
   | none =>
    cases h2 : memoryS v name x with
    | some r => exact memory_kf hx h2
    | none =>
     cases h3 : spaceS v name x with
     | some r => exact space_kf h3
     | none =>
      cases h4 : textS v name x with
      | some r => exact print_kf v r
      | none =>
       cases h5 : picsS v name x with
       | some r => exact pics_kf hx (by omega) (by have := R.pic.1; omega) h5
       | none =>
        cases h6 : askS2 v name x with
        | some r => exact ask_kf (by have := R.next0; have := R.next1; unfold Fit64; omega) h6
        | none => exact rest_kf ⟨by have := R.here0; have := R.here1; unfold Fit64; omega, g.ints⟩
theorem left_fit {name : Str} {x : List Int} {d : Nat} (hx : FitL x) (hd : d ≤ 100000) : FitL (leftK name x d) := by
 have f := fit_xat hx
 have hq : ∀ l : List Int, (∀ a ∈ l, a ∈ x ∨ (∃ i, a = xat x i) ∨ a = d) → FitL l := fun l h a ha => by
  rcases h a ha with h | ⟨i, rfl⟩ | rfl
  ·exact hx a h
  ·exact f i
  ·unfold Fit64; omega
 unfold leftK
 refine ite_P (P := FitL) (hq _ fun a ha => by simp only [List.mem_cons, List.not_mem_nil, or_false] at ha; rcases ha with rfl | rfl <;> exact .inr (.inl ⟨_, rfl⟩)) ?_
 refine ite_P (P := FitL) (hq _ fun a ha => by simp only [List.mem_cons, List.not_mem_nil, or_false] at ha; rcases ha with rfl | rfl <;> exact .inr (.inl ⟨_, rfl⟩)) ?_
 refine ite_P (P := FitL) (hq _ fun a ha => by simp only [List.mem_cons, List.not_mem_nil, or_false] at ha; rcases ha with rfl | rfl | rfl <;> exact .inr (.inl ⟨_, rfl⟩)) ?_
 refine ite_P (P := FitL) (hq _ fun a ha => by simp only [List.mem_cons, List.not_mem_nil, or_false] at ha; subst ha; exact .inr (.inl ⟨_, rfl⟩)) ?_
 refine ite_P (P := FitL) (hq _ fun a ha => by simp only [List.mem_cons, List.not_mem_nil, or_false] at ha; rcases ha with rfl | rfl | rfl <;> exact .inr (.inl ⟨_, rfl⟩)) ?_
 refine ite_P (P := FitL) (hq _ fun a ha => by simp only [List.mem_cons, List.not_mem_nil, or_false] at ha; rcases ha with rfl | rfl | rfl <;> exact .inr (.inl ⟨_, rfl⟩)) ?_
 refine ite_P (P := FitL) (hq _ fun a ha => by simp only [List.mem_cons, List.not_mem_nil, or_false] at ha; rcases ha with rfl | rfl | rfl <;> exact .inr (.inl ⟨_, rfl⟩)) ?_
 refine ite_P (P := FitL) (hq _ fun a ha => by simp only [List.mem_cons, List.not_mem_nil, or_false] at ha; rcases ha with rfl | rfl | rfl | rfl <;> exact .inr (.inl ⟨_, rfl⟩)) ?_
 refine ite_P (P := FitL) (hq _ fun a ha => by simp only [List.mem_cons, List.not_mem_nil, or_false] at ha; rcases ha with rfl | rfl | rfl | rfl <;> exact .inr (.inl ⟨_, rfl⟩)) ?_
 refine ite_P (P := FitL) (hq _ fun a ha => by simp only [List.mem_cons, List.not_mem_nil, or_false] at ha; rcases ha with rfl | rfl | rfl | rfl | rfl | rfl <;> exact .inr (.inl ⟨_, rfl⟩)) ?_
 refine ite_P (P := FitL) (ite_P (P := FitL) hx (hq _ fun a ha => by simp only [List.mem_cons, List.not_mem_nil, or_false] at ha; rcases ha with rfl | rfl <;> exact .inr (.inl ⟨_, rfl⟩))) ?_
 refine ite_P (P := FitL) (hq _ fun a ha => by simp only [List.mem_cons, List.not_mem_nil, or_false] at ha; exact .inr (.inr ha)) ?_
 refine ite_P (P := FitL) (hq _ fun a ha => by rcases List.mem_append.1 ha with h | h; exact .inl (List.mem_of_mem_take h); exact .inr (.inl ⟨_, List.mem_singleton.1 h⟩)) ?_
 refine ite_P (P := FitL) (hq _ fun a ha => by rcases List.mem_append.1 ha with h | h; exact .inl (List.mem_of_mem_take (List.mem_of_mem_drop h)); exact .inr (.inl ⟨_, List.mem_singleton.1 h⟩)) ?_
 exact fitL_nil
theorem shuffle_fit {name : Str} {s : List Int} {limit : Int} (hs : FitL s) (hl : s.length ≤ 100000) : FitL (shuffleS name s limit).1 := by
 unfold shuffleS
 split
 ·exact hs
 ·split
  ·exact hs
  ·split
   ·exact hs
   ·intro a ha
    rcases List.mem_append.1 ha with ha | ha
    ·exact hs a (List.mem_of_mem_take ha)
    ·exact left_fit (fun b hb => hs b (List.mem_of_mem_drop hb)) hl a ha
theorem shuffle_len {name : Str} {s : List Int} {limit : Int} (hs : (s.length : Int) ≤ limit) : ((shuffleS name s limit).1.length : Int) ≤ limit := by
 unfold shuffleS
 split
 ·exact hs
 ·split
  ·exact hs
  ·split
   ·exact hs
   ·rename_i h; simp only [List.length_append, List.length_take]; omega
theorem keeps_right {v v' : VVm} {d : List Int} (R : RightP v) (K : Keeps v v') (hd : (d.length : Int) ≤ v.conf.data) : RightP { v' with d := d } := by
 have s := K.same
 unfold reset at s
 have e1 : v'.conf = v.conf := by rw [← s]
 have e2 : v'.dict = v.dict := by rw [← s]
 have e3 : v'.f = v.f := by rw [← s]
 have e4 : v'.hand = v.hand := by rw [← s]
 have e5 : v'.r = v.r := by rw [← s]
 have h1 := K.here R.here0 (by have := R.here1; have := R.len; omega)
 have h2 := K.free R.free0 R.free1
 have h3 := K.next R.next0 R.next1
 have hl := K.mem.len
 have hl2 := R.len
 exact ⟨by rw [e1]; exact R.fits, K.mem.right R.mem, by rw [e2]; exact R.dict, K.pic R.pic, by simp only [e1]; rw [hl]; exact hl2, h1.1, by simp only [e1]; omega, by rw [e3]; exact R.f, by rw [e4]; exact R.hand, by simp only [e1]; exact hd, by simp only [e1, e5]; exact R.r, by rw [e3]; exact R.fl, by simp only [e1, e2]; exact R.dl, by simp only [e1]; exact K.out R.out, K.req R.req, h2.1, h2.2, h3.1, h3.2, by rw [e4]; exact R.handl⟩
theorem doS_good {v : VVm} {n : Int} {N : Nat} (g : GoodV N v) : GoodV (N + 2) (doS v n).1 := by
 have R := (right_iff v).1 g.right
 have hc := R.fits
 unfold fitsV at hc
 have hdl := R.d
 have stay : GoodV (N + 2) v := ⟨g.right, by have := g.old; omega, g.d, g.ints⟩
 by_cases h : n < 23 ∨ 129 < n
 ·unfold doS; rw [if_pos h]; exact stay
 ·by_cases h1 : n ≤ 38
  ·unfold doS; rw [if_neg h]; simp only; rw [if_pos h1]
   refine ⟨(right_iff _).2 (keeps_right R (.refl v) (shuffle_len R.d)), by show v.mem.old.length ≤ _; have := g.old; omega, shuffle_fit g.d (by omega), g.ints⟩
  ·rw [doS_deed (by omega) (by omega)]
   have K := done_kf (n := n) (name := names.getD n.toNat []) g (x := v.d.drop (v.d.length - takesS n (names.getD n.toNat []))) (fun a ha => g.d a (List.mem_of_mem_drop ha))
   generalize doneS v n (names.getD n.toNat []) (v.d.drop (v.d.length - takesS n (names.getD n.toNat []))) = r at K ⊢
   unfold doR
   split
   ·exact stay
   ·split
    ·exact stay
    ·split
     ·exact stay
     ·rename_i q0 q1 q2
      have s := K.1.same
      unfold reset at s
      refine ⟨(right_iff _).2 (keeps_right R K.1 (by simp only [List.length_append, List.length_take]; omega)), ?_, fun a ha => ?_, ?_⟩
      ·have := K.1.mem.old; have := g.old; show _ ≤ _; simp only; omega
      ·rcases List.mem_append.1 ha with ha | ha
       ·exact g.d a (List.mem_of_mem_take ha)
       ·exact K.2 a ha
      ·have a1 : r.1.arg = v.arg := by have h := congrArg VVm.arg K.1.same; exact h
       have a2 : r.1.self = v.self := by have h := congrArg VVm.self K.1.same; exact h
       have a3 : r.1.now = v.now := by have h := congrArg VVm.now K.1.same; exact h
       simp only [a1, a2, a3]
       exact g.ints
theorem good_ok {v : VVm} {N : Nat} (g : GoodV N v) (hN : N ≤ 900000) : VmOk v := by
 have R := (right_iff v).1 g.right
 have hc := R.fits
 unfold fitsV at hc
 have h1 := R.len
 have h2 := g.old
 have h3 := R.here0
 have h4 := R.here1
 have h5 := R.out
 have h6 := R.pic.1
 have h7 := R.req
 have h8 := R.handl
 have h9 := R.d
 exact ⟨⟨by omega, by omega⟩, by omega, ⟨by omega, by omega⟩, by omega, by omega, by omega, by omega, by omega, by omega, g.d, by unfold Fit64; omega⟩
end Go.Proofs.YtphgdofmjpdhaaaGreat
