import Derived.Test.YtphgdofmjpdhaaaGreatPk10
set_option linter.unusedVariables false
set_option linter.unusedSimpArgs false
namespace Go.Proofs.YtphgdofmjpdhaaaGreat
open Go.RowKit
set_option linter.unusedVariables false
set_option maxRecDepth 100000
def runS : VVm → List Str → VVm × Bool
 | v, [] => (v, true)
 | v, n :: ns => if (doS v (numberS n)).2 = 0 then runS (doS v (numberS n)).1 ns else (v, false)
end Go.Proofs.YtphgdofmjpdhaaaGreat
namespace Go.Proofs.YtphgdofmjpdhaaaGreat
open Go.RowKit
set_option linter.unusedVariables false
set_option maxRecDepth 100000
set_option maxHeartbeats 4000000
theorem run_step (v : VVm) (ns : List Str) {k : Nat} (h : k < ns.length) : runS v (ns.drop k) = if (doS v (numberS (ns.getD k []))).2 = 0 then runS (doS v (numberS (ns.getD k []))).1 (ns.drop (k + 1)) else (v, false) := by
 rw [List.drop_eq_getElem_cons h]
 have e : ns.getD k [] = ns[k] := by unfold List.getD; rw [List.getElem?_eq_getElem h]; rfl
 rw [e]
 rfl
theorem law_run (v : VVm) (ns : List Str) (N : Nat) (g : GoodV N v) (hN : N ≤ 1000) (hn : ns.length ≤ 1000) : PureC Tryz.prog 20 [eVm v, sq cStr ns] (tup2 (eVm (runS v ns).1) (boo (runS v ns).2)) := by
 refine pW tG (rs := [.cell 4 36, .tmp 5]) Tryz.func20 rfl rfl rfl (by simp) (by simp) (fun B => ?_)
 refine Ws ?_
 refine W_region rfl ?_
 iterate 3 refine We tG rfl rfl rfl trivial ?_
 refine Wn ?_
 iterate 2 refine Ws ?_
 refine W_region rfl ?_
 refine We tG rfl rfl rfl trivial ?_
 refine Wn ?_
 refine Wl ?_
 show W _ _ _ _ _ _ _
 refine W_loopS (fun (s : VVm × Nat) => [(2, .ptr 0 0), (4, .ptr 1 0), (1, sq cStr ns), (6, i64 s.2)]) (fun (s : VVm × Nat) => [.cells (cVm s.1) 36, .cells vmZ 36]) (fun (s : VVm × Nat) => []) (fun (s : VVm × Nat) => s.2 ≤ ns.length ∧ GoodV (N + 2 * s.2) s.1 ∧ runS v ns = runS s.1 (ns.drop s.2)) (fun (s : VVm × Nat) => ns.length - s.2) ((v, 0)) (by exact ⟨Nat.zero_le _, g, rfl⟩) [] ?_ ?_
 ·exact ⟨rfl, ⟨(by repeat (first | exact reBase_nil | refine rB (.inl rfl) ?_ | refine rB (.inr rfl) ?_)), (by repeat (first | exact reX_nil | refine rX rfl ?_ | refine rX (by refine congrArg (fun q => some (Ob.free q)) ?_; simp <;> omega) ?_)), (by decide), (by repeat (first | exact moved_nil | refine mC (.inl (Nat.le_of_ble_eq_true rfl)) ?_ | refine mC (.inr rfl) ?_)), (by repeat (first | exact nlo_nil | exact nO nlo_nil | refine nlo_cells (by first | (refine nF ?_; simp; done) | (refine nF (flatL_map' ?_ _); intro x; simp; done) | (simp [NL1L, NL1]; done)) ?_ | refine nO ?_ | refine nlo_dead ?_ | refine nlo_iter ?_ | refine nlo_smap (by first | (refine nF ?_; simp; done) | (refine nF (flatL_map' ?_ _); intro x; simp; done) | (simp [NL1L, NL1]; done)) ?_))⟩, (by repeat (first | exact subL_nil | refine subL_cons (by first | exact imp_of rfl | exact imp_seq _ _ _ | exact imp_of (congrArg i64 (by first | (rw [i64w]; unfold wrap64; omega) | omega | (simp; done)))) ?_)), (by repeat (first | exact nls_nil | refine nls_cons (by first | (refine nl_flat ?_; simp; done) | (show _ < _; first | decide | (simp; done)) | (refine ⟨?_, flatL_map' ?_ _⟩ <;> first | decide | (intro x; simp; done) | (simp; done)) | (refine ⟨?_, ?_⟩ <;> first | decide | (simp; done)) | (simp [NL, NL1L, NL1]; done)) ?_))⟩
 ·intro s hs
  iterate 2 refine Ws ?_
  refine W_region rfl ?_
  iterate 4 refine We tG rfl rfl rfl trivial ?_
  refine Wn ?_
  refine Wi rfl (fun hi1 => ?_) (fun hi1 => ?_)
  ·have hlt : s.2 < ns.length := by have := of_decide_eq_true hi1; omega
   have hst := run_step s.1 ns hlt
   have gd := doS_good (n := numberS (ns.getD s.2 [])) hs.2.1
   have pd := prim_Do s.1 (good_ok hs.2.1 (by omega)) (numberS (ns.getD s.2 []))
   generalize doS s.1 (numberS (ns.getD s.2 [])) = r at hst gd pd
   refine Wj ?_
   refine Ws ?_
   refine Wl ?_
   refine Ws ?_
   refine W_drawU [1, 0, 0, 0, 0, 0, 0, 0, 0, 0, 2, 3, 0] [0, 1, 2, 3, 4, 5, 6, 7, 8, 9, 10, 11, 12] mG rfl (by kernel_rfl) ?_
   refine Xf tG rfl rfl rfl rfl (fun _ => rfl) trivial ?_
   refine Xe tG rfl rfl rfl rfl (fun _ => rfl) trivial ?_
   refine Xe tG rfl rfl rfl rfl (fun _ => rfl) trivial ?_
   first | refine Xi tG rfl rfl rfl rfl (fun _ => rfl) (by first | exact trivial | omega | (simp only [dnL] at *; omega) | (simp_all; done) | (simp_all; omega)) (iN cStr 1 (fun _ => rfl) [] (by first | exact trivial | omega | (simp only [dnL] at *; omega) | (simp_all; done) | (simp_all; omega))) ?_ | refine Xi tG rfl rfl rfl rfl (fun _ => rfl) (by first | exact trivial | omega | (simp only [dnL] at *; omega) | (simp_all; done) | (simp_all; omega)) (iR cStr 1 (fun _ => rfl) [] (by first | exact trivial | omega | (simp only [dnL] at *; omega) | (simp_all; done) | (simp_all; omega))) ?_
   refine Xe tG rfl rfl rfl rfl (fun _ => rfl) trivial ?_
   refine Xc rfl rfl rfl rfl (fun _ => dC rfl Tryz.func22 rfl rfl ((ref_Number (ns.getD s.2 [])) _)) ?_
   refine Xc rfl rfl rfl rfl (fun _ => dC rfl Tryz.func14 rfl rfl ((pd) _)) ?_
   refine Xe tG rfl rfl rfl rfl (fun _ => rfl) trivial ?_
   refine Xe tG rfl rfl rfl rfl (fun _ => rfl) trivial ?_
   refine Xe tG rfl rfl rfl rfl (fun _ => rfl) trivial ?_
   refine WU_ev2 tG rfl rfl rfl rfl rfl trivial rfl ?_
   refine WU_ev3 tG rfl rfl rfl rfl rfl trivial ?_
   refine Xe tG rfl rfl rfl rfl (fun _ => rfl) trivial ?_
   refine WU_nil ?_
   iterate 2 refine Ws ?_
   refine W_region rfl ?_
   iterate 2 refine We tG rfl rfl rfl trivial ?_
   refine Wn ?_
   refine Wi rfl (fun hi2 => ?_) (fun hi2 => ?_)
   ·have hne : r.2 ≠ 0 := by simpa using hi2
    refine Ws ?_
    refine W_region rfl ?_
    iterate 3 refine We tG rfl rfl rfl trivial ?_
    refine Wn ?_
    refine Wq ?_
    refine lP rfl ?_
    rw [hs.2.2, hst, if_neg hne]; rfl
   ·have hz : r.2 = 0 := by simpa using hi2
    refine Wj ?_
    refine W_region rfl ?_
    iterate 2 refine We tG rfl rfl rfl trivial ?_
    refine Wn ?_
    refine W_region rfl ?_
    iterate 3 refine We tG rfl rfl rfl trivial ?_
    refine Wn ?_
    exact ⟨(r.1, s.2 + 1), [], (by exact ⟨hlt, gd, by rw [hs.2.2, hst, if_pos hz]⟩), (by simp only; omega), ⟨rfl, ⟨(by repeat (first | exact reBase_nil | refine rB (.inl rfl) ?_ | refine rB (.inr rfl) ?_)), (by repeat (first | exact reX_nil | refine rX rfl ?_ | refine rX (by refine congrArg (fun q => some (Ob.free q)) ?_; simp <;> omega) ?_)), (by decide), (by repeat (first | exact moved_nil | refine mC (.inl (Nat.le_of_ble_eq_true rfl)) ?_ | refine mC (.inr rfl) ?_)), (by repeat (first | exact nlo_nil | exact nO nlo_nil | refine nlo_cells (by first | (refine nF ?_; simp; done) | (refine nF (flatL_map' ?_ _); intro x; simp; done) | (simp [NL1L, NL1]; done)) ?_ | refine nO ?_ | refine nlo_dead ?_ | refine nlo_iter ?_ | refine nlo_smap (by first | (refine nF ?_; simp; done) | (refine nF (flatL_map' ?_ _); intro x; simp; done) | (simp [NL1L, NL1]; done)) ?_))⟩, (by repeat (first | exact subL_nil | refine subL_cons (by first | exact imp_of rfl | exact imp_seq _ _ _ | exact imp_of (congrArg i64 (by first | (rw [i64w]; unfold wrap64; omega) | omega | (simp; done)))) ?_)), (by repeat (first | exact nls_nil | refine nls_cons (by first | (refine nl_flat ?_; simp; done) | (show _ < _; first | decide | (simp; done)) | (refine ⟨?_, flatL_map' ?_ _⟩ <;> first | decide | (intro x; simp; done) | (simp; done)) | (refine ⟨?_, ?_⟩ <;> first | decide | (simp; done)) | (simp [NL, NL1L, NL1]; done)) ?_))⟩⟩
  ·have hge : ns.length ≤ s.2 := by have := of_decide_eq_false hi1; omega
   refine W_exit ?_
   refine Ws ?_
   refine W_region rfl ?_
   iterate 3 refine We tG rfl rfl rfl trivial ?_
   refine Wn ?_
   refine Wq ?_
   refine lP rfl ?_
   rw [hs.2.2, List.drop_eq_nil_of_le hge]; rfl
end Go.Proofs.YtphgdofmjpdhaaaGreat
namespace Go.Proofs.YtphgdofmjpdhaaaGreat
open Go.RowKit
set_option linter.unusedVariables false
set_option maxRecDepth 100000
set_option maxHeartbeats 4000000
def rowsL : List (List Str) := [[[83, 87, 65, 80], [83, 87, 65, 80]], [[82, 79, 84], [45, 82, 79, 84]], [[68, 85, 80], [68, 82, 79, 80]], [[79, 86, 69, 82], [68, 82, 79, 80]], [[78, 69, 71, 65, 84, 69], [78, 69, 71, 65, 84, 69]], [[73, 78, 86, 69, 82, 84], [73, 78, 86, 69, 82, 84]], [[49, 43], [49, 45]], [[83, 62, 68], [68, 82, 79, 80]], [[50, 68, 85, 80], [50, 68, 82, 79, 80]], [[72, 69, 82, 69], [68, 82, 79, 80]]]
def sameL : List (List Str × List Str) := [([[84, 85, 67, 75]], [[83, 87, 65, 80], [79, 86, 69, 82]]), ([[78, 73, 80]], [[83, 87, 65, 80], [68, 82, 79, 80]]), ([[50, 68, 85, 80]], [[79, 86, 69, 82], [79, 86, 69, 82]]), ([[48, 61]], [[70, 65, 76, 83, 69], [61]]), ([[48, 60]], [[70, 65, 76, 83, 69], [60]]), ([[45]], [[78, 69, 71, 65, 84, 69], [43]]), ([[50, 42]], [[68, 85, 80], [43]])]
def withD (v : VVm) (d : List Int) : VVm := { v with d := d }
theorem pl_0 (a b c : Int) : runS (stockS [a, b, c]) [[83, 87, 65, 80], [83, 87, 65, 80]] = (withD (stockS [a, b, c]) [a, b, c], true) := by kernel_rfl
theorem pl_1 (a b c : Int) : runS (stockS [a, b, c]) [[82, 79, 84], [45, 82, 79, 84]] = (withD (stockS [a, b, c]) [a, b, c], true) := by kernel_rfl
theorem pl_2 (a b c : Int) : runS (stockS [a, b, c]) [[68, 85, 80], [68, 82, 79, 80]] = (withD (stockS [a, b, c]) [a, b, c], true) := by kernel_rfl
theorem pl_3 (a b c : Int) : runS (stockS [a, b, c]) [[79, 86, 69, 82], [68, 82, 79, 80]] = (withD (stockS [a, b, c]) [a, b, c], true) := by kernel_rfl
theorem pl_4 (a b c : Int) : runS (stockS [a, b, c]) [[78, 69, 71, 65, 84, 69], [78, 69, 71, 65, 84, 69]] = (withD (stockS [a, b, c]) [a, b, wrap64 (-wrap64 (-c))], true) := by kernel_rfl
theorem pl_5 (a b c : Int) : runS (stockS [a, b, c]) [[73, 78, 86, 69, 82, 84], [73, 78, 86, 69, 82, 84]] = (withD (stockS [a, b, c]) [a, b, -1 - (-1 - c)], true) := by kernel_rfl
theorem pl_6 (a b c : Int) : runS (stockS [a, b, c]) [[49, 43], [49, 45]] = (withD (stockS [a, b, c]) [a, b, wrap64 (wrap64 (c + 1) - 1)], true) := by kernel_rfl
theorem pl_7 (a b c : Int) : runS (stockS [a, b, c]) [[83, 62, 68], [68, 82, 79, 80]] = (withD (stockS [a, b, c]) [a, b, c], true) := by kernel_rfl
theorem pl_8 (a b c : Int) : runS (stockS [a, b, c]) [[50, 68, 85, 80], [50, 68, 82, 79, 80]] = (withD (stockS [a, b, c]) [a, b, c], true) := by kernel_rfl
theorem pl_9 (a b c : Int) : runS (stockS [a, b, c]) [[72, 69, 82, 69], [68, 82, 79, 80]] = (withD (stockS [a, b, c]) [a, b, c], true) := by kernel_rfl
theorem ps_0 (a b c : Int) : runS (stockS [a, b, c]) [[84, 85, 67, 75]] = (withD (stockS [a, b, c]) [a, c, b, c], true) := by kernel_rfl
theorem ps_1 (a b c : Int) : runS (stockS [a, b, c]) [[83, 87, 65, 80], [79, 86, 69, 82]] = (withD (stockS [a, b, c]) [a, c, b, c], true) := by kernel_rfl
theorem ps_2 (a b c : Int) : runS (stockS [a, b, c]) [[78, 73, 80]] = (withD (stockS [a, b, c]) [a, c], true) := by kernel_rfl
theorem ps_3 (a b c : Int) : runS (stockS [a, b, c]) [[83, 87, 65, 80], [68, 82, 79, 80]] = (withD (stockS [a, b, c]) [a, c], true) := by kernel_rfl
theorem ps_4 (a b c : Int) : runS (stockS [a, b, c]) [[50, 68, 85, 80]] = (withD (stockS [a, b, c]) [a, b, c, b, c], true) := by kernel_rfl
theorem ps_5 (a b c : Int) : runS (stockS [a, b, c]) [[79, 86, 69, 82], [79, 86, 69, 82]] = (withD (stockS [a, b, c]) [a, b, c, b, c], true) := by kernel_rfl
theorem ps_6 (a b c : Int) : runS (stockS [a, b, c]) [[48, 61]] = (withD (stockS [a, b, c]) [a, b, flagS (decide (c = 0))], true) := by kernel_rfl
theorem ps_7 (a b c : Int) : runS (stockS [a, b, c]) [[70, 65, 76, 83, 69], [61]] = (withD (stockS [a, b, c]) [a, b, flagS (decide (c = 0))], true) := by kernel_rfl
theorem ps_8 (a b c : Int) : runS (stockS [a, b, c]) [[48, 60]] = (withD (stockS [a, b, c]) [a, b, flagS (decide (c < 0))], true) := by kernel_rfl
theorem ps_9 (a b c : Int) : runS (stockS [a, b, c]) [[70, 65, 76, 83, 69], [60]] = (withD (stockS [a, b, c]) [a, b, flagS (decide (c < 0))], true) := by kernel_rfl
theorem ps_10 (a b c : Int) : runS (stockS [a, b, c]) [[45]] = (withD (stockS [a, b, c]) [a, wrap64 (b - c)], true) := by kernel_rfl
theorem ps_11 (a b c : Int) : runS (stockS [a, b, c]) [[78, 69, 71, 65, 84, 69], [43]] = (withD (stockS [a, b, c]) [a, wrap64 (b + wrap64 (-c))], true) := by kernel_rfl
theorem ps_12 (a b c : Int) : runS (stockS [a, b, c]) [[50, 42]] = (withD (stockS [a, b, c]) [a, b, wrap64 (c + c)], true) := by kernel_rfl
theorem ps_13 (a b c : Int) : runS (stockS [a, b, c]) [[68, 85, 80], [43]] = (withD (stockS [a, b, c]) [a, b, wrap64 (c + c)], true) := by kernel_rfl
theorem neg_neg64 {c : Int} (h : Fit64 c) : wrap64 (-wrap64 (-c)) = c := by unfold Fit64 at h; unfold wrap64; omega
theorem inc_dec64 {c : Int} (h : Fit64 c) : wrap64 (wrap64 (c + 1) - 1) = c := by unfold Fit64 at h; unfold wrap64; omega
theorem sub_neg64 {b c : Int} (h : Fit64 c) : wrap64 (b + wrap64 (-c)) = wrap64 (b - c) := by unfold Fit64 at h; unfold wrap64; omega
theorem inv_inv {c : Int} : -1 - (-1 - c) = c := by omega
theorem rows_ok {a b c : Int} (h : Fit64 c) (i : Nat) (hi : i < 10) : (runS (stockS [a, b, c]) (rowsL.getD i [])).2 = true ∧ (runS (stockS [a, b, c]) (rowsL.getD i [])).1.d = [a, b, c] := by
 have : i = 0 ∨ i = 1 ∨ i = 2 ∨ i = 3 ∨ i = 4 ∨ i = 5 ∨ i = 6 ∨ i = 7 ∨ i = 8 ∨ i = 9 := by omega
 rcases this with rfl | rfl | rfl | rfl | rfl | rfl | rfl | rfl | rfl | rfl
 ·rw [show rowsL.getD 0 [] = [[83, 87, 65, 80], [83, 87, 65, 80]] from rfl, pl_0]; exact ⟨rfl, rfl⟩
 ·rw [show rowsL.getD 1 [] = [[82, 79, 84], [45, 82, 79, 84]] from rfl, pl_1]; exact ⟨rfl, rfl⟩
 ·rw [show rowsL.getD 2 [] = [[68, 85, 80], [68, 82, 79, 80]] from rfl, pl_2]; exact ⟨rfl, rfl⟩
 ·rw [show rowsL.getD 3 [] = [[79, 86, 69, 82], [68, 82, 79, 80]] from rfl, pl_3]; exact ⟨rfl, rfl⟩
 ·rw [show rowsL.getD 4 [] = [[78, 69, 71, 65, 84, 69], [78, 69, 71, 65, 84, 69]] from rfl, pl_4]; exact ⟨rfl, by show [a, b, _] = _; rw [neg_neg64 h]⟩
 ·rw [show rowsL.getD 5 [] = [[73, 78, 86, 69, 82, 84], [73, 78, 86, 69, 82, 84]] from rfl, pl_5]; exact ⟨rfl, by show [a, b, _] = _; rw [inv_inv]⟩
 ·rw [show rowsL.getD 6 [] = [[49, 43], [49, 45]] from rfl, pl_6]; exact ⟨rfl, by show [a, b, _] = _; rw [inc_dec64 h]⟩
 ·rw [show rowsL.getD 7 [] = [[83, 62, 68], [68, 82, 79, 80]] from rfl, pl_7]; exact ⟨rfl, rfl⟩
 ·rw [show rowsL.getD 8 [] = [[50, 68, 85, 80], [50, 68, 82, 79, 80]] from rfl, pl_8]; exact ⟨rfl, rfl⟩
 ·rw [show rowsL.getD 9 [] = [[72, 69, 82, 69], [68, 82, 79, 80]] from rfl, pl_9]; exact ⟨rfl, rfl⟩
theorem same_ok {a b c : Int} (h : Fit64 c) (i : Nat) (hi : i < 7) : (runS (stockS [a, b, c]) (sameL.getD i default).1).2 = true ∧ (runS (stockS [a, b, c]) (sameL.getD i default).2).2 = true ∧
  (runS (stockS [a, b, c]) (sameL.getD i default).1).1.d = (runS (stockS [a, b, c]) (sameL.getD i default).2).1.d := by
 have : i = 0 ∨ i = 1 ∨ i = 2 ∨ i = 3 ∨ i = 4 ∨ i = 5 ∨ i = 6 := by omega
 rcases this with rfl | rfl | rfl | rfl | rfl | rfl | rfl
 ·rw [show sameL.getD 0 default = ([[84, 85, 67, 75]], [[83, 87, 65, 80], [79, 86, 69, 82]]) from rfl, ps_0, ps_1]; exact ⟨rfl, rfl, rfl⟩
 ·rw [show sameL.getD 1 default = ([[78, 73, 80]], [[83, 87, 65, 80], [68, 82, 79, 80]]) from rfl, ps_2, ps_3]; exact ⟨rfl, rfl, rfl⟩
 ·rw [show sameL.getD 2 default = ([[50, 68, 85, 80]], [[79, 86, 69, 82], [79, 86, 69, 82]]) from rfl, ps_4, ps_5]; exact ⟨rfl, rfl, rfl⟩
 ·rw [show sameL.getD 3 default = ([[48, 61]], [[70, 65, 76, 83, 69], [61]]) from rfl, ps_6, ps_7]; exact ⟨rfl, rfl, rfl⟩
 ·rw [show sameL.getD 4 default = ([[48, 60]], [[70, 65, 76, 83, 69], [60]]) from rfl, ps_8, ps_9]; exact ⟨rfl, rfl, rfl⟩
 ·rw [show sameL.getD 5 default = ([[45]], [[78, 69, 71, 65, 84, 69], [43]]) from rfl, ps_10, ps_11]; exact ⟨rfl, rfl, by show [a, _] = [a, _]; rw [sub_neg64 h]⟩
 ·rw [show sameL.getD 6 default = ([[50, 42]], [[68, 85, 80], [43]]) from rfl, ps_12, ps_13]; exact ⟨rfl, rfl, rfl⟩
end Go.Proofs.YtphgdofmjpdhaaaGreat
namespace Go.Proofs.YtphgdofmjpdhaaaGreat
open Go.RowKit
set_option linter.unusedVariables false
set_option maxRecDepth 100000
set_option maxHeartbeats 400000
def cStrs (l : List Str) : List PV := [sq cStr l]
def cPr (p : List Str × List Str) : List PV := [sq cStr p.1, sq cStr p.2]
structure VTrip where
 a : Int
 b : Int
 c : Int
 k : UInt8
def cTrip (x : VTrip) : List PV := [i64 x.a, i64 x.b, i64 x.c, .val (.int .u8 (x.k.toNat : Int))]
@[simp] theorem flat_cTrip (x : VTrip) : FlatL (cTrip x) := by simp [cTrip]
theorem fit3 {a b c : Int} (h1 : Fit64 a) (h2 : Fit64 b) (h3 : Fit64 c) : FitL [a, b, c] := fun x hx => by simp at hx; rcases hx with rfl | rfl | rfl <;> assumption
theorem run_len {N : Nat} {v : VVm} (g : GoodV N v) {ns : List Str} : ∃ M, GoodV M (runS v ns).1 := by
 induction ns generalizing v N with
 | nil => exact ⟨N, g⟩
 | cons n ns ih =>
  unfold runS
  split
  ·exact ih (doS_good g)
  ·exact ⟨N, g⟩
theorem good_d {N : Nat} {v : VVm} (g : GoodV N v) : v.d.length ≤ 1000000 := by
 have R := (right_iff v).1 g.right
 have hc := R.fits
 unfold fitsV at hc
 have := R.d
 omega
theorem kmod (k : UInt8) (n : Nat) (hn : 0 < n) : IntKind.i64.wrap (k.toNat : Int) = (k.toNat : Int) ∧ ((k.toNat : Int)).tmod (n : Int) = ((k.toNat % n : Nat) : Int) := by
 have := k.toNat_lt
 constructor
 ·simp only [i64w]; unfold wrap64; omega
 ·rw [Int.tmod_eq_emod_of_nonneg (by omega)]; omega
theorem getD_all {α : Type} {p : α → Prop} {l : List α} {d : α} (i : Nat) (h : ∀ x ∈ l, p x) (hd : p d) : p (l.getD i d) := by
 unfold List.getD
 cases hq : l[i]? with
 | none => exact hd
 | some y => exact h y (List.mem_of_getElem? hq)
theorem rows_len (i : Nat) : (rowsL.getD i []).length ≤ 1000 := getD_all (p := fun x : List Str => x.length ≤ 1000) i (by decide) (by decide)
theorem same_len (i : Nat) : (sameL.getD i default).1.length ≤ 1000 ∧ (sameL.getD i default).2.length ≤ 1000 := getD_all (p := fun x : List Str × List Str => x.1.length ≤ 1000 ∧ x.2.length ≤ 1000) i (by decide) (by decide)
theorem law_pairs_of (x : VTrip) (i j : Nat) (hi : x.k.toNat % 10 = i) (hj : x.k.toNat % 7 = j) (v y1 y2 y3 : VVm) (hsh : PureC Tryz.prog 12 [] (boo true)) (st : PureC Tryz.prog 21 [sq cInt [x.a, x.b, x.c]] (eVm v))
  (r1 : PureC Tryz.prog 20 [eVm v, sq cStr (rowsL.getD i default)] (tup2 (eVm y1) (boo true)))
  (r2 : PureC Tryz.prog 20 [eVm v, sq cStr (sameL.getD j default).1] (tup2 (eVm y2) (boo true)))
  (r3 : PureC Tryz.prog 20 [eVm v, sq cStr (sameL.getD j default).2] (tup2 (eVm y3) (boo true)))
  (s1 : PureC Tryz.prog 23 [sq cInt y1.d, sq cInt [x.a, x.b, x.c]] (boo true)) (s2 : PureC Tryz.prog 23 [sq cInt y2.d, sq cInt y3.d] (boo true)) : PureC Tryz.prog 11 [.agg (cTrip x)] (boo true) := by
 have hk1 : i < 10 := hi ▸ Nat.mod_lt _ (by decide)
 have hk2 : j < 7 := hj ▸ Nat.mod_lt _ (by decide)
 have km := (kmod x.k 10 (by decide)).1
 have k10 : ((x.k.toNat : Nat) : Int).tmod ((10 : Nat) : Int) = ((i : Nat) : Int) := hi ▸ (kmod x.k 10 (by decide)).2
 have k7 : ((x.k.toNat : Nat) : Int).tmod ((7 : Nat) : Int) = ((j : Nat) : Int) := hj ▸ (kmod x.k 7 (by decide)).2
 clear hi hj
 have hl1 : rowsL.length = 10 := rfl
 have hl2 : sameL.length = 7 := rfl
 refine pW tG (rs := [.tmp 2]) Tryz.func11 rfl rfl rfl (by simp) (by simp) (fun B => ?_)
 refine Ws ?_
 refine W_region rfl ?_
 iterate 2 refine We tG rfl rfl rfl trivial ?_
 refine Wn ?_
 refine Ws ?_
 refine W_region rfl ?_
 iterate 3 refine We tG rfl rfl rfl trivial ?_
 refine Wn ?_
 refine Ws ?_
 refine W_region rfl ?_
 iterate 3 refine We tG rfl rfl rfl trivial ?_
 refine Wn ?_
 refine Ws ?_
 refine W_region rfl ?_
 iterate 3 refine We tG rfl rfl rfl trivial ?_
 refine Wn ?_
 refine Ws ?_
 refine W_region rfl ?_
 iterate 3 refine We tG rfl rfl rfl trivial ?_
 refine Wn ?_
 refine Ws ?_
 refine W_region rfl ?_
 refine Wc rfl rfl (dC rfl Tryz.func12 rfl rfl ((hsh) _)) ?_
 refine We tG rfl rfl rfl trivial ?_
 refine Wn ?_
 refine Ws ?_
 refine W_region rfl ?_
 refine We tG rfl rfl rfl trivial ?_
 first | refine Wa 25 rfl (bsL cStr [_, _] rfl rfl) ?_ | skip
 refine Wm 25 rfl (imp_seq _ _ _) ?_
 refine We tG rfl rfl rfl trivial ?_
 first | refine Wa 26 rfl (bsL cStr [_, _] rfl rfl) ?_ | skip
 refine Wm 26 rfl (imp_seq _ _ _) ?_
 refine We tG rfl rfl rfl trivial ?_
 first | refine Wa 27 rfl (bsL cStr [_, _] rfl rfl) ?_ | skip
 refine Wm 27 rfl (imp_seq _ _ _) ?_
 refine We tG rfl rfl rfl trivial ?_
 first | refine Wa 28 rfl (bsL cStr [_, _] rfl rfl) ?_ | skip
 refine Wm 28 rfl (imp_seq _ _ _) ?_
 refine We tG rfl rfl rfl trivial ?_
 first | refine Wa 29 rfl (bsL cStr [_, _] rfl rfl) ?_ | skip
 refine Wm 29 rfl (imp_seq _ _ _) ?_
 refine We tG rfl rfl rfl trivial ?_
 first | refine Wa 30 rfl (bsL cStr [_, _] rfl rfl) ?_ | skip
 refine Wm 30 rfl (imp_seq _ _ _) ?_
 refine We tG rfl rfl rfl trivial ?_
 first | refine Wa 31 rfl (bsL cStr [_, _] rfl rfl) ?_ | skip
 refine Wm 31 rfl (imp_seq _ _ _) ?_
 refine We tG rfl rfl rfl trivial ?_
 first | refine Wa 32 rfl (bsL cStr [_, _] rfl rfl) ?_ | skip
 refine Wm 32 rfl (imp_seq _ _ _) ?_
 refine We tG rfl rfl rfl trivial ?_
 first | refine Wa 33 rfl (bsL cStr [_, _] rfl rfl) ?_ | skip
 refine Wm 33 rfl (imp_seq _ _ _) ?_
 refine We tG rfl rfl rfl trivial ?_
 first | refine Wa 34 rfl (bsL cStr [_, _] rfl rfl) ?_ | skip
 refine Wm 34 rfl (imp_seq _ _ _) ?_
 refine Wd rfl rfl (does_buildSlice (out := rowsL.flatMap cStrs) (lO tG rfl) rfl (lO tG rfl) rfl rfl (by kernel_rfl)) ?_
 refine Wa 35 rfl (show PV.seq 10 _ .clip = .seq rowsL.length _ .clip from rfl) ?_
 refine We tG rfl rfl rfl trivial ?_
 refine Wn ?_
 refine Ws ?_
 refine W_region rfl ?_
 refine We tG rfl rfl rfl trivial ?_
 first | refine Wa 36 rfl (bsL cStr [_] rfl rfl) ?_ | skip
 refine Wm 36 rfl (imp_seq _ _ _) ?_
 refine We tG rfl rfl rfl trivial ?_
 first | refine Wa 37 rfl (bsL cStr [_, _] rfl rfl) ?_ | skip
 refine Wm 37 rfl (imp_seq _ _ _) ?_
 iterate 2 refine We tG rfl rfl rfl trivial ?_
 first | refine Wa 39 rfl (bsL cStr [_] rfl rfl) ?_ | skip
 refine Wm 39 rfl (imp_seq _ _ _) ?_
 refine We tG rfl rfl rfl trivial ?_
 first | refine Wa 40 rfl (bsL cStr [_, _] rfl rfl) ?_ | skip
 refine Wm 40 rfl (imp_seq _ _ _) ?_
 iterate 2 refine We tG rfl rfl rfl trivial ?_
 first | refine Wa 42 rfl (bsL cStr [_] rfl rfl) ?_ | skip
 refine Wm 42 rfl (imp_seq _ _ _) ?_
 refine We tG rfl rfl rfl trivial ?_
 first | refine Wa 43 rfl (bsL cStr [_, _] rfl rfl) ?_ | skip
 refine Wm 43 rfl (imp_seq _ _ _) ?_
 iterate 2 refine We tG rfl rfl rfl trivial ?_
 first | refine Wa 45 rfl (bsL cStr [_] rfl rfl) ?_ | skip
 refine Wm 45 rfl (imp_seq _ _ _) ?_
 refine We tG rfl rfl rfl trivial ?_
 first | refine Wa 46 rfl (bsL cStr [_, _] rfl rfl) ?_ | skip
 refine Wm 46 rfl (imp_seq _ _ _) ?_
 iterate 2 refine We tG rfl rfl rfl trivial ?_
 first | refine Wa 48 rfl (bsL cStr [_] rfl rfl) ?_ | skip
 refine Wm 48 rfl (imp_seq _ _ _) ?_
 refine We tG rfl rfl rfl trivial ?_
 first | refine Wa 49 rfl (bsL cStr [_, _] rfl rfl) ?_ | skip
 refine Wm 49 rfl (imp_seq _ _ _) ?_
 iterate 2 refine We tG rfl rfl rfl trivial ?_
 first | refine Wa 51 rfl (bsL cStr [_] rfl rfl) ?_ | skip
 refine Wm 51 rfl (imp_seq _ _ _) ?_
 refine We tG rfl rfl rfl trivial ?_
 first | refine Wa 52 rfl (bsL cStr [_, _] rfl rfl) ?_ | skip
 refine Wm 52 rfl (imp_seq _ _ _) ?_
 iterate 2 refine We tG rfl rfl rfl trivial ?_
 first | refine Wa 54 rfl (bsL cStr [_] rfl rfl) ?_ | skip
 refine Wm 54 rfl (imp_seq _ _ _) ?_
 refine We tG rfl rfl rfl trivial ?_
 first | refine Wa 55 rfl (bsL cStr [_, _] rfl rfl) ?_ | skip
 refine Wm 55 rfl (imp_seq _ _ _) ?_
 refine We tG rfl rfl rfl trivial ?_
 refine Wd rfl rfl (does_buildSlice (out := sameL.flatMap cPr) (lO tG rfl) rfl (lO tG rfl) rfl rfl (by kernel_rfl)) ?_
 refine Wa 57 rfl (show PV.seq 7 _ .clip = .seq sameL.length _ .clip from rfl) ?_
 refine We tG rfl rfl rfl trivial ?_
 refine Wn ?_
 refine Ws ?_
 refine W_drawU [0, 0, 0, 0, 0, 0, 0, 0, 0, 0, 0, 0, 0, 0, 0, 0, 0, 2, 3, 0] [0, 1, 2, 3, 4, 5, 6, 7, 8, 9, 10, 11, 12, 13, 14, 15, 16, 17, 18, 19] mG rfl (by kernel_rfl) ?_
 refine Xe tG rfl rfl rfl rfl (fun _ => rfl) trivial ?_
 refine Xe tG rfl rfl rfl rfl (fun _ => rfl) trivial ?_
 refine Xe tG rfl rfl rfl rfl (fun _ => rfl) trivial ?_
 refine Xe tG rfl rfl rfl rfl (fun _ => rfl) trivial ?_
 first | refine Xa 62 rfl (bsL cInt [_, _, _] rfl rfl) ?_ | skip
 refine Xc rfl rfl rfl rfl (fun _ => dC rfl Tryz.func21 rfl rfl ((st) _)) ?_
 refine Xe tG rfl rfl rfl rfl (fun _ => rfl) trivial ?_
 refine Xe tG rfl rfl rfl rfl (fun _ => rfl) trivial ?_
 refine Xe tG rfl rfl rfl rfl (fun _ => rfl) trivial ?_
 refine Xa 66 rfl (congrArg (fun z => PV.val (Value.int .i64 z)) km) ?_
 refine Xe tG rfl rfl rfl rfl (fun _ => rfl) trivial ?_
 refine Xe tG rfl rfl rfl rfl (fun _ => rfl) trivial ?_
 refine Xe tG rfl rfl rfl rfl (fun _ => rfl) trivial ?_
 refine Xa 69 rfl (congrArg (fun z => PV.val (Value.int .i64 z)) k10) ?_
 first | refine Xi tG rfl rfl rfl rfl (fun _ => rfl) (by omega) (iN cStrs 1 (fun _ => rfl) default (by first | exact trivial | omega | (simp only [dnL] at *; omega) | (simp_all; done) | (simp_all; omega))) ?_ | refine Xi tG rfl rfl rfl rfl (fun _ => rfl) (by omega) (iR cStrs 1 (fun _ => rfl) default (by first | exact trivial | omega | (simp only [dnL] at *; omega) | (simp_all; done) | (simp_all; omega))) ?_
 refine Xe tG rfl rfl rfl rfl (fun _ => rfl) trivial ?_
 refine Xc rfl rfl rfl rfl (fun _ => dC rfl Tryz.func20 rfl rfl ((r1) _)) ?_
 refine Xe tG rfl rfl rfl rfl (fun _ => rfl) trivial ?_
 refine Xe tG rfl rfl rfl rfl (fun _ => rfl) trivial ?_
 refine Xe tG rfl rfl rfl rfl (fun _ => rfl) trivial ?_
 refine WU_ev2 tG rfl rfl rfl rfl rfl trivial rfl ?_
 refine WU_ev3 tG rfl rfl rfl rfl rfl trivial ?_
 refine Xe tG rfl rfl rfl rfl (fun _ => rfl) trivial ?_
 refine WU_nil ?_
 refine Ws ?_
 refine W_drawU [0, 0, 0, 0, 0, 0, 0, 0, 0, 0, 0, 0, 0, 0, 0, 0, 0, 0, 2, 3, 0] [0, 1, 2, 3, 4, 5, 6, 7, 8, 9, 10, 11, 12, 13, 14, 15, 16, 17, 18, 19, 20] mG rfl (by kernel_rfl) ?_
 refine Xe tG rfl rfl rfl rfl (fun _ => rfl) trivial ?_
 refine Xe tG rfl rfl rfl rfl (fun _ => rfl) trivial ?_
 refine Xe tG rfl rfl rfl rfl (fun _ => rfl) trivial ?_
 refine Xe tG rfl rfl rfl rfl (fun _ => rfl) trivial ?_
 first | refine Xa 79 rfl (bsL cInt [_, _, _] rfl rfl) ?_ | skip
 refine Xc rfl rfl rfl rfl (fun _ => dC rfl Tryz.func21 rfl rfl ((st) _)) ?_
 refine Xe tG rfl rfl rfl rfl (fun _ => rfl) trivial ?_
 refine Xe tG rfl rfl rfl rfl (fun _ => rfl) trivial ?_
 refine Xe tG rfl rfl rfl rfl (fun _ => rfl) trivial ?_
 refine Xa 83 rfl (congrArg (fun z => PV.val (Value.int .i64 z)) km) ?_
 refine Xe tG rfl rfl rfl rfl (fun _ => rfl) trivial ?_
 refine Xe tG rfl rfl rfl rfl (fun _ => rfl) trivial ?_
 refine Xe tG rfl rfl rfl rfl (fun _ => rfl) trivial ?_
 refine Xa 86 rfl (congrArg (fun z => PV.val (Value.int .i64 z)) k7) ?_
 first | refine Xi tG rfl rfl rfl rfl (fun _ => rfl) (by omega) (iN cPr 2 (fun _ => rfl) default (by first | exact trivial | omega | (simp only [dnL] at *; omega) | (simp_all; done) | (simp_all; omega))) ?_ | refine Xi tG rfl rfl rfl rfl (fun _ => rfl) (by omega) (iR cPr 2 (fun _ => rfl) default (by first | exact trivial | omega | (simp only [dnL] at *; omega) | (simp_all; done) | (simp_all; omega))) ?_
 refine Xe tG rfl rfl rfl rfl (fun _ => rfl) (by first | exact trivial | omega | (simp only [dnL] at *; omega) | (simp_all; done) | (simp_all; omega)) ?_
 refine Xe tG rfl rfl rfl rfl (fun _ => rfl) trivial ?_
 refine Xc rfl rfl rfl rfl (fun _ => dC rfl Tryz.func20 rfl rfl ((r2) _)) ?_
 refine Xe tG rfl rfl rfl rfl (fun _ => rfl) trivial ?_
 refine Xe tG rfl rfl rfl rfl (fun _ => rfl) trivial ?_
 refine Xe tG rfl rfl rfl rfl (fun _ => rfl) trivial ?_
 refine WU_ev2 tG rfl rfl rfl rfl rfl trivial rfl ?_
 refine WU_ev3 tG rfl rfl rfl rfl rfl trivial ?_
 refine Xe tG rfl rfl rfl rfl (fun _ => rfl) trivial ?_
 refine WU_nil ?_
 refine Ws ?_
 refine W_drawU [0, 0, 0, 0, 0, 0, 0, 0, 0, 0, 0, 0, 0, 0, 0, 0, 0, 0, 2, 3, 0] [0, 1, 2, 3, 4, 5, 6, 7, 8, 9, 10, 11, 12, 13, 14, 15, 16, 17, 18, 19, 20] mG rfl (by kernel_rfl) ?_
 refine Xe tG rfl rfl rfl rfl (fun _ => rfl) trivial ?_
 refine Xe tG rfl rfl rfl rfl (fun _ => rfl) trivial ?_
 refine Xe tG rfl rfl rfl rfl (fun _ => rfl) trivial ?_
 refine Xe tG rfl rfl rfl rfl (fun _ => rfl) trivial ?_
 first | refine Xa 97 rfl (bsL cInt [_, _, _] rfl rfl) ?_ | skip
 refine Xc rfl rfl rfl rfl (fun _ => dC rfl Tryz.func21 rfl rfl ((st) _)) ?_
 refine Xe tG rfl rfl rfl rfl (fun _ => rfl) trivial ?_
 refine Xe tG rfl rfl rfl rfl (fun _ => rfl) trivial ?_
 refine Xe tG rfl rfl rfl rfl (fun _ => rfl) trivial ?_
 refine Xa 101 rfl (congrArg (fun z => PV.val (Value.int .i64 z)) km) ?_
 refine Xe tG rfl rfl rfl rfl (fun _ => rfl) trivial ?_
 refine Xe tG rfl rfl rfl rfl (fun _ => rfl) trivial ?_
 refine Xe tG rfl rfl rfl rfl (fun _ => rfl) trivial ?_
 refine Xa 104 rfl (congrArg (fun z => PV.val (Value.int .i64 z)) k7) ?_
 first | refine Xi tG rfl rfl rfl rfl (fun _ => rfl) (by first | exact trivial | omega | (simp only [dnL] at *; omega) | (simp_all; done) | (simp_all; omega)) (iN cPr 2 (fun _ => rfl) default (by first | exact trivial | omega | (simp only [dnL] at *; omega) | (simp_all; done) | (simp_all; omega))) ?_ | refine Xi tG rfl rfl rfl rfl (fun _ => rfl) (by first | exact trivial | omega | (simp only [dnL] at *; omega) | (simp_all; done) | (simp_all; omega)) (iR cPr 2 (fun _ => rfl) default (by first | exact trivial | omega | (simp only [dnL] at *; omega) | (simp_all; done) | (simp_all; omega))) ?_
 refine Xe tG rfl rfl rfl rfl (fun _ => rfl) (by first | exact trivial | omega | (simp only [dnL] at *; omega) | (simp_all; done) | (simp_all; omega)) ?_
 refine Xe tG rfl rfl rfl rfl (fun _ => rfl) trivial ?_
 refine Xc rfl rfl rfl rfl (fun _ => dC rfl Tryz.func20 rfl rfl ((r3) _)) ?_
 refine Xe tG rfl rfl rfl rfl (fun _ => rfl) trivial ?_
 refine Xe tG rfl rfl rfl rfl (fun _ => rfl) trivial ?_
 refine Xe tG rfl rfl rfl rfl (fun _ => rfl) trivial ?_
 refine WU_ev2 tG rfl rfl rfl rfl rfl trivial rfl ?_
 refine WU_ev3 tG rfl rfl rfl rfl rfl trivial ?_
 refine Xe tG rfl rfl rfl rfl (fun _ => rfl) trivial ?_
 refine WU_nil ?_
 refine Ws ?_
 refine W_region rfl ?_
 iterate 5 refine We tG rfl rfl rfl trivial ?_
 refine WO_true 115 rfl (by rfl) ?_
 iterate 3 refine We tG rfl rfl rfl trivial ?_
 refine WO_true 118 rfl (by rfl) ?_
 iterate 3 refine We tG rfl rfl rfl trivial ?_
 refine WO_true 121 rfl (by rfl) ?_
 iterate 6 refine We tG rfl rfl rfl trivial ?_
 first | refine Wa 127 rfl (bsL cInt [_, _, _] rfl rfl) ?_ | skip
 refine Wc rfl rfl (dC rfl Tryz.func23 rfl rfl ((s1) _)) ?_
 iterate 2 refine We tG rfl rfl rfl trivial ?_
 refine WO_true 130 rfl (by rfl) ?_
 iterate 4 refine We tG rfl rfl rfl trivial ?_
 refine Wc rfl rfl (dC rfl Tryz.func23 rfl rfl ((s2) _)) ?_
 iterate 2 refine We tG rfl rfl rfl trivial ?_
 refine Wn ?_
 refine Wq ?_
 refine lP rfl ?_
 first | rfl | (simp_all; done) | (simp_all; omega)
theorem law_pairs (x : VTrip) (ha : Fit64 x.a) (hb : Fit64 x.b) (hc : Fit64 x.c) : PureC Tryz.prog 11 [.agg (cTrip x)] (boo true) := by
 have hk1 : x.k.toNat % 10 < 10 := Nat.mod_lt _ (by decide)
 have hk2 : x.k.toNat % 7 < 7 := Nat.mod_lt _ (by decide)
 have g := stock_good (d := [x.a, x.b, x.c]) (by simp) (fit3 ha hb hc)
 have r1 := law_run (stockS [x.a, x.b, x.c]) (rowsL.getD (x.k.toNat % 10) []) 0 g (by decide) (rows_len _)
 have r2 := law_run (stockS [x.a, x.b, x.c]) (sameL.getD (x.k.toNat % 7) default).1 0 g (by decide) (same_len _).1
 have r3 := law_run (stockS [x.a, x.b, x.c]) (sameL.getD (x.k.toNat % 7) default).2 0 g (by decide) (same_len _).2
 have o1 := rows_ok (a := x.a) (b := x.b) hc _ hk1
 have o2 := same_ok (a := x.a) (b := x.b) hc _ hk2
 obtain ⟨_, g1⟩ := run_len g (ns := rowsL.getD (x.k.toNat % 10) [])
 obtain ⟨_, g2⟩ := run_len g (ns := (sameL.getD (x.k.toNat % 7) default).1)
 obtain ⟨_, g3⟩ := run_len g (ns := (sameL.getD (x.k.toNat % 7) default).2)
 have s1 := ref_Same4 (runS (stockS [x.a, x.b, x.c]) (rowsL.getD (x.k.toNat % 10) [])).1.d [x.a, x.b, x.c] (good_d g1) (by simp)
 have s2 := ref_Same4 (runS (stockS [x.a, x.b, x.c]) (sameL.getD (x.k.toNat % 7) default).1).1.d (runS (stockS [x.a, x.b, x.c]) (sameL.getD (x.k.toNat % 7) default).2).1.d (good_d g2) (good_d g3)
 rw [o1.1] at r1
 rw [o2.1] at r2
 rw [o2.2.1] at r3
 rw [decide_eq_true o1.2] at s1
 rw [decide_eq_true o2.2.2] at s2
 exact law_pairs_of x _ _ rfl rfl _ _ _ _ law_shown (law_stocked _) r1 r2 r3 s1 s2
end Go.Proofs.YtphgdofmjpdhaaaGreat
namespace Go.Proofs.YtphgdofmjpdhaaaGreat
open Go.RowKit
open Go.WideShapes
set_option linter.unusedVariables false
set_option maxRecDepth 100000
theorem rd_Trip {w : World} {cs : List Value} (h : Rd w 65 cs) : ∃ x : VTrip, (Fit64 x.a ∧ Fit64 x.b ∧ Fit64 x.c) ∧ RepL (c0 w) (cTrip x) cs := by
 have h0 := rd_all Tryz.underlying65 [(3, 1), (3, 1), (3, 1), (5, 1)] (by kernel_rfl) (by kernel_rfl) (by kernel_rfl) h
 simp only [RdAll] at h0
 obtain ⟨a0, b0, e0, _, r0, t0⟩ := h0
 obtain ⟨a1, b1, e1, _, r1, t1⟩ := t0
 obtain ⟨a2, b2, e2, _, r2, t2⟩ := t1
 obtain ⟨a3, b3, e3, _, r3, t3⟩ := t2
 obtain ⟨x0, k0, p0⟩ := rd_int64 r0
 obtain ⟨x1, k1, p1⟩ := rd_int64 r1
 obtain ⟨x2, k2, p2⟩ := rd_int64 r2
 obtain ⟨x3, k3, p3⟩ := rd_byte r3
 refine ⟨⟨x0, x1, x2, x3⟩, ⟨k0, k1, k2⟩, ?_⟩
 subst e0 e1 e2 e3
 have key := (RepL.append p0 (RepL.append p1 (RepL.append p2 (RepL.append p3 (repL_nil.2 t3)))))
 exact key
theorem walk_PrimPairs (v0 : Value) (w : World) (h0 : Reads w 65 v0) :
  Calls Tryz.prog 11 #[v0] w fun e w' => e = .returned (.bool true) ∧ Below w.heap.size w w' := by
 obtain ⟨cs, h1, h2⟩ := reads_struct Tryz.underlying65 h0
 obtain ⟨x, ⟨ha, hb, hc⟩, h4⟩ := rd_Trip h2.2
 exact law_calls (args := [.agg (cTrip x)]) (law_pairs x ha hb hc) (repL_cons.2 ⟨reads_agg (t := 65) ⟨cs, h1, h4⟩, repL_nil.2 rfl⟩)
end Go.Proofs.YtphgdofmjpdhaaaGreat
