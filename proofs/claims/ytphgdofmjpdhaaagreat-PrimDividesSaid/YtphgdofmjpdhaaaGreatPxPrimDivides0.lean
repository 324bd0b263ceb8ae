import Derived.Test.YtphgdofmjpdhaaaGreatPk10
set_option linter.unusedVariables false
set_option linter.unusedSimpArgs false
namespace Go.Proofs.YtphgdofmjpdhaaaGreat
open Go.RowKit
set_option linter.unusedVariables false
set_option maxRecDepth 100000
def runS : VVm → List Str → VVm × Bool
 | v, [] => (v, true)
 | v, n :: ns => if (doS v (numberS n)).2 = 0 then runS (doS v (numberS n)).1 ns else (v, false)
end Go.Proofs.YtphgdofmjpdhaaaGreat
namespace Go.Proofs.YtphgdofmjpdhaaaGreat
open Go.RowKit
set_option linter.unusedVariables false
set_option maxRecDepth 100000
set_option maxHeartbeats 4000000
theorem run_step (v : VVm) (ns : List Str) {k : Nat} (h : k < ns.length) : runS v (ns.drop k) = if (doS v (numberS (ns.getD k []))).2 = 0 then runS (doS v (numberS (ns.getD k []))).1 (ns.drop (k + 1)) else (v, false) := by
 rw [List.drop_eq_getElem_cons h]
 have e : ns.getD k [] = ns[k] := by unfold List.getD; rw [List.getElem?_eq_getElem h]; rfl
 rw [e]
 rfl
theorem law_run (v : VVm) (ns : List Str) (N : Nat) (g : GoodV N v) (hN : N ≤ 1000) (hn : ns.length ≤ 1000) : PureC Tryz.prog 20 [eVm v, sq cStr ns] (tup2 (eVm (runS v ns).1) (boo (runS v ns).2)) := by
 refine pW tG (rs := [.cell 4 36, .tmp 5]) Tryz.func20 rfl rfl rfl (by simp) (by simp) (fun B => ?_)
 refine Ws ?_
 refine W_region rfl ?_
 iterate 3 refine We tG rfl rfl rfl trivial ?_
 refine Wn ?_
 iterate 2 refine Ws ?_
 refine W_region rfl ?_
 refine We tG rfl rfl rfl trivial ?_
 refine Wn ?_
 refine Wl ?_
 show W _ _ _ _ _ _ _
 refine W_loopS (fun (s : VVm × Nat) => [(2, .ptr 0 0), (4, .ptr 1 0), (1, sq cStr ns), (6, i64 s.2)]) (fun (s : VVm × Nat) => [.cells (cVm s.1) 36, .cells vmZ 36]) (fun (s : VVm × Nat) => []) (fun (s : VVm × Nat) => s.2 ≤ ns.length ∧ GoodV (N + 2 * s.2) s.1 ∧ runS v ns = runS s.1 (ns.drop s.2)) (fun (s : VVm × Nat) => ns.length - s.2) ((v, 0)) (by exact ⟨Nat.zero_le _, g, rfl⟩) [] ?_ ?_
 ·exact ⟨rfl, ⟨(by repeat (first | exact reBase_nil | refine rB (.inl rfl) ?_ | refine rB (.inr rfl) ?_)), (by repeat (first | exact reX_nil | refine rX rfl ?_ | refine rX (by refine congrArg (fun q => some (Ob.free q)) ?_; simp <;> omega) ?_)), (by decide), (by repeat (first | exact moved_nil | refine mC (.inl (Nat.le_of_ble_eq_true rfl)) ?_ | refine mC (.inr rfl) ?_)), (by repeat (first | exact nlo_nil | exact nO nlo_nil | refine nlo_cells (by first | (refine nF ?_; simp; done) | (refine nF (flatL_map' ?_ _); intro x; simp; done) | (simp [NL1L, NL1]; done)) ?_ | refine nO ?_ | refine nlo_dead ?_ | refine nlo_iter ?_ | refine nlo_smap (by first | (refine nF ?_; simp; done) | (refine nF (flatL_map' ?_ _); intro x; simp; done) | (simp [NL1L, NL1]; done)) ?_))⟩, (by repeat (first | exact subL_nil | refine subL_cons (by first | exact imp_of rfl | exact imp_seq _ _ _ | exact imp_of (congrArg i64 (by first | (rw [i64w]; unfold wrap64; omega) | omega | (simp; done)))) ?_)), (by repeat (first | exact nls_nil | refine nls_cons (by first | (refine nl_flat ?_; simp; done) | (show _ < _; first | decide | (simp; done)) | (refine ⟨?_, flatL_map' ?_ _⟩ <;> first | decide | (intro x; simp; done) | (simp; done)) | (refine ⟨?_, ?_⟩ <;> first | decide | (simp; done)) | (simp [NL, NL1L, NL1]; done)) ?_))⟩
 ·intro s hs
  iterate 2 refine Ws ?_
  refine W_region rfl ?_
  iterate 4 refine We tG rfl rfl rfl trivial ?_
  refine Wn ?_
  refine Wi rfl (fun hi1 => ?_) (fun hi1 => ?_)
  ·have hlt : s.2 < ns.length := by have := of_decide_eq_true hi1; omega
   have hst := run_step s.1 ns hlt
   have gd := doS_good (n := numberS (ns.getD s.2 [])) hs.2.1
   have pd := prim_Do s.1 (good_ok hs.2.1 (by omega)) (numberS (ns.getD s.2 []))
   generalize doS s.1 (numberS (ns.getD s.2 [])) = r at hst gd pd
   refine Wj ?_
   refine Ws ?_
   refine Wl ?_
   refine Ws ?_
   refine W_drawU [1, 0, 0, 0, 0, 0, 0, 0, 0, 0, 2, 3, 0] [0, 1, 2, 3, 4, 5, 6, 7, 8, 9, 10, 11, 12] mG rfl (by kernel_rfl) ?_
   refine Xf tG rfl rfl rfl rfl (fun _ => rfl) trivial ?_
   refine Xe tG rfl rfl rfl rfl (fun _ => rfl) trivial ?_
   refine Xe tG rfl rfl rfl rfl (fun _ => rfl) trivial ?_
   first | refine Xi tG rfl rfl rfl rfl (fun _ => rfl) (by first | exact trivial | omega | (simp only [dnL] at *; omega) | (simp_all; done) | (simp_all; omega)) (iN cStr 1 (fun _ => rfl) [] (by first | exact trivial | omega | (simp only [dnL] at *; omega) | (simp_all; done) | (simp_all; omega))) ?_ | refine Xi tG rfl rfl rfl rfl (fun _ => rfl) (by first | exact trivial | omega | (simp only [dnL] at *; omega) | (simp_all; done) | (simp_all; omega)) (iR cStr 1 (fun _ => rfl) [] (by first | exact trivial | omega | (simp only [dnL] at *; omega) | (simp_all; done) | (simp_all; omega))) ?_
   refine Xe tG rfl rfl rfl rfl (fun _ => rfl) trivial ?_
   refine Xc rfl rfl rfl rfl (fun _ => dC rfl Tryz.func22 rfl rfl ((ref_Number (ns.getD s.2 [])) _)) ?_
   refine Xc rfl rfl rfl rfl (fun _ => dC rfl Tryz.func14 rfl rfl ((pd) _)) ?_
   refine Xe tG rfl rfl rfl rfl (fun _ => rfl) trivial ?_
   refine Xe tG rfl rfl rfl rfl (fun _ => rfl) trivial ?_
   refine Xe tG rfl rfl rfl rfl (fun _ => rfl) trivial ?_
   refine WU_ev2 tG rfl rfl rfl rfl rfl trivial rfl ?_
   refine WU_ev3 tG rfl rfl rfl rfl rfl trivial ?_
   refine Xe tG rfl rfl rfl rfl (fun _ => rfl) trivial ?_
   refine WU_nil ?_
   iterate 2 refine Ws ?_
   refine W_region rfl ?_
   iterate 2 refine We tG rfl rfl rfl trivial ?_
   refine Wn ?_
   refine Wi rfl (fun hi2 => ?_) (fun hi2 => ?_)
   ·have hne : r.2 ≠ 0 := by simpa using hi2
    refine Ws ?_
    refine W_region rfl ?_
    iterate 3 refine We tG rfl rfl rfl trivial ?_
    refine Wn ?_
    refine Wq ?_
    refine lP rfl ?_
    rw [hs.2.2, hst, if_neg hne]; rfl
   ·have hz : r.2 = 0 := by simpa using hi2
    refine Wj ?_
    refine W_region rfl ?_
    iterate 2 refine We tG rfl rfl rfl trivial ?_
    refine Wn ?_
    refine W_region rfl ?_
    iterate 3 refine We tG rfl rfl rfl trivial ?_
    refine Wn ?_
    exact ⟨(r.1, s.2 + 1), [], (by exact ⟨hlt, gd, by rw [hs.2.2, hst, if_pos hz]⟩), (by simp only; omega), ⟨rfl, ⟨(by repeat (first | exact reBase_nil | refine rB (.inl rfl) ?_ | refine rB (.inr rfl) ?_)), (by repeat (first | exact reX_nil | refine rX rfl ?_ | refine rX (by refine congrArg (fun q => some (Ob.free q)) ?_; simp <;> omega) ?_)), (by decide), (by repeat (first | exact moved_nil | refine mC (.inl (Nat.le_of_ble_eq_true rfl)) ?_ | refine mC (.inr rfl) ?_)), (by repeat (first | exact nlo_nil | exact nO nlo_nil | refine nlo_cells (by first | (refine nF ?_; simp; done) | (refine nF (flatL_map' ?_ _); intro x; simp; done) | (simp [NL1L, NL1]; done)) ?_ | refine nO ?_ | refine nlo_dead ?_ | refine nlo_iter ?_ | refine nlo_smap (by first | (refine nF ?_; simp; done) | (refine nF (flatL_map' ?_ _); intro x; simp; done) | (simp [NL1L, NL1]; done)) ?_))⟩, (by repeat (first | exact subL_nil | refine subL_cons (by first | exact imp_of rfl | exact imp_seq _ _ _ | exact imp_of (congrArg i64 (by first | (rw [i64w]; unfold wrap64; omega) | omega | (simp; done)))) ?_)), (by repeat (first | exact nls_nil | refine nls_cons (by first | (refine nl_flat ?_; simp; done) | (show _ < _; first | decide | (simp; done)) | (refine ⟨?_, flatL_map' ?_ _⟩ <;> first | decide | (intro x; simp; done) | (simp; done)) | (refine ⟨?_, ?_⟩ <;> first | decide | (simp; done)) | (simp [NL, NL1L, NL1]; done)) ?_))⟩⟩
  ·have hge : ns.length ≤ s.2 := by have := of_decide_eq_false hi1; omega
   refine W_exit ?_
   refine Ws ?_
   refine W_region rfl ?_
   iterate 3 refine We tG rfl rfl rfl trivial ?_
   refine Wn ?_
   refine Wq ?_
   refine lP rfl ?_
   rw [hs.2.2, List.drop_eq_nil_of_le hge]; rfl
end Go.Proofs.YtphgdofmjpdhaaaGreat
namespace Go.Proofs.YtphgdofmjpdhaaaGreat
open Go.RowKit
set_option linter.unusedVariables false
set_option maxRecDepth 100000
set_option maxHeartbeats 4000000
def withD (v : VVm) (d : List Int) : VVm := { v with d := d }
end Go.Proofs.YtphgdofmjpdhaaaGreat
namespace Go.Proofs.YtphgdofmjpdhaaaGreat
open Go.RowKit
set_option linter.unusedVariables false
set_option maxRecDepth 100000
set_option maxHeartbeats 400000
theorem fit3 {a b c : Int} (h1 : Fit64 a) (h2 : Fit64 b) (h3 : Fit64 c) : FitL [a, b, c] := fun x hx => by simp at hx; rcases hx with rfl | rfl | rfl <;> assumption
end Go.Proofs.YtphgdofmjpdhaaaGreat
namespace Go.Proofs.YtphgdofmjpdhaaaGreat
open Go.RowKit
set_option linter.unusedVariables false
set_option maxRecDepth 100000
set_option maxHeartbeats 4000000
theorem run_cons {v v' : VVm} {n : Str} {ns : List Str} (h : doS v (numberS n) = (v', 0)) : runS v (n :: ns) = runS v' ns := by
 show (if (doS v (numberS n)).2 = 0 then runS (doS v (numberS n)).1 ns else (v, false)) = _
 rw [h]; rfl
theorem run_nil (v : VVm) : runS v [] = (v, true) := rfl
end Go.Proofs.YtphgdofmjpdhaaaGreat
namespace Go.Proofs.YtphgdofmjpdhaaaGreat
open Go.RowKit
open Go.WideShapes
set_option linter.unusedVariables false
set_option maxRecDepth 100000
set_option maxHeartbeats 4000000
theorem run_of {d : List Int} {ns : List Str} {y : VVm} (hd : d.length ≤ 32) (hf : FitL d) (hn : ns.length ≤ 1000) (h : runS (stockS d) ns = (y, true)) : PureC Tryz.prog 20 [eVm (stockS d), sq cStr ns] (tup2 (eVm y) (boo true)) := by
 have := law_run (stockS d) ns 0 (stock_good hd hf) (by decide) hn
 rw [h] at this
 exact this
end Go.Proofs.YtphgdofmjpdhaaaGreat
namespace Go.Proofs.YtphgdofmjpdhaaaGreat
open Go.RowKit
set_option linter.unusedVariables false
set_option maxRecDepth 100000
set_option maxHeartbeats 4000000
theorem PS_mulP (a b : Int) : PS (mulS a b).1 (mulS a b).2 = a * b := by
 unfold PS mulS
 simp only
 generalize a * b = P
 unfold U wrap64
 omega
theorem mul_hi2 {a b : Int} (ha : Fit64 a) (hb : Fit64 b) : Fit64 (a * b / 18446744073709551616) := by
 unfold Fit64 at *
 have h : (a * b).natAbs ≤ 9223372036854775808 * 9223372036854775808 := by
  rw [Int.natAbs_mul]; exact Nat.mul_le_mul (by omega) (by omega)
 generalize a * b = P at h
 omega
theorem dv_word (u : VVm) (a b c : Int) : doS (withD u [a, b, c]) (numberS [42, 47, 77, 79, 68]) = doR (withD u [a, b, c]) 3 (withD u [a, b, c], [(fdivS (mulS a b).1 (mulS a b).2 c).2.1, (fdivS (mulS a b).1 (mulS a b).2 c).1], (fdivS (mulS a b).1 (mulS a b).2 c).2.2) := by kernel_rfl
theorem dv_mul {u : VVm} (a b : Int) (hc : u.conf.data = 32) : doS (withD u [a, b]) (numberS [77, 42]) = (withD u [(mulS a b).1, (mulS a b).2], 0) := by
 have e : doS (withD u [a, b]) (numberS [77, 42]) = doR (withD u [a, b]) 2 (withD u [a, b], [(mulS a b).1, (mulS a b).2], 0) := by kernel_rfl
 rw [e]
 exact doR_ok (Nat.le_of_ble_eq_true rfl) rfl (by show ((2 : Nat) : Int) ≤ u.conf.data; rw [hc]; decide)
theorem run_bad {v : VVm} {n : Str} {ns : List Str} {e : Int} (h : doS v (numberS n) = (v, e)) (h0 : e ≠ 0) : runS v (n :: ns) = (v, false) := by
 show (if (doS v (numberS n)).2 = 0 then runS (doS v (numberS n)).1 ns else (v, false)) = _
 rw [h, if_neg h0]
theorem dv_zero (a b : Int) : doS (stockS [a, b, 0]) (numberS [42, 47, 77, 79, 68]) = (stockS [a, b, 0], -10) := by
 have h := dv_word (stockS []) a b 0
 rw [show fdivS (mulS a b).1 (mulS a b).2 0 = (0, 0, -10) by unfold fdivS; rw [if_pos rfl]] at h
 exact h.trans (doR_bad (Nat.le_of_ble_eq_true rfl) (show (-10 : Int) ≠ 0 by decide))
theorem dv_big {a b c : Int} (h0 : c ≠ 0) (hf : ¬ fits ((a * b).fdiv c) = true) : doS (stockS [a, b, c]) (numberS [42, 47, 77, 79, 68]) = (stockS [a, b, c], -11) := by
 have h := dv_word (stockS []) a b c
 rw [show fdivS (mulS a b).1 (mulS a b).2 c = (0, 0, -11) by unfold fdivS; rw [if_neg h0, PS_mulP, if_neg hf]] at h
 exact h.trans (doR_bad (Nat.le_of_ble_eq_true rfl) (show (-11 : Int) ≠ 0 by decide))
theorem dv_good {a b c : Int} (h0 : c ≠ 0) (hf : fits ((a * b).fdiv c) = true) : runS (stockS [a, b, c]) [[42, 47, 77, 79, 68]] = (stockS [(a * b).fmod c, (a * b).fdiv c], true) := by
 have h := dv_word (stockS []) a b c
 rw [show fdivS (mulS a b).1 (mulS a b).2 c = ((a * b).fdiv c, (a * b).fmod c, 0) by unfold fdivS; rw [if_neg h0, PS_mulP, if_pos hf]] at h
 have h2 : doS (stockS [a, b, c]) (numberS [42, 47, 77, 79, 68]) = (stockS [(a * b).fmod c, (a * b).fdiv c], 0) := h.trans (doR_ok (Nat.le_of_ble_eq_true rfl) rfl (by show ((2 : Nat) : Int) ≤ 32; decide))
 rw [run_cons h2, run_nil]
theorem run_mul (a b : Int) : runS (stockS [a, b]) [[77, 42]] = (stockS [wrap64 (a * b), a * b / 18446744073709551616], true) := by
 rw [show stockS [a, b] = withD (stockS []) [a, b] from rfl, run_cons (dv_mul a b rfl), run_nil]
 rfl
theorem div_low {X r P : Int} (h : X + r = P) : IntKind.i64.wrap (IntKind.u64.wrap (IntKind.u64.wrap (wrap64 X) + IntKind.u64.wrap r)) = wrap64 P := by
 subst h
 simp only [U_wrap, i64w]
 unfold U wrap64
 omega
theorem div_high {X r P : Int} (hr : Fit64 r) (h : X + r = P) (hP : Fit64 (P / 18446744073709551616)) (A B : Int)
  (hA : A = if r < 0 then IntKind.i64.wrap (X / 18446744073709551616 - 1) else X / 18446744073709551616)
  (hB : B = if IntKind.u64.wrap (IntKind.u64.wrap (wrap64 X) + IntKind.u64.wrap r) < IntKind.u64.wrap (wrap64 X) then IntKind.i64.wrap (A + 1) else A) : B = P / 18446744073709551616 := by
 subst h
 simp only [U_wrap, i64w] at hA hB
 unfold Fit64 at hr hP
 have e1 : ((U (wrap64 X) : Nat) : Int) = X % 18446744073709551616 := by unfold U wrap64; omega
 have e2 : ((U r : Nat) : Int) = r % 18446744073709551616 := by unfold U; omega
 have e3 : ((U (((U (wrap64 X) : Nat) : Int) + ((U r : Nat) : Int)) : Nat) : Int) = (X % 18446744073709551616 + r % 18446744073709551616) % 18446744073709551616 := by rw [e1, e2]; unfold U; omega
 rw [e3, e1] at hB
 unfold wrap64 at hA hB
 clear e1 e2 e3
 by_cases h1 : r < 0
 ·rw [if_pos h1] at hA
  by_cases h2 : (X % 18446744073709551616 + r % 18446744073709551616) % 18446744073709551616 < X % 18446744073709551616
  ·rw [if_pos h2] at hB; omega
  ·rw [if_neg h2] at hB; omega
 ·rw [if_neg h1] at hA
  by_cases h2 : (X % 18446744073709551616 + r % 18446744073709551616) % 18446744073709551616 < X % 18446744073709551616
  ·rw [if_pos h2] at hB; omega
  ·rw [if_neg h2] at hB; omega
end Go.Proofs.YtphgdofmjpdhaaaGreat
namespace Go.Proofs.YtphgdofmjpdhaaaGreat
open Go.RowKit
open Go.WideShapes
set_option linter.unusedVariables false
set_option maxRecDepth 100000
set_option maxHeartbeats 4000000
theorem law_div_zero (a b : Int) (v : VVm) (hsh : PureC Tryz.prog 12 [] (boo true)) (st : PureC Tryz.prog 21 [sq cInt [a, b, 0]] (eVm v)) (r1 : PureC Tryz.prog 20 [eVm v, sq cStr [[42, 47, 77, 79, 68]]] (tup2 (eVm v) (boo false)))
  (nm : PureC Tryz.prog 22 [str [42, 47, 77, 79, 68]] (i64 75)) (pd : PureC Tryz.prog 14 [eVm v, i64 75] (tVm (v, -10))) : PureC Tryz.prog 6 [i64 a, i64 b, i64 0] (boo true) := by
 refine pW tG (rs := [.tmp 6]) Tryz.func6 rfl rfl rfl (by simp) (by simp) (fun B => ?_)
 refine Ws ?_
 refine W_region rfl ?_
 refine We tG rfl rfl rfl trivial ?_
 refine Wn ?_
 refine Ws ?_
 refine W_region rfl ?_
 refine Wc rfl rfl (dC rfl Tryz.func12 rfl rfl ((hsh) _)) ?_
 refine We tG rfl rfl rfl trivial ?_
 refine Wn ?_
 refine Ws ?_
 refine W_region rfl ?_
 iterate 4 refine We tG rfl rfl rfl trivial ?_
 first | refine Wa 25 rfl (bsL cInt [_, _, _] rfl rfl) ?_ | skip
 refine Wc rfl rfl (dC rfl Tryz.func21 rfl rfl ((st) _)) ?_
 refine We tG rfl rfl rfl trivial ?_
 first | refine Wa 27 rfl (bsL cStr [_] rfl rfl) ?_ | skip
 refine Wc rfl rfl (dC rfl Tryz.func20 rfl rfl ((r1) _)) ?_
 iterate 6 refine We tG rfl rfl rfl trivial ?_
 refine Wn ?_
 iterate 2 refine Ws ?_
 refine W_region rfl ?_
 iterate 2 refine We tG rfl rfl rfl trivial ?_
 refine Wn ?_
 refine Wt rfl (by rfl) ?_
 refine Ws ?_
 refine W_region rfl ?_
 iterate 4 refine We tG rfl rfl rfl trivial ?_
 first | refine Wa 37 rfl (bsL cInt [_, _, _] rfl rfl) ?_ | skip
 refine Wc rfl rfl (dC rfl Tryz.func21 rfl rfl ((st) _)) ?_
 refine Wc rfl rfl (dC rfl Tryz.func22 rfl rfl ((nm) _)) ?_
 refine Wc rfl rfl (dC rfl Tryz.func14 rfl rfl ((pd) _)) ?_
 iterate 6 refine We tG rfl rfl rfl trivial ?_
 refine Wn ?_
 refine Ws ?_
 refine W_region rfl ?_
 iterate 2 refine We tG rfl rfl rfl trivial ?_
 refine WO_true 44 rfl (by rfl) ?_
 iterate 3 refine We tG rfl rfl rfl trivial ?_
 refine WO_true 47 rfl (by rfl) ?_
 iterate 4 refine We tG rfl rfl rfl trivial ?_
 refine WO_true 51 rfl (by rfl) ?_
 iterate 6 refine Wk rfl rfl ?_
 iterate 3 refine We tG rfl rfl rfl trivial ?_
 refine Wn ?_
 refine Wq ?_
 refine lP rfl ?_
 first | rfl | (simp_all; done) | (simp_all; omega)
theorem law_div_big (a b c : Int) (hc : c ≠ 0) (v : VVm) (hsh : PureC Tryz.prog 12 [] (boo true)) (st : PureC Tryz.prog 21 [sq cInt [a, b, c]] (eVm v)) (r1 : PureC Tryz.prog 20 [eVm v, sq cStr [[42, 47, 77, 79, 68]]] (tup2 (eVm v) (boo false)))
  (nm : PureC Tryz.prog 22 [str [42, 47, 77, 79, 68]] (i64 75)) (pd : PureC Tryz.prog 14 [eVm v, i64 75] (tVm (v, -11))) : PureC Tryz.prog 6 [i64 a, i64 b, i64 c] (boo true) := by
 refine pW tG (rs := [.tmp 6]) Tryz.func6 rfl rfl rfl (by simp) (by simp) (fun B => ?_)
 refine Ws ?_
 refine W_region rfl ?_
 refine We tG rfl rfl rfl trivial ?_
 refine Wn ?_
 refine Ws ?_
 refine W_region rfl ?_
 refine Wc rfl rfl (dC rfl Tryz.func12 rfl rfl ((hsh) _)) ?_
 refine We tG rfl rfl rfl trivial ?_
 refine Wn ?_
 refine Ws ?_
 refine W_region rfl ?_
 iterate 4 refine We tG rfl rfl rfl trivial ?_
 first | refine Wa 25 rfl (bsL cInt [_, _, _] rfl rfl) ?_ | skip
 refine Wc rfl rfl (dC rfl Tryz.func21 rfl rfl ((st) _)) ?_
 refine We tG rfl rfl rfl trivial ?_
 first | refine Wa 27 rfl (bsL cStr [_] rfl rfl) ?_ | skip
 refine Wc rfl rfl (dC rfl Tryz.func20 rfl rfl ((r1) _)) ?_
 iterate 6 refine We tG rfl rfl rfl trivial ?_
 refine Wn ?_
 iterate 2 refine Ws ?_
 refine W_region rfl ?_
 iterate 2 refine We tG rfl rfl rfl trivial ?_
 refine Wn ?_
 refine Wt rfl (by rfl) ?_
 refine Ws ?_
 refine W_region rfl ?_
 iterate 4 refine We tG rfl rfl rfl trivial ?_
 first | refine Wa 37 rfl (bsL cInt [_, _, _] rfl rfl) ?_ | skip
 refine Wc rfl rfl (dC rfl Tryz.func21 rfl rfl ((st) _)) ?_
 refine Wc rfl rfl (dC rfl Tryz.func22 rfl rfl ((nm) _)) ?_
 refine Wc rfl rfl (dC rfl Tryz.func14 rfl rfl ((pd) _)) ?_
 iterate 6 refine We tG rfl rfl rfl trivial ?_
 refine Wn ?_
 refine Ws ?_
 refine W_region rfl ?_
 iterate 2 refine We tG rfl rfl rfl trivial ?_
 refine WO_true 44 rfl (by rfl) ?_
 iterate 3 refine We tG rfl rfl rfl trivial ?_
 refine WO_false 47 rfl (by rfl) ?_
 iterate 2 refine Wk rfl rfl ?_
 iterate 5 refine We tG rfl rfl rfl trivial ?_
 refine WO_true 54 rfl (by rfl) ?_
 iterate 6 refine We tG rfl rfl rfl trivial ?_
 refine Wn ?_
 refine Wq ?_
 refine lP rfl ?_
 exact congrArg boo (by simp [hc])
theorem law_div_good (a b c q r X P l h : Int) (hr : Fit64 r) (hX : X + r = P) (hP : Fit64 (P / 18446744073709551616)) (hl : l = wrap64 X) (hh : h = X / 18446744073709551616) (v x1 v2 y1 v3 z1 : VVm) (hsh : PureC Tryz.prog 12 [] (boo true))
  (st : PureC Tryz.prog 21 [sq cInt [a, b, c]] (eVm v)) (r1 : PureC Tryz.prog 20 [eVm v, sq cStr [[42, 47, 77, 79, 68]]] (tup2 (eVm x1) (boo true))) (d1 : x1.d = [r, q])
  (st2 : PureC Tryz.prog 21 [sq cInt [q, c]] (eVm v2)) (r2 : PureC Tryz.prog 20 [eVm v2, sq cStr [[77, 42]]] (tup2 (eVm y1) (boo true))) (d2 : y1.d = [l, h])
  (st3 : PureC Tryz.prog 21 [sq cInt [a, b]] (eVm v3)) (r3 : PureC Tryz.prog 20 [eVm v3, sq cStr [[77, 42]]] (tup2 (eVm z1) (boo true))) (d3 : z1.d = [wrap64 P, P / 18446744073709551616]) : PureC Tryz.prog 6 [i64 a, i64 b, i64 c] (boo true) := by
 have n1 : x1.d.length = 2 := by rw [d1]; rfl
 have n2 : y1.d.length = 2 := by rw [d2]; rfl
 have n3 : z1.d.length = 2 := by rw [d3]; rfl
 have hlow := div_low hX
 rw [← hl] at hlow
 refine pW tG (rs := [.tmp 6]) Tryz.func6 rfl rfl rfl (by simp) (by simp) (fun B => ?_)
 refine Ws ?_
 refine W_region rfl ?_
 refine We tG rfl rfl rfl trivial ?_
 refine Wn ?_
 refine Ws ?_
 refine W_region rfl ?_
 refine Wc rfl rfl (dC rfl Tryz.func12 rfl rfl ((hsh) _)) ?_
 refine We tG rfl rfl rfl trivial ?_
 refine Wn ?_
 refine Ws ?_
 refine W_region rfl ?_
 iterate 4 refine We tG rfl rfl rfl trivial ?_
 first | refine Wa 25 rfl (bsL cInt [_, _, _] rfl rfl) ?_ | skip
 refine Wc rfl rfl (dC rfl Tryz.func21 rfl rfl ((st) _)) ?_
 refine We tG rfl rfl rfl trivial ?_
 first | refine Wa 27 rfl (bsL cStr [_] rfl rfl) ?_ | skip
 refine Wc rfl rfl (dC rfl Tryz.func20 rfl rfl ((r1) _)) ?_
 iterate 6 refine We tG rfl rfl rfl trivial ?_
 refine Wn ?_
 iterate 2 refine Ws ?_
 refine W_region rfl ?_
 iterate 2 refine We tG rfl rfl rfl trivial ?_
 refine Wn ?_
 refine Wf rfl (by rfl) ?_
 refine Wj ?_
 iterate 2 refine Ws ?_
 refine W_region rfl ?_
 iterate 4 refine We tG rfl rfl rfl trivial ?_
 refine Wn ?_
 refine Wf rfl (by rw [n1]; rfl) ?_
 refine Wj ?_
 refine Ws ?_
 refine W_region rfl ?_
 iterate 2 refine We tG rfl rfl rfl trivial ?_
 first | refine Wv tG rfl rfl rfl (by first | exact trivial | omega | (simp only [dnL] at *; omega) | (simp_all; done) | (simp_all; omega)) (iN cInt 1 (fun _ => rfl) 0 (by first | exact trivial | omega | (simp only [dnL] at *; omega) | (simp_all; done) | (simp_all; omega))) ?_ | refine Wv tG rfl rfl rfl (by first | exact trivial | omega | (simp only [dnL] at *; omega) | (simp_all; done) | (simp_all; omega)) (iR cInt 1 (fun _ => rfl) 0 (by first | exact trivial | omega | (simp only [dnL] at *; omega) | (simp_all; done) | (simp_all; omega))) ?_
 refine We tG rfl rfl rfl trivial ?_
 refine Wa 67 rfl ((show i64 (x1.d.getD 0 default) = i64 r by rw [d1]; rfl)) ?_
 refine We tG rfl rfl rfl trivial ?_
 refine Wn ?_
 refine Ws ?_
 refine W_region rfl ?_
 iterate 2 refine We tG rfl rfl rfl trivial ?_
 first | refine Wv tG rfl rfl rfl (by first | exact trivial | omega | (simp only [dnL] at *; omega) | (simp_all; done) | (simp_all; omega)) (iN cInt 1 (fun _ => rfl) 0 (by first | exact trivial | omega | (simp only [dnL] at *; omega) | (simp_all; done) | (simp_all; omega))) ?_ | refine Wv tG rfl rfl rfl (by first | exact trivial | omega | (simp only [dnL] at *; omega) | (simp_all; done) | (simp_all; omega)) (iR cInt 1 (fun _ => rfl) 0 (by first | exact trivial | omega | (simp only [dnL] at *; omega) | (simp_all; done) | (simp_all; omega))) ?_
 refine We tG rfl rfl rfl trivial ?_
 refine Wa 71 rfl ((show i64 (x1.d.getD 1 default) = i64 q by rw [d1]; rfl)) ?_
 refine We tG rfl rfl rfl trivial ?_
 refine Wn ?_
 refine Ws ?_
 refine W_region rfl ?_
 iterate 3 refine We tG rfl rfl rfl trivial ?_
 first | refine Wa 75 rfl (bsL cInt [_, _] rfl rfl) ?_ | skip
 refine Wc rfl rfl (dC rfl Tryz.func21 rfl rfl ((st2) _)) ?_
 refine We tG rfl rfl rfl trivial ?_
 first | refine Wa 77 rfl (bsL cStr [_] rfl rfl) ?_ | skip
 refine Wc rfl rfl (dC rfl Tryz.func20 rfl rfl ((r2) _)) ?_
 iterate 6 refine We tG rfl rfl rfl trivial ?_
 refine Wn ?_
 refine Ws ?_
 refine W_region rfl ?_
 iterate 3 refine We tG rfl rfl rfl trivial ?_
 first | refine Wa 84 rfl (bsL cInt [_, _] rfl rfl) ?_ | skip
 refine Wc rfl rfl (dC rfl Tryz.func21 rfl rfl ((st3) _)) ?_
 refine We tG rfl rfl rfl trivial ?_
 first | refine Wa 86 rfl (bsL cStr [_] rfl rfl) ?_ | skip
 refine Wc rfl rfl (dC rfl Tryz.func20 rfl rfl ((r3) _)) ?_
 iterate 6 refine We tG rfl rfl rfl trivial ?_
 refine Wn ?_
 iterate 2 refine Ws ?_
 refine W_region rfl ?_
 iterate 3 refine We tG rfl rfl rfl trivial ?_
 refine WO_false 92 rfl (by rfl) ?_
 iterate 4 refine We tG rfl rfl rfl trivial ?_
 refine WO_false 96 rfl (by rfl) ?_
 iterate 6 refine We tG rfl rfl rfl trivial ?_
 refine WO_false 102 rfl (by rw [n2]; rfl) ?_
 iterate 5 refine We tG rfl rfl rfl trivial ?_
 refine Wn ?_
 refine Wf rfl (by rw [n3]; rfl) ?_
 refine Wj ?_
 refine Ws ?_
 refine W_region rfl ?_
 iterate 2 refine We tG rfl rfl rfl trivial ?_
 first | refine Wv tG rfl rfl rfl (by first | exact trivial | omega | (simp only [dnL] at *; omega) | (simp_all; done) | (simp_all; omega)) (iN cInt 1 (fun _ => rfl) 0 (by first | exact trivial | omega | (simp only [dnL] at *; omega) | (simp_all; done) | (simp_all; omega))) ?_ | refine Wv tG rfl rfl rfl (by first | exact trivial | omega | (simp only [dnL] at *; omega) | (simp_all; done) | (simp_all; omega)) (iR cInt 1 (fun _ => rfl) 0 (by first | exact trivial | omega | (simp only [dnL] at *; omega) | (simp_all; done) | (simp_all; omega))) ?_
 refine We tG rfl rfl rfl trivial ?_
 refine Wa 111 rfl ((show i64 (y1.d.getD 0 default) = i64 l by rw [d2]; rfl)) ?_
 iterate 5 refine We tG rfl rfl rfl trivial ?_
 refine Wn ?_
 refine Ws ?_
 refine W_region rfl ?_
 iterate 2 refine We tG rfl rfl rfl trivial ?_
 first | refine Wv tG rfl rfl rfl (by first | exact trivial | omega | (simp only [dnL] at *; omega) | (simp_all; done) | (simp_all; omega)) (iN cInt 1 (fun _ => rfl) 0 (by first | exact trivial | omega | (simp only [dnL] at *; omega) | (simp_all; done) | (simp_all; omega))) ?_ | refine Wv tG rfl rfl rfl (by first | exact trivial | omega | (simp only [dnL] at *; omega) | (simp_all; done) | (simp_all; omega)) (iR cInt 1 (fun _ => rfl) 0 (by first | exact trivial | omega | (simp only [dnL] at *; omega) | (simp_all; done) | (simp_all; omega))) ?_
 refine We tG rfl rfl rfl trivial ?_
 refine Wa 119 rfl ((show i64 (y1.d.getD 1 default) = i64 h by rw [d2]; rfl)) ?_
 refine We tG rfl rfl rfl trivial ?_
 refine Wn ?_
 iterate 2 refine Ws ?_
 refine W_region rfl ?_
 iterate 2 refine We tG rfl rfl rfl trivial ?_
 refine Wn ?_
 refine Wi rfl (fun hi4 => ?_) (fun hi4 => ?_)
 ·have q1 : r < 0 := of_decide_eq_true hi4
  refine W_region rfl ?_
  iterate 3 refine We tG rfl rfl rfl trivial ?_
  refine Wn ?_
  iterate 2 refine Ws ?_
  refine W_region rfl ?_
  iterate 3 refine We tG rfl rfl rfl trivial ?_
  first | refine Wv tG rfl rfl rfl (by first | exact trivial | omega | (simp only [dnL] at *; omega) | (simp_all; done) | (simp_all; omega)) (iN cInt 1 (fun _ => rfl) 0 (by first | exact trivial | omega | (simp only [dnL] at *; omega) | (simp_all; done) | (simp_all; omega))) ?_ | refine Wv tG rfl rfl rfl (by first | exact trivial | omega | (simp only [dnL] at *; omega) | (simp_all; done) | (simp_all; omega)) (iR cInt 1 (fun _ => rfl) 0 (by first | exact trivial | omega | (simp only [dnL] at *; omega) | (simp_all; done) | (simp_all; omega))) ?_
  refine We tG rfl rfl rfl trivial ?_
  refine Wa 128 rfl ((show i64 (y1.d.getD 0 default) = i64 l by rw [d2]; rfl)) ?_
  iterate 2 refine We tG rfl rfl rfl trivial ?_
  refine Wn ?_
  refine Wi rfl (fun hi5 => ?_) (fun hi5 => ?_)
  ·have q2 := of_decide_eq_true hi5
   refine W_region rfl ?_
   iterate 3 refine We tG rfl rfl rfl trivial ?_
   refine Wn ?_
   refine Ws ?_
   refine W_region rfl ?_
   iterate 2 refine We tG rfl rfl rfl trivial ?_
   refine WO_true 134 rfl (by rfl) ?_
   iterate 4 refine We tG rfl rfl rfl trivial ?_
   first | refine Wv tG rfl rfl rfl (by first | exact trivial | omega | (simp only [dnL] at *; omega) | (simp_all; done) | (simp_all; omega)) (iN cInt 1 (fun _ => rfl) 0 (by first | exact trivial | omega | (simp only [dnL] at *; omega) | (simp_all; done) | (simp_all; omega))) ?_ | refine Wv tG rfl rfl rfl (by first | exact trivial | omega | (simp only [dnL] at *; omega) | (simp_all; done) | (simp_all; omega)) (iR cInt 1 (fun _ => rfl) 0 (by first | exact trivial | omega | (simp only [dnL] at *; omega) | (simp_all; done) | (simp_all; omega))) ?_
   refine We tG rfl rfl rfl trivial ?_
   refine Wa 140 rfl ((show i64 (z1.d.getD 0 default) = i64 (wrap64 P) by rw [d3]; rfl)) ?_
   iterate 3 refine We tG rfl rfl rfl trivial ?_
   refine WO_true 143 rfl (by exact beq_iff_eq.2 hlow) ?_
   iterate 3 refine We tG rfl rfl rfl trivial ?_
   first | refine Wv tG rfl rfl rfl (by first | exact trivial | omega | (simp only [dnL] at *; omega) | (simp_all; done) | (simp_all; omega)) (iN cInt 1 (fun _ => rfl) 0 (by first | exact trivial | omega | (simp only [dnL] at *; omega) | (simp_all; done) | (simp_all; omega))) ?_ | refine Wv tG rfl rfl rfl (by first | exact trivial | omega | (simp only [dnL] at *; omega) | (simp_all; done) | (simp_all; omega)) (iR cInt 1 (fun _ => rfl) 0 (by first | exact trivial | omega | (simp only [dnL] at *; omega) | (simp_all; done) | (simp_all; omega))) ?_
   refine We tG rfl rfl rfl trivial ?_
   refine Wa 148 rfl ((show i64 (z1.d.getD 1 default) = i64 (P / 18446744073709551616) by rw [d3]; rfl)) ?_
   iterate 3 refine We tG rfl rfl rfl trivial ?_
   refine Wn ?_
   refine Wq ?_
   refine lP rfl ?_
   have hhigh := div_high hr hX hP _ _ rfl rfl
   subst hl hh
   simp only [q1, q2, if_true, if_false] at hhigh
   exact congrArg boo (beq_iff_eq.2 hhigh)
  ·have q2 := of_decide_eq_false hi5
   refine Wj ?_
   refine Ws ?_
   refine W_region rfl ?_
   iterate 2 refine We tG rfl rfl rfl trivial ?_
   refine WO_true 134 rfl (by rfl) ?_
   iterate 4 refine We tG rfl rfl rfl trivial ?_
   first | refine Wv tG rfl rfl rfl (by first | exact trivial | omega | (simp only [dnL] at *; omega) | (simp_all; done) | (simp_all; omega)) (iN cInt 1 (fun _ => rfl) 0 (by first | exact trivial | omega | (simp only [dnL] at *; omega) | (simp_all; done) | (simp_all; omega))) ?_ | refine Wv tG rfl rfl rfl (by first | exact trivial | omega | (simp only [dnL] at *; omega) | (simp_all; done) | (simp_all; omega)) (iR cInt 1 (fun _ => rfl) 0 (by first | exact trivial | omega | (simp only [dnL] at *; omega) | (simp_all; done) | (simp_all; omega))) ?_
   refine We tG rfl rfl rfl trivial ?_
   refine Wa 140 rfl ((show i64 (z1.d.getD 0 default) = i64 (wrap64 P) by rw [d3]; rfl)) ?_
   iterate 3 refine We tG rfl rfl rfl trivial ?_
   refine WO_true 143 rfl (by exact beq_iff_eq.2 hlow) ?_
   iterate 3 refine We tG rfl rfl rfl trivial ?_
   first | refine Wv tG rfl rfl rfl (by first | exact trivial | omega | (simp only [dnL] at *; omega) | (simp_all; done) | (simp_all; omega)) (iN cInt 1 (fun _ => rfl) 0 (by first | exact trivial | omega | (simp only [dnL] at *; omega) | (simp_all; done) | (simp_all; omega))) ?_ | refine Wv tG rfl rfl rfl (by first | exact trivial | omega | (simp only [dnL] at *; omega) | (simp_all; done) | (simp_all; omega)) (iR cInt 1 (fun _ => rfl) 0 (by first | exact trivial | omega | (simp only [dnL] at *; omega) | (simp_all; done) | (simp_all; omega))) ?_
   refine We tG rfl rfl rfl trivial ?_
   refine Wa 148 rfl ((show i64 (z1.d.getD 1 default) = i64 (P / 18446744073709551616) by rw [d3]; rfl)) ?_
   iterate 3 refine We tG rfl rfl rfl trivial ?_
   refine Wn ?_
   refine Wq ?_
   refine lP rfl ?_
   have hhigh := div_high hr hX hP _ _ rfl rfl
   subst hl hh
   simp only [q1, q2, if_true, if_false] at hhigh
   exact congrArg boo (beq_iff_eq.2 hhigh)
 ·have q1 : ¬ r < 0 := of_decide_eq_false hi4
  refine Wj ?_
  iterate 2 refine Ws ?_
  refine W_region rfl ?_
  iterate 3 refine We tG rfl rfl rfl trivial ?_
  first | refine Wv tG rfl rfl rfl (by first | exact trivial | omega | (simp only [dnL] at *; omega) | (simp_all; done) | (simp_all; omega)) (iN cInt 1 (fun _ => rfl) 0 (by first | exact trivial | omega | (simp only [dnL] at *; omega) | (simp_all; done) | (simp_all; omega))) ?_ | refine Wv tG rfl rfl rfl (by first | exact trivial | omega | (simp only [dnL] at *; omega) | (simp_all; done) | (simp_all; omega)) (iR cInt 1 (fun _ => rfl) 0 (by first | exact trivial | omega | (simp only [dnL] at *; omega) | (simp_all; done) | (simp_all; omega))) ?_
  refine We tG rfl rfl rfl trivial ?_
  refine Wa 128 rfl ((show i64 (y1.d.getD 0 default) = i64 l by rw [d2]; rfl)) ?_
  iterate 2 refine We tG rfl rfl rfl trivial ?_
  refine Wn ?_
  refine Wi rfl (fun hi5 => ?_) (fun hi5 => ?_)
  ·have q2 := of_decide_eq_true hi5
   refine W_region rfl ?_
   iterate 3 refine We tG rfl rfl rfl trivial ?_
   refine Wn ?_
   refine Ws ?_
   refine W_region rfl ?_
   iterate 2 refine We tG rfl rfl rfl trivial ?_
   refine WO_true 134 rfl (by rfl) ?_
   iterate 4 refine We tG rfl rfl rfl trivial ?_
   first | refine Wv tG rfl rfl rfl (by first | exact trivial | omega | (simp only [dnL] at *; omega) | (simp_all; done) | (simp_all; omega)) (iN cInt 1 (fun _ => rfl) 0 (by first | exact trivial | omega | (simp only [dnL] at *; omega) | (simp_all; done) | (simp_all; omega))) ?_ | refine Wv tG rfl rfl rfl (by first | exact trivial | omega | (simp only [dnL] at *; omega) | (simp_all; done) | (simp_all; omega)) (iR cInt 1 (fun _ => rfl) 0 (by first | exact trivial | omega | (simp only [dnL] at *; omega) | (simp_all; done) | (simp_all; omega))) ?_
   refine We tG rfl rfl rfl trivial ?_
   refine Wa 140 rfl ((show i64 (z1.d.getD 0 default) = i64 (wrap64 P) by rw [d3]; rfl)) ?_
   iterate 3 refine We tG rfl rfl rfl trivial ?_
   refine WO_true 143 rfl (by exact beq_iff_eq.2 hlow) ?_
   iterate 3 refine We tG rfl rfl rfl trivial ?_
   first | refine Wv tG rfl rfl rfl (by first | exact trivial | omega | (simp only [dnL] at *; omega) | (simp_all; done) | (simp_all; omega)) (iN cInt 1 (fun _ => rfl) 0 (by first | exact trivial | omega | (simp only [dnL] at *; omega) | (simp_all; done) | (simp_all; omega))) ?_ | refine Wv tG rfl rfl rfl (by first | exact trivial | omega | (simp only [dnL] at *; omega) | (simp_all; done) | (simp_all; omega)) (iR cInt 1 (fun _ => rfl) 0 (by first | exact trivial | omega | (simp only [dnL] at *; omega) | (simp_all; done) | (simp_all; omega))) ?_
   refine We tG rfl rfl rfl trivial ?_
   refine Wa 148 rfl ((show i64 (z1.d.getD 1 default) = i64 (P / 18446744073709551616) by rw [d3]; rfl)) ?_
   iterate 3 refine We tG rfl rfl rfl trivial ?_
   refine Wn ?_
   refine Wq ?_
   refine lP rfl ?_
   have hhigh := div_high hr hX hP _ _ rfl rfl
   subst hl hh
   simp only [q1, q2, if_true, if_false] at hhigh
   exact congrArg boo (beq_iff_eq.2 hhigh)
  ·have q2 := of_decide_eq_false hi5
   refine Wj ?_
   refine Ws ?_
   refine W_region rfl ?_
   iterate 2 refine We tG rfl rfl rfl trivial ?_
   refine WO_true 134 rfl (by rfl) ?_
   iterate 4 refine We tG rfl rfl rfl trivial ?_
   first | refine Wv tG rfl rfl rfl (by first | exact trivial | omega | (simp only [dnL] at *; omega) | (simp_all; done) | (simp_all; omega)) (iN cInt 1 (fun _ => rfl) 0 (by first | exact trivial | omega | (simp only [dnL] at *; omega) | (simp_all; done) | (simp_all; omega))) ?_ | refine Wv tG rfl rfl rfl (by first | exact trivial | omega | (simp only [dnL] at *; omega) | (simp_all; done) | (simp_all; omega)) (iR cInt 1 (fun _ => rfl) 0 (by first | exact trivial | omega | (simp only [dnL] at *; omega) | (simp_all; done) | (simp_all; omega))) ?_
   refine We tG rfl rfl rfl trivial ?_
   refine Wa 140 rfl ((show i64 (z1.d.getD 0 default) = i64 (wrap64 P) by rw [d3]; rfl)) ?_
   iterate 3 refine We tG rfl rfl rfl trivial ?_
   refine WO_true 143 rfl (by exact beq_iff_eq.2 hlow) ?_
   iterate 3 refine We tG rfl rfl rfl trivial ?_
   first | refine Wv tG rfl rfl rfl (by first | exact trivial | omega | (simp only [dnL] at *; omega) | (simp_all; done) | (simp_all; omega)) (iN cInt 1 (fun _ => rfl) 0 (by first | exact trivial | omega | (simp only [dnL] at *; omega) | (simp_all; done) | (simp_all; omega))) ?_ | refine Wv tG rfl rfl rfl (by first | exact trivial | omega | (simp only [dnL] at *; omega) | (simp_all; done) | (simp_all; omega)) (iR cInt 1 (fun _ => rfl) 0 (by first | exact trivial | omega | (simp only [dnL] at *; omega) | (simp_all; done) | (simp_all; omega))) ?_
   refine We tG rfl rfl rfl trivial ?_
   refine Wa 148 rfl ((show i64 (z1.d.getD 1 default) = i64 (P / 18446744073709551616) by rw [d3]; rfl)) ?_
   iterate 3 refine We tG rfl rfl rfl trivial ?_
   refine Wn ?_
   refine Wq ?_
   refine lP rfl ?_
   have hhigh := div_high hr hX hP _ _ rfl rfl
   subst hl hh
   simp only [q1, q2, if_true, if_false] at hhigh
   exact congrArg boo (beq_iff_eq.2 hhigh)
theorem law_divides (a b c : Int) (ha : Fit64 a) (hb : Fit64 b) (hc : Fit64 c) : PureC Tryz.prog 6 [i64 a, i64 b, i64 c] (boo true) := by
 have f3 := fit3 ha hb hc
 have nm : PureC Tryz.prog 22 [str [42, 47, 77, 79, 68]] (i64 75) := by have := ref_Number [42, 47, 77, 79, 68]; rw [show numberS [42, 47, 77, 79, 68] = 75 by decide +kernel] at this; exact this
 by_cases h0 : c = 0
 ·subst h0
  have g := stock_good (d := [a, b, 0]) (Nat.le_of_ble_eq_true rfl) f3
  have hd := dv_zero a b
  have pd := prim_Do (stockS [a, b, 0]) (good_ok g (by decide)) 75
  have e := hd
  rw [show numberS [42, 47, 77, 79, 68] = 75 by decide +kernel] at e
  rw [e] at pd
  have hr := law_run (stockS [a, b, 0]) [[42, 47, 77, 79, 68]] 0 g (by decide) (by decide)
  rw [run_bad hd (by decide)] at hr
  exact law_div_zero a b _ law_shown (law_stocked _) hr nm pd
 ·have g := stock_good (d := [a, b, c]) (Nat.le_of_ble_eq_true rfl) f3
  by_cases hf : fits ((a * b).fdiv c) = true
  ·have fq : Fit64 ((a * b).fdiv c) := by unfold fits at hf; rw [Bool.and_eq_true, decide_eq_true_eq, decide_eq_true_eq] at hf; exact hf
   have fr : Fit64 ((a * b).fmod c) := by
    unfold Fit64 at hc ⊢
    have h1 := Int.emod_nonneg (a * b) h0
    have h2 := Int.emod_lt (a * b) h0
    rw [Int.fmod_eq_emod]
    split <;> omega
   have hX : (a * b).fdiv c * c + (a * b).fmod c = a * b := by rw [Int.mul_comm]; exact Int.mul_fdiv_add_fmod (a * b) c
   exact law_div_good a b c _ _ _ _ _ _ fr hX (mul_hi2 ha hb) rfl rfl _ _ _ _ _ _ law_shown (law_stocked _) (run_of (Nat.le_of_ble_eq_true rfl) f3 (by decide) (dv_good h0 hf)) rfl (law_stocked _)
    (run_of (Nat.le_of_ble_eq_true rfl) (fitL_two fq hc) (by decide) (run_mul _ _)) rfl (law_stocked _) (run_of (Nat.le_of_ble_eq_true rfl) (fitL_two ha hb) (by decide) (run_mul _ _)) rfl
  ·have hd := dv_big h0 hf
   have pd := prim_Do (stockS [a, b, c]) (good_ok g (by decide)) 75
   have e := hd
   rw [show numberS [42, 47, 77, 79, 68] = 75 by decide +kernel] at e
   rw [e] at pd
   have hr := law_run (stockS [a, b, c]) [[42, 47, 77, 79, 68]] 0 g (by decide) (by decide)
   rw [run_bad hd (by decide)] at hr
   exact law_div_big a b c h0 _ law_shown (law_stocked _) hr nm pd
theorem walk_PrimDivides (v0 v1 v2 : Value) (w : World) (h0 : Reads w 3 v0) (h1 : Reads w 3 v1) (h2 : Reads w 3 v2) :
  Calls Tryz.prog 6 #[v0, v1, v2] w fun e w' => e = .returned (.bool true) ∧ Below w.heap.size w w' := by
 obtain ⟨a, ha, hr⟩ := reads_i64 h0
 obtain ⟨b, hb, hs⟩ := reads_i64 h1
 obtain ⟨c, hc, ht⟩ := reads_i64 h2
 exact law_calls (args := [i64 a, i64 b, i64 c]) (law_divides a b c ha hb hc) (repL_cons.2 ⟨hr, repL_cons.2 ⟨hs, repL_cons.2 ⟨ht, repL_nil.2 rfl⟩⟩⟩)
end Go.Proofs.YtphgdofmjpdhaaaGreat
