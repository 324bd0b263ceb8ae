import Derived.ChangeKeysEq
import Derived.Handy
import Derived.Laws.CopyOwn
import Derived.Laws.RangeString
import Derived.Shelf.Bytes.SlEqualAll
import Derived.Test.YtphgdofmjpdhaaaGreatPk2
set_option linter.unusedVariables false
set_option linter.unusedSimpArgs false
namespace Go.Proofs.YtphgdofmjpdhaaaGreat
open Go.RowKit
set_option linter.unusedVariables false
set_option maxRecDepth 100000
set_option maxHeartbeats 4000000
def cRow (l : List Int) : List PV := [sq cInt l]
@[simp] theorem flat_cRow (x : List Int) : FlatL (cRow x) := by simp [cRow, FlatL]
@[simp] theorem flat_sRow (l : List (List Int)) : Flat (sq cRow l) := flat_sq flat_cRow l
theorem sum2 {a b : Nat} (ha : a ≤ 500000) (hb : b ≤ 500000) : PV.val (.int .i64 (IntKind.i64.wrap (IntKind.i64.wrap (0 + (a : Int)) + (b : Int)))) = .val (.int .i64 ((a + b : Nat) : Int)) :=
 congrArg (fun z => PV.val (Value.int .i64 z)) (by simp only [i64w]; unfold wrap64; omega)
theorem concat2 (a b : List Int) (ha : a.length ≤ 500000) (hb : b.length ≤ 500000) : PureC Tryz.prog 29 [sq cRow [a, b]] (sq cInt (a ++ b)) := by
 refine pW tG (rs := [.tmp 2]) Tryz.func29 rfl rfl rfl (by simp) (by simp) (fun B => ?_)
 refine Ws ?_
 refine W_region rfl ?_
 refine We tG rfl rfl rfl trivial ?_
 refine Wn ?_
 refine Ws ?_
 refine W_region rfl ?_
 refine We tG rfl rfl rfl trivial ?_
 refine Wn ?_
 iterate 2 refine Ws ?_
 refine W_region rfl ?_
 iterate 3 refine We tG rfl rfl rfl trivial ?_
 refine Wn ?_
 refine Wl ?_
 refine W_rounds 3 ?_
 show W _ _ _ _ _ _ _
 refine Ws ?_
 refine W_region rfl ?_
 refine We tG rfl rfl rfl trivial ?_
 refine Wn ?_
 refine Ws ?_
 refine Wt rfl (by first | rfl | first | exact trivial | omega | (simp only [dnL] at *; omega) | (simp_all; done) | (simp_all; omega)) ?_
 refine Wj ?_
 refine Ws ?_
 refine Wl ?_
 refine Ws ?_
 refine W_region rfl ?_
 first | refine Wv tG rfl rfl rfl (by first | exact trivial | omega | (simp only [dnL] at *; omega) | (simp_all; done) | (simp_all; omega)) (iN cRow 1 (fun _ => rfl) [] (by first | exact trivial | omega | (simp only [dnL] at *; omega) | (simp_all; done) | (simp_all; omega))) ?_ | refine Wv tG rfl rfl rfl (by first | exact trivial | omega | (simp only [dnL] at *; omega) | (simp_all; done) | (simp_all; omega)) (iR cRow 1 (fun _ => rfl) [] (by first | exact trivial | omega | (simp only [dnL] at *; omega) | (simp_all; done) | (simp_all; omega))) ?_
 refine We tG rfl rfl rfl trivial ?_
 first | refine Wa 14 rfl (show _ = sq cInt a from rfl) ?_ | refine Wa 14 rfl (show _ = sq cInt b from rfl) ?_
 refine We tG rfl rfl rfl trivial ?_
 refine Wn ?_
 refine Ws ?_
 refine W_region rfl ?_
 iterate 5 refine We tG rfl rfl rfl trivial ?_
 refine Wn ?_
 refine Ws ?_
 refine W_region rfl ?_
 iterate 2 refine We tG rfl rfl rfl trivial ?_
 refine Wn ?_
 refine Wf rfl (by (simp only [i64w, decide_eq_false_iff_not]; unfold wrap64; omega)) ?_
 refine Wj ?_
 refine W_region rfl ?_
 refine We tG rfl rfl rfl trivial ?_
 first | refine Wa 22 rfl (show _ = PV.val (.int .i64 1) from rfl) ?_ | refine Wa 22 rfl (show _ = PV.val (.int .i64 2) from rfl) ?_
 refine We tG rfl rfl rfl trivial ?_
 refine Wn ?_
 show W _ _ _ _ _ _ _
 refine Ws ?_
 refine W_region rfl ?_
 refine We tG rfl rfl rfl trivial ?_
 refine Wn ?_
 refine Ws ?_
 refine Wt rfl (by first | rfl | first | exact trivial | omega | (simp only [dnL] at *; omega) | (simp_all; done) | (simp_all; omega)) ?_
 refine Wj ?_
 refine Ws ?_
 refine Wl ?_
 refine Ws ?_
 refine W_region rfl ?_
 first | refine Wv tG rfl rfl rfl (by first | exact trivial | omega | (simp only [dnL] at *; omega) | (simp_all; done) | (simp_all; omega)) (iN cRow 1 (fun _ => rfl) [] (by first | exact trivial | omega | (simp only [dnL] at *; omega) | (simp_all; done) | (simp_all; omega))) ?_ | refine Wv tG rfl rfl rfl (by first | exact trivial | omega | (simp only [dnL] at *; omega) | (simp_all; done) | (simp_all; omega)) (iR cRow 1 (fun _ => rfl) [] (by first | exact trivial | omega | (simp only [dnL] at *; omega) | (simp_all; done) | (simp_all; omega))) ?_
 refine We tG rfl rfl rfl trivial ?_
 first | refine Wa 14 rfl (show _ = sq cInt a from rfl) ?_ | refine Wa 14 rfl (show _ = sq cInt b from rfl) ?_
 refine We tG rfl rfl rfl trivial ?_
 refine Wn ?_
 refine Ws ?_
 refine W_region rfl ?_
 iterate 5 refine We tG rfl rfl rfl trivial ?_
 refine Wn ?_
 refine Ws ?_
 refine W_region rfl ?_
 iterate 2 refine We tG rfl rfl rfl trivial ?_
 refine Wn ?_
 refine Wf rfl (by (simp only [i64w, decide_eq_false_iff_not]; unfold wrap64; omega)) ?_
 refine Wj ?_
 refine W_region rfl ?_
 refine We tG rfl rfl rfl trivial ?_
 first | refine Wa 22 rfl (show _ = PV.val (.int .i64 1) from rfl) ?_ | refine Wa 22 rfl (show _ = PV.val (.int .i64 2) from rfl) ?_
 refine We tG rfl rfl rfl trivial ?_
 refine Wn ?_
 show W _ _ _ _ _ _ _
 refine Ws ?_
 refine W_region rfl ?_
 refine We tG rfl rfl rfl trivial ?_
 refine Wn ?_
 refine Ws ?_
 refine Wf rfl (by first | rfl | first | exact trivial | omega | (simp only [dnL] at *; omega) | (simp_all; done) | (simp_all; omega)) ?_
 refine W_exit ?_
 refine Ws ?_
 refine W_region rfl ?_
 refine We tG rfl rfl rfl trivial ?_
 refine Wa 23 rfl (sum2 ha hb) ?_
 refine Wc rfl rfl (does_grow rfl rfl (by omega)) ?_
 refine We tG rfl rfl rfl trivial ?_
 refine Wn ?_
 iterate 2 refine Ws ?_
 refine W_region rfl ?_
 iterate 3 refine We tG rfl rfl rfl trivial ?_
 refine Wn ?_
 refine Wl ?_
 refine W_rounds 3 ?_
 show W _ _ _ _ _ _ _
 refine Ws ?_
 refine W_region rfl ?_
 refine We tG rfl rfl rfl trivial ?_
 refine Wn ?_
 refine Ws ?_
 refine Wt rfl (by first | rfl | first | exact trivial | omega | (simp only [dnL] at *; omega) | (simp_all; done) | (simp_all; omega)) ?_
 refine Wj ?_
 refine Ws ?_
 refine Wl ?_
 refine Ws ?_
 refine W_region rfl ?_
 first | refine Wv tG rfl rfl rfl (by first | exact trivial | omega | (simp only [dnL] at *; omega) | (simp_all; done) | (simp_all; omega)) (iN cRow 1 (fun _ => rfl) [] (by first | exact trivial | omega | (simp only [dnL] at *; omega) | (simp_all; done) | (simp_all; omega))) ?_ | refine Wv tG rfl rfl rfl (by first | exact trivial | omega | (simp only [dnL] at *; omega) | (simp_all; done) | (simp_all; omega)) (iR cRow 1 (fun _ => rfl) [] (by first | exact trivial | omega | (simp only [dnL] at *; omega) | (simp_all; done) | (simp_all; omega))) ?_
 refine We tG rfl rfl rfl trivial ?_
 first | refine Wa 30 rfl (show _ = sq cInt a from rfl) ?_ | refine Wa 30 rfl (show _ = sq cInt b from rfl) ?_
 refine We tG rfl rfl rfl trivial ?_
 refine Wn ?_
 refine W_region rfl ?_
 iterate 2 refine We tG rfl rfl rfl trivial ?_
 first | refine Wd rfl rfl (does_append_clip (lO tG rfl) rfl (lO tG rfl) (lO tG rfl) rfl rfl (by first | exact ⟨_, rfl⟩ | rfl) (by first | exact ⟨rfl, rfl, flatMap_len _ 1 (fun _ => rfl) _, okC_flat _ (fun _ => rfl) _⟩ | exact ⟨rfl, rfl, by simp, by simp [okC]⟩ | exact ⟨rfl, rfl, rfl⟩) (by first | exact flatMap_len _ 1 (fun _ => rfl) _ | rfl | simp) (by first | (dsimp only; omega) | (first | exact trivial | omega | (simp only [dnL] at *; omega) | (simp_all; done) | (simp_all; omega))) (by first | (dsimp only; omega) | (first | exact trivial | omega | (simp only [dnL] at *; omega) | (simp_all; done) | (simp_all; omega)))) ?_ | refine Wd rfl rfl (does_append_own (lO tG rfl) rfl (lO tG rfl) (lO tG rfl) rfl rfl rfl rfl (by simp) (by first | exact ⟨_, rfl⟩ | rfl) (by first | exact ⟨rfl, rfl, flatMap_len _ 1 (fun _ => rfl) _, okC_flat _ (fun _ => rfl) _⟩ | exact ⟨rfl, rfl, by simp, by simp [okC]⟩ | exact ⟨rfl, rfl, rfl⟩) (by first | (dsimp only; omega) | (first | exact trivial | omega | (simp only [dnL] at *; omega) | (simp_all; done) | (simp_all; omega))) (by first | (dsimp only; omega) | (first | exact trivial | omega | (simp only [dnL] at *; omega) | (simp_all; done) | (simp_all; omega)))) ?_
 first | refine Wa 33 rfl (sq_append cInt) ?_ | refine Wa 33 rfl (sq_snoc cInt _) ?_ | refine Wa 33 rfl (sq_one cInt _) ?_ | refine Wa 33 rfl (sq_none cInt) ?_
 refine We tG rfl rfl rfl trivial ?_
 refine Wn ?_
 refine W_region rfl ?_
 refine We tG rfl rfl rfl trivial ?_
 first | refine Wa 34 rfl (show _ = PV.val (.int .i64 1) from rfl) ?_ | refine Wa 34 rfl (show _ = PV.val (.int .i64 2) from rfl) ?_
 refine We tG rfl rfl rfl trivial ?_
 refine Wn ?_
 show W _ _ _ _ _ _ _
 refine Ws ?_
 refine W_region rfl ?_
 refine We tG rfl rfl rfl trivial ?_
 refine Wn ?_
 refine Ws ?_
 refine Wt rfl (by first | rfl | first | exact trivial | omega | (simp only [dnL] at *; omega) | (simp_all; done) | (simp_all; omega)) ?_
 refine Wj ?_
 refine Ws ?_
 refine Wl ?_
 refine Ws ?_
 refine W_region rfl ?_
 first | refine Wv tG rfl rfl rfl (by first | exact trivial | omega | (simp only [dnL] at *; omega) | (simp_all; done) | (simp_all; omega)) (iN cRow 1 (fun _ => rfl) [] (by first | exact trivial | omega | (simp only [dnL] at *; omega) | (simp_all; done) | (simp_all; omega))) ?_ | refine Wv tG rfl rfl rfl (by first | exact trivial | omega | (simp only [dnL] at *; omega) | (simp_all; done) | (simp_all; omega)) (iR cRow 1 (fun _ => rfl) [] (by first | exact trivial | omega | (simp only [dnL] at *; omega) | (simp_all; done) | (simp_all; omega))) ?_
 refine We tG rfl rfl rfl trivial ?_
 first | refine Wa 30 rfl (show _ = sq cInt a from rfl) ?_ | refine Wa 30 rfl (show _ = sq cInt b from rfl) ?_
 refine We tG rfl rfl rfl trivial ?_
 refine Wn ?_
 refine W_region rfl ?_
 iterate 2 refine We tG rfl rfl rfl trivial ?_
 first | refine Wd rfl rfl (does_append_clip (lO tG rfl) rfl (lO tG rfl) (lO tG rfl) rfl rfl (by first | exact ⟨_, rfl⟩ | rfl) (by first | exact ⟨rfl, rfl, flatMap_len _ 1 (fun _ => rfl) _, okC_flat _ (fun _ => rfl) _⟩ | exact ⟨rfl, rfl, by simp, by simp [okC]⟩ | exact ⟨rfl, rfl, rfl⟩) (by first | exact flatMap_len _ 1 (fun _ => rfl) _ | rfl | simp) (by first | (dsimp only; omega) | (first | exact trivial | omega | (simp only [dnL] at *; omega) | (simp_all; done) | (simp_all; omega))) (by first | (dsimp only; omega) | (first | exact trivial | omega | (simp only [dnL] at *; omega) | (simp_all; done) | (simp_all; omega)))) ?_ | refine Wd rfl rfl (does_append_own (lO tG rfl) rfl (lO tG rfl) (lO tG rfl) rfl rfl rfl rfl (by simp) (by first | exact ⟨_, rfl⟩ | rfl) (by first | exact ⟨rfl, rfl, flatMap_len _ 1 (fun _ => rfl) _, okC_flat _ (fun _ => rfl) _⟩ | exact ⟨rfl, rfl, by simp, by simp [okC]⟩ | exact ⟨rfl, rfl, rfl⟩) (by first | (dsimp only; omega) | (first | exact trivial | omega | (simp only [dnL] at *; omega) | (simp_all; done) | (simp_all; omega))) (by first | (dsimp only; omega) | (first | exact trivial | omega | (simp only [dnL] at *; omega) | (simp_all; done) | (simp_all; omega)))) ?_
 first | refine Wa 33 rfl (sq_append cInt) ?_ | refine Wa 33 rfl (sq_snoc cInt _) ?_ | refine Wa 33 rfl (sq_one cInt _) ?_ | refine Wa 33 rfl (sq_none cInt) ?_
 refine We tG rfl rfl rfl trivial ?_
 refine Wn ?_
 refine W_region rfl ?_
 refine We tG rfl rfl rfl trivial ?_
 first | refine Wa 34 rfl (show _ = PV.val (.int .i64 1) from rfl) ?_ | refine Wa 34 rfl (show _ = PV.val (.int .i64 2) from rfl) ?_
 refine We tG rfl rfl rfl trivial ?_
 refine Wn ?_
 show W _ _ _ _ _ _ _
 refine Ws ?_
 refine W_region rfl ?_
 refine We tG rfl rfl rfl trivial ?_
 refine Wn ?_
 refine Ws ?_
 refine Wf rfl (by first | rfl | first | exact trivial | omega | (simp only [dnL] at *; omega) | (simp_all; done) | (simp_all; omega)) ?_
 refine W_exit ?_
 refine Ws ?_
 refine W_region rfl ?_
 iterate 2 refine We tG rfl rfl rfl trivial ?_
 refine Wn ?_
 refine Wq ?_
 refine lP rfl ?_
 first | rfl | (simp_all; done) | (simp_all; omega)
end Go.Proofs.YtphgdofmjpdhaaaGreat
namespace Go.Proofs.YtphgdofmjpdhaaaGreat
open Go.RowKit
set_option linter.unusedVariables false
set_option maxRecDepth 100000
set_option maxHeartbeats 4000000
theorem take_same {α : Type} {a b : List α} {k : Nat} (d : α) (hl : a.length = b.length) (hk : k < a.length) (h : a.take k = b.take k) (he : a.getD k d = b.getD k d) : a.take (k + 1) = b.take (k + 1) := by
 rw [take_snoc' a k d hk, take_snoc' b k d (by omega), h, he]
theorem not_same {α : Type} {a b : List α} {k : Nat} (d : α) (he : a.getD k d ≠ b.getD k d) : a ≠ b := fun h => he (by rw [h])
theorem ref_Same4 (a b : List Int) (ha : a.length ≤ 1000000) (hb : b.length ≤ 1000000) : PureC Tryz.prog 23 [sq cInt a, sq cInt b] (boo (decide (a = b))) := by
 refine pW tG (rs := [.tmp 4]) Tryz.func23 rfl rfl rfl (by simp) (by simp) (fun B => ?_)
 refine Ws ?_
 refine W_region rfl ?_
 refine We tG rfl rfl rfl trivial ?_
 refine Wn ?_
 iterate 2 refine Ws ?_
 refine W_region rfl ?_
 iterate 5 refine We tG rfl rfl rfl trivial ?_
 refine Wn ?_
 refine Wi rfl (fun hi1 => ?_) (fun hi1 => ?_)
 ·have hne : a ≠ b := fun h => by subst h; simp at hi1
  refine Ws ?_
  refine W_region rfl ?_
  refine We tG rfl rfl rfl trivial ?_
  refine Wn ?_
  refine Wq ?_
  refine lP rfl ?_
  exact congrArg boo (decide_eq_false hne).symm
 ·have hl : a.length = b.length := by (try simp only [dnL] at *); omega
  refine Wj ?_
  iterate 2 refine Ws ?_
  refine W_region rfl ?_
  refine We tG rfl rfl rfl trivial ?_
  refine Wn ?_
  refine Wl ?_
  show W _ _ _ _ _ _ _
  refine W_loopS (fun (k : Nat) => [(0, sq cInt a), (1, sq cInt b), (5, i64 k)]) (fun (k : Nat) => []) (fun (k : Nat) => []) (fun (k : Nat) => k ≤ a.length ∧ a.take k = b.take k) (fun (k : Nat) => a.length - k) (0) (by first | exact trivial | omega | simp) [] ?_ ?_
  ·exact ⟨rfl, ⟨(by repeat (first | exact reBase_nil | refine rB (.inl rfl) ?_ | refine rB (.inr rfl) ?_)), (by repeat (first | exact reX_nil | refine rX rfl ?_ | refine rX (by refine congrArg (fun q => some (Ob.free q)) ?_; simp <;> omega) ?_)), (by decide), (by repeat (first | exact moved_nil | refine mC (.inl (Nat.le_of_ble_eq_true rfl)) ?_ | refine mC (.inr rfl) ?_)), (by repeat (first | exact nlo_nil | exact nO nlo_nil | refine nlo_cells (by first | (refine nF ?_; simp; done) | (refine nF (flatL_map' ?_ _); intro x; simp; done) | (simp [NL1L, NL1]; done)) ?_ | refine nO ?_ | refine nlo_dead ?_ | refine nlo_iter ?_ | refine nlo_smap (by first | (refine nF ?_; simp; done) | (refine nF (flatL_map' ?_ _); intro x; simp; done) | (simp [NL1L, NL1]; done)) ?_))⟩, (by repeat (first | exact subL_nil | refine subL_cons (by first | exact imp_of rfl | exact imp_seq _ _ _ | exact imp_of (congrArg i64 (by first | (rw [i64w]; unfold wrap64; omega) | omega | (simp; done)))) ?_)), (by repeat (first | exact nls_nil | refine nls_cons (by first | (refine nl_flat ?_; simp; done) | (show _ < _; first | decide | (simp; done)) | (refine ⟨?_, flatL_map' ?_ _⟩ <;> first | decide | (intro x; simp; done) | (simp; done)) | (refine ⟨?_, ?_⟩ <;> first | decide | (simp; done)) | (simp [NL, NL1L, NL1]; done)) ?_))⟩
  ·intro k hk
   iterate 2 refine Ws ?_
   refine W_region rfl ?_
   iterate 4 refine We tG rfl rfl rfl trivial ?_
   refine Wn ?_
   refine Wi rfl (fun hi2 => ?_) (fun hi2 => ?_)
   ·have hlt : k < a.length := by have := of_decide_eq_true hi2; omega
    refine Wj ?_
    refine Ws ?_
    refine Wl ?_
    refine Ws ?_
    refine W_drawU [0, 0, 0, 1, 0, 0, 0, 1, 0] [0, 1, 2, 3, 4, 5, 6, 7, 8] mG rfl (by kernel_rfl) ?_
    refine Xe tG rfl rfl rfl rfl (fun _ => rfl) trivial ?_
    refine Xe tG rfl rfl rfl rfl (fun _ => rfl) trivial ?_
    first | refine Xi tG rfl rfl rfl rfl (fun _ => rfl) (by first | exact trivial | omega | (simp only [dnL] at *; omega) | (simp_all; done) | (simp_all; omega)) (iN cInt 1 (fun _ => rfl) 0 (by first | exact trivial | omega | (simp only [dnL] at *; omega) | (simp_all; done) | (simp_all; omega))) ?_ | refine Xi tG rfl rfl rfl rfl (fun _ => rfl) (by first | exact trivial | omega | (simp only [dnL] at *; omega) | (simp_all; done) | (simp_all; omega)) (iR cInt 1 (fun _ => rfl) 0 (by first | exact trivial | omega | (simp only [dnL] at *; omega) | (simp_all; done) | (simp_all; omega))) ?_
    refine Xf tG rfl rfl rfl rfl (fun _ => rfl) trivial ?_
    refine Xe tG rfl rfl rfl rfl (fun _ => rfl) trivial ?_
    refine Xe tG rfl rfl rfl rfl (fun _ => rfl) trivial ?_
    first | refine Xi tG rfl rfl rfl rfl (fun _ => rfl) (by first | exact trivial | omega | (simp only [dnL] at *; omega) | (simp_all; done) | (simp_all; omega)) (iN cInt 1 (fun _ => rfl) 0 (by first | exact trivial | omega | (simp only [dnL] at *; omega) | (simp_all; done) | (simp_all; omega))) ?_ | refine Xi tG rfl rfl rfl rfl (fun _ => rfl) (by first | exact trivial | omega | (simp only [dnL] at *; omega) | (simp_all; done) | (simp_all; omega)) (iR cInt 1 (fun _ => rfl) 0 (by first | exact trivial | omega | (simp only [dnL] at *; omega) | (simp_all; done) | (simp_all; omega))) ?_
    refine Xf tG rfl rfl rfl rfl (fun _ => rfl) trivial ?_
    refine Xe tG rfl rfl rfl rfl (fun _ => rfl) trivial ?_
    refine WU_nil ?_
    refine Wi rfl (fun hi3 => ?_) (fun hi3 => ?_)
    ·have hne : a ≠ b := not_same 0 (k := k) (by simpa using hi3)
     refine Ws ?_
     refine W_region rfl ?_
     refine We tG rfl rfl rfl trivial ?_
     refine Wn ?_
     refine Wq ?_
     refine lP rfl ?_
     exact congrArg boo (decide_eq_false hne).symm
    ·have he : a.getD k 0 = b.getD k 0 := by simpa using hi3
     refine Wj ?_
     refine W_region rfl ?_
     iterate 3 refine We tG rfl rfl rfl trivial ?_
     refine Wn ?_
     exact ⟨k + 1, [], (by exact ⟨by omega, take_same 0 hl hlt hk.2 he⟩), (by omega), ⟨rfl, ⟨(by repeat (first | exact reBase_nil | refine rB (.inl rfl) ?_ | refine rB (.inr rfl) ?_)), (by repeat (first | exact reX_nil | refine rX rfl ?_ | refine rX (by refine congrArg (fun q => some (Ob.free q)) ?_; simp <;> omega) ?_)), (by decide), (by repeat (first | exact moved_nil | refine mC (.inl (Nat.le_of_ble_eq_true rfl)) ?_ | refine mC (.inr rfl) ?_)), (by repeat (first | exact nlo_nil | exact nO nlo_nil | refine nlo_cells (by first | (refine nF ?_; simp; done) | (refine nF (flatL_map' ?_ _); intro x; simp; done) | (simp [NL1L, NL1]; done)) ?_ | refine nO ?_ | refine nlo_dead ?_ | refine nlo_iter ?_ | refine nlo_smap (by first | (refine nF ?_; simp; done) | (refine nF (flatL_map' ?_ _); intro x; simp; done) | (simp [NL1L, NL1]; done)) ?_))⟩, (by repeat (first | exact subL_nil | refine subL_cons (by first | exact imp_of rfl | exact imp_seq _ _ _ | exact imp_of (congrArg i64 (by first | (rw [i64w]; unfold wrap64; omega) | omega | (simp; done)))) ?_)), (by repeat (first | exact nls_nil | refine nls_cons (by first | (refine nl_flat ?_; simp; done) | (show _ < _; first | decide | (simp; done)) | (refine ⟨?_, flatL_map' ?_ _⟩ <;> first | decide | (intro x; simp; done) | (simp; done)) | (refine ⟨?_, ?_⟩ <;> first | decide | (simp; done)) | (simp [NL, NL1L, NL1]; done)) ?_))⟩⟩
   ·have hge : a.length ≤ k := by have := of_decide_eq_false hi2; omega
    refine W_exit ?_
    refine Ws ?_
    refine W_region rfl ?_
    refine We tG rfl rfl rfl trivial ?_
    refine Wn ?_
    refine Wq ?_
    refine lP rfl ?_
    exact congrArg boo (decide_eq_true (by have h1 := hk.2; rw [take_all' a k hge, take_all' b k (by omega)] at h1; exact h1)).symm
end Go.Proofs.YtphgdofmjpdhaaaGreat
namespace Go.Proofs.YtphgdofmjpdhaaaGreat
open Go.RowKit
set_option linter.unusedVariables false
set_option maxRecDepth 100000
set_option maxHeartbeats 4000000
theorem ref_Same7 (a b : VPic) : PureC Tryz.prog 37 [ePic a, ePic b] (boo (decide (a = b))) := by
 refine pW tG (rs := [.tmp 4]) Tryz.func37 rfl rfl rfl (by simp) (by simp) (fun B => ?_)
 refine Ws ?_
 refine W_region rfl ?_
 iterate 3 refine We tG rfl rfl rfl trivial ?_
 refine Wn ?_
 refine Ws ?_
 refine W_region rfl ?_
 iterate 6 refine We tG rfl rfl rfl trivial ?_
 refine Wb 10 rfl (fun hg1 => ?_) (fun hg1 => ?_)
 ·refine We tG rfl rfl rfl trivial ?_
  refine We tG rfl rfl rfl trivial ?_
  first | refine Wd rfl rfl (does_bytes_str (lO tG rfl) rfl (lO tG rfl) rfl (lO tG rfl) rfl rfl rfl) ?_ | refine Wd rfl rfl (does_byte1_str (lO tG rfl) rfl (lO tG rfl) rfl (lO tG rfl) rfl rfl rfl) ?_
  iterate 2 refine We tG rfl rfl rfl trivial ?_
  first | refine Wd rfl rfl (does_bytes_str (lO tG rfl) rfl (lO tG rfl) rfl (lO tG rfl) rfl rfl rfl) ?_ | refine Wd rfl rfl (does_byte1_str (lO tG rfl) rfl (lO tG rfl) rfl (lO tG rfl) rfl rfl rfl) ?_
  refine We tG rfl rfl rfl trivial ?_
  refine Wa 17 rfl (str_eql _ _) ?_
  iterate 2 refine We tG rfl rfl rfl trivial ?_
  refine Wn ?_
  refine Wq ?_
  refine lP rfl ?_
  first | (refine congrArg boo ?_; cases a; cases b; simp_all; done) | skip
 ·refine Wk rfl rfl ?_
  iterate 6 refine Wk rfl rfl ?_
  iterate 2 refine We tG rfl rfl rfl trivial ?_
  refine Wn ?_
  refine Wq ?_
  refine lP rfl ?_
  first | (refine congrArg boo ?_; cases a; cases b; simp_all; done) | skip
theorem frame_ext {x y : VFrame} (h1 : x.d = y.d) (h2 : x.r = y.r) (h3 : x.ip = y.ip) : x = y := by cases x; cases y; simp_all
theorem ref_frames (a b : List VFrame) (ha : a.length ≤ 1000000) (hb : b.length ≤ 1000000) : PureC Tryz.prog 35 [sq cFrame a, sq cFrame b] (boo (decide (a = b))) := by
 refine pW tG (rs := [.tmp 4]) Tryz.func35 rfl rfl rfl (by simp) (by simp) (fun B => ?_)
 refine Ws ?_
 refine W_region rfl ?_
 refine We tG rfl rfl rfl trivial ?_
 refine Wn ?_
 iterate 2 refine Ws ?_
 refine W_region rfl ?_
 iterate 5 refine We tG rfl rfl rfl trivial ?_
 refine Wn ?_
 refine Wi rfl (fun hi1 => ?_) (fun hi1 => ?_)
 ·have hne : a ≠ b := fun h => by subst h; simp at hi1
  refine Ws ?_
  refine W_region rfl ?_
  refine We tG rfl rfl rfl trivial ?_
  refine Wn ?_
  refine Wq ?_
  refine lP rfl ?_
  exact congrArg boo (decide_eq_false hne).symm
 ·have hl : a.length = b.length := by (try simp only [dnL] at *); omega
  refine Wj ?_
  iterate 2 refine Ws ?_
  refine W_region rfl ?_
  refine We tG rfl rfl rfl trivial ?_
  refine Wn ?_
  refine Wl ?_
  show W _ _ _ _ _ _ _
  refine W_loopS (fun (k : Nat) => [(0, sq cFrame a), (1, sq cFrame b), (5, i64 k)]) (fun (k : Nat) => []) (fun (k : Nat) => []) (fun (k : Nat) => k ≤ a.length ∧ a.take k = b.take k) (fun (k : Nat) => a.length - k) (0) (by first | exact trivial | omega | simp) [] ?_ ?_
  ·exact ⟨rfl, ⟨(by repeat (first | exact reBase_nil | refine rB (.inl rfl) ?_ | refine rB (.inr rfl) ?_)), (by repeat (first | exact reX_nil | refine rX rfl ?_ | refine rX (by refine congrArg (fun q => some (Ob.free q)) ?_; simp <;> omega) ?_)), (by decide), (by repeat (first | exact moved_nil | refine mC (.inl (Nat.le_of_ble_eq_true rfl)) ?_ | refine mC (.inr rfl) ?_)), (by repeat (first | exact nlo_nil | exact nO nlo_nil | refine nlo_cells (by first | (refine nF ?_; simp; done) | (refine nF (flatL_map' ?_ _); intro x; simp; done) | (simp [NL1L, NL1]; done)) ?_ | refine nO ?_ | refine nlo_dead ?_ | refine nlo_iter ?_ | refine nlo_smap (by first | (refine nF ?_; simp; done) | (refine nF (flatL_map' ?_ _); intro x; simp; done) | (simp [NL1L, NL1]; done)) ?_))⟩, (by repeat (first | exact subL_nil | refine subL_cons (by first | exact imp_of rfl | exact imp_seq _ _ _ | exact imp_of (congrArg i64 (by first | (rw [i64w]; unfold wrap64; omega) | omega | (simp; done)))) ?_)), (by repeat (first | exact nls_nil | refine nls_cons (by first | (refine nl_flat ?_; simp; done) | (show _ < _; first | decide | (simp; done)) | (refine ⟨?_, flatL_map' ?_ _⟩ <;> first | decide | (intro x; simp; done) | (simp; done)) | (refine ⟨?_, ?_⟩ <;> first | decide | (simp; done)) | (simp [NL, NL1L, NL1]; done)) ?_))⟩
  ·intro k hk
   iterate 2 refine Ws ?_
   refine W_region rfl ?_
   iterate 4 refine We tG rfl rfl rfl trivial ?_
   refine Wn ?_
   refine Wi rfl (fun hi2 => ?_) (fun hi2 => ?_)
   ·have hlt : k < a.length := by have := of_decide_eq_true hi2; omega
    refine Wj ?_
    refine Ws ?_
    refine Wl ?_
    refine Ws ?_
    refine W_drawU [0, 0, 0, 0, 1, 0, 0, 0, 0, 1, 0, 0, 0, 0, 0, 0, 1, 0, 0, 0, 0, 1, 0, 0, 0, 0, 0, 0, 0, 1, 0, 0, 0, 0, 1, 0, 0] [0, 1, 2, 3, 4, 5, 6, 7, 8, 9, 10, 11, 12, 13, 14, 15, 16, 17, 18, 19, 20, 21, 22, 23, 24, 25, 26, 27, 28, 29, 30, 31, 32, 33, 34, 35, 36] mG rfl (by kernel_rfl) ?_
    refine Xe tG rfl rfl rfl rfl (fun _ => rfl) trivial ?_
    refine Xe tG rfl rfl rfl rfl (fun _ => rfl) trivial ?_
    first | refine Xi tG rfl rfl rfl rfl (fun _ => rfl) (by first | exact trivial | omega | (simp only [dnL] at *; omega) | (simp_all; done) | (simp_all; omega)) (iN cFrame 3 (fun _ => rfl) default (by first | exact trivial | omega | (simp only [dnL] at *; omega) | (simp_all; done) | (simp_all; omega))) ?_ | refine Xi tG rfl rfl rfl rfl (fun _ => rfl) (by first | exact trivial | omega | (simp only [dnL] at *; omega) | (simp_all; done) | (simp_all; omega)) (iR cFrame 3 (fun _ => rfl) default (by first | exact trivial | omega | (simp only [dnL] at *; omega) | (simp_all; done) | (simp_all; omega))) ?_
    refine Xe tG rfl rfl rfl rfl (fun _ => rfl) trivial ?_
    refine Xf tG rfl rfl rfl rfl (fun _ => rfl) trivial ?_
    refine Xe tG rfl rfl rfl rfl (fun _ => rfl) trivial ?_
    refine Xe tG rfl rfl rfl rfl (fun _ => rfl) trivial ?_
    first | refine Xi tG rfl rfl rfl rfl (fun _ => rfl) (by first | exact trivial | omega | (simp only [dnL] at *; omega) | (simp_all; done) | (simp_all; omega)) (iN cFrame 3 (fun _ => rfl) default (by first | exact trivial | omega | (simp only [dnL] at *; omega) | (simp_all; done) | (simp_all; omega))) ?_ | refine Xi tG rfl rfl rfl rfl (fun _ => rfl) (by first | exact trivial | omega | (simp only [dnL] at *; omega) | (simp_all; done) | (simp_all; omega)) (iR cFrame 3 (fun _ => rfl) default (by first | exact trivial | omega | (simp only [dnL] at *; omega) | (simp_all; done) | (simp_all; omega))) ?_
    refine Xe tG rfl rfl rfl rfl (fun _ => rfl) trivial ?_
    refine Xf tG rfl rfl rfl rfl (fun _ => rfl) trivial ?_
    refine Xe tG rfl rfl rfl rfl (fun _ => rfl) trivial ?_
    refine Xe tG rfl rfl rfl rfl (fun _ => rfl) trivial ?_
    refine WU_split 28 rfl (fun hg1 => ?_) (fun hg1 => ?_)
    ·refine WU_skip rfl rfl rfl rfl ?_
     iterate 10 refine WU_skip rfl rfl rfl rfl ?_
     refine Xe tG rfl rfl rfl rfl (fun _ => rfl) trivial ?_
     refine Xe tG rfl rfl rfl rfl (fun _ => rfl) trivial ?_
     iterate 11 refine WU_skip rfl rfl rfl rfl ?_
     refine Xe tG rfl rfl rfl rfl (fun _ => rfl) trivial ?_
     refine WU_nil ?_
     refine Wt rfl rfl ?_
     refine Ws ?_
     refine W_region rfl ?_
     refine We tG rfl rfl rfl trivial ?_
     refine Wn ?_
     refine Wq ?_
     refine lP rfl ?_
     refine congrArg boo (decide_eq_false fun h => ?_).symm; subst h; simp_all
    ·refine Xe tG rfl rfl rfl rfl (fun _ => rfl) trivial ?_
     refine Xe tG rfl rfl rfl rfl (fun _ => rfl) trivial ?_
     first | refine Xi tG rfl rfl rfl rfl (fun _ => rfl) (by first | exact trivial | omega | (simp only [dnL] at *; omega) | (simp_all; done) | (simp_all; omega)) (iN cFrame 3 (fun _ => rfl) default (by first | exact trivial | omega | (simp only [dnL] at *; omega) | (simp_all; done) | (simp_all; omega))) ?_ | refine Xi tG rfl rfl rfl rfl (fun _ => rfl) (by first | exact trivial | omega | (simp only [dnL] at *; omega) | (simp_all; done) | (simp_all; omega)) (iR cFrame 3 (fun _ => rfl) default (by first | exact trivial | omega | (simp only [dnL] at *; omega) | (simp_all; done) | (simp_all; omega))) ?_
     refine Xe tG rfl rfl rfl rfl (fun _ => rfl) trivial ?_
     refine Xf tG rfl rfl rfl rfl (fun _ => rfl) trivial ?_
     refine Xe tG rfl rfl rfl rfl (fun _ => rfl) trivial ?_
     refine Xe tG rfl rfl rfl rfl (fun _ => rfl) trivial ?_
     first | refine Xi tG rfl rfl rfl rfl (fun _ => rfl) (by first | exact trivial | omega | (simp only [dnL] at *; omega) | (simp_all; done) | (simp_all; omega)) (iN cFrame 3 (fun _ => rfl) default (by first | exact trivial | omega | (simp only [dnL] at *; omega) | (simp_all; done) | (simp_all; omega))) ?_ | refine Xi tG rfl rfl rfl rfl (fun _ => rfl) (by first | exact trivial | omega | (simp only [dnL] at *; omega) | (simp_all; done) | (simp_all; omega)) (iR cFrame 3 (fun _ => rfl) default (by first | exact trivial | omega | (simp only [dnL] at *; omega) | (simp_all; done) | (simp_all; omega))) ?_
     refine Xe tG rfl rfl rfl rfl (fun _ => rfl) trivial ?_
     refine Xf tG rfl rfl rfl rfl (fun _ => rfl) trivial ?_
     refine Xe tG rfl rfl rfl rfl (fun _ => rfl) trivial ?_
     refine Xe tG rfl rfl rfl rfl (fun _ => rfl) trivial ?_
     refine Xe tG rfl rfl rfl rfl (fun _ => rfl) trivial ?_
     refine WU_split 41 rfl (fun hg2 => ?_) (fun hg2 => ?_)
     ·refine WU_skip rfl rfl rfl rfl ?_
      iterate 10 refine WU_skip rfl rfl rfl rfl ?_
      refine Xe tG rfl rfl rfl rfl (fun _ => rfl) trivial ?_
      refine WU_nil ?_
      refine Wt rfl rfl ?_
      refine Ws ?_
      refine W_region rfl ?_
      refine We tG rfl rfl rfl trivial ?_
      refine Wn ?_
      refine Wq ?_
      refine lP rfl ?_
      refine congrArg boo (decide_eq_false fun h => ?_).symm; subst h; simp_all
     ·refine Xe tG rfl rfl rfl rfl (fun _ => rfl) trivial ?_
      refine Xe tG rfl rfl rfl rfl (fun _ => rfl) trivial ?_
      first | refine Xi tG rfl rfl rfl rfl (fun _ => rfl) (by first | exact trivial | omega | (simp only [dnL] at *; omega) | (simp_all; done) | (simp_all; omega)) (iN cFrame 3 (fun _ => rfl) default (by first | exact trivial | omega | (simp only [dnL] at *; omega) | (simp_all; done) | (simp_all; omega))) ?_ | refine Xi tG rfl rfl rfl rfl (fun _ => rfl) (by first | exact trivial | omega | (simp only [dnL] at *; omega) | (simp_all; done) | (simp_all; omega)) (iR cFrame 3 (fun _ => rfl) default (by first | exact trivial | omega | (simp only [dnL] at *; omega) | (simp_all; done) | (simp_all; omega))) ?_
      refine Xe tG rfl rfl rfl rfl (fun _ => rfl) trivial ?_
      refine Xf tG rfl rfl rfl rfl (fun _ => rfl) trivial ?_
      refine Xe tG rfl rfl rfl rfl (fun _ => rfl) trivial ?_
      refine Xe tG rfl rfl rfl rfl (fun _ => rfl) trivial ?_
      first | refine Xi tG rfl rfl rfl rfl (fun _ => rfl) (by first | exact trivial | omega | (simp only [dnL] at *; omega) | (simp_all; done) | (simp_all; omega)) (iN cFrame 3 (fun _ => rfl) default (by first | exact trivial | omega | (simp only [dnL] at *; omega) | (simp_all; done) | (simp_all; omega))) ?_ | refine Xi tG rfl rfl rfl rfl (fun _ => rfl) (by first | exact trivial | omega | (simp only [dnL] at *; omega) | (simp_all; done) | (simp_all; omega)) (iR cFrame 3 (fun _ => rfl) default (by first | exact trivial | omega | (simp only [dnL] at *; omega) | (simp_all; done) | (simp_all; omega))) ?_
      refine Xe tG rfl rfl rfl rfl (fun _ => rfl) trivial ?_
      refine Xf tG rfl rfl rfl rfl (fun _ => rfl) trivial ?_
      refine Xe tG rfl rfl rfl rfl (fun _ => rfl) trivial ?_
      refine Xe tG rfl rfl rfl rfl (fun _ => rfl) trivial ?_
      refine WU_nil ?_
      refine Wi rfl (fun hi3 => ?_) (fun hi3 => ?_)
      ·refine Ws ?_
       refine W_region rfl ?_
       refine We tG rfl rfl rfl trivial ?_
       refine Wn ?_
       refine Wq ?_
       refine lP rfl ?_
       refine congrArg boo (decide_eq_false fun h => ?_).symm; subst h; simp_all
      ·refine Wj ?_
       refine W_region rfl ?_
       iterate 3 refine We tG rfl rfl rfl trivial ?_
       refine Wn ?_
       have he : a.getD k default = b.getD k default := (by (try simp only [dnL] at *); exact frame_ext (by omega) (by omega) (by omega))
       exact ⟨k + 1, [], (by exact ⟨by omega, take_same default hl hlt hk.2 he⟩), (by omega), ⟨rfl, ⟨(by repeat (first | exact reBase_nil | refine rB (.inl rfl) ?_ | refine rB (.inr rfl) ?_)), (by repeat (first | exact reX_nil | refine rX rfl ?_ | refine rX (by refine congrArg (fun q => some (Ob.free q)) ?_; simp <;> omega) ?_)), (by decide), (by repeat (first | exact moved_nil | refine mC (.inl (Nat.le_of_ble_eq_true rfl)) ?_ | refine mC (.inr rfl) ?_)), (by repeat (first | exact nlo_nil | exact nO nlo_nil | refine nlo_cells (by first | (refine nF ?_; simp; done) | (refine nF (flatL_map' ?_ _); intro x; simp; done) | (simp [NL1L, NL1]; done)) ?_ | refine nO ?_ | refine nlo_dead ?_ | refine nlo_iter ?_ | refine nlo_smap (by first | (refine nF ?_; simp; done) | (refine nF (flatL_map' ?_ _); intro x; simp; done) | (simp [NL1L, NL1]; done)) ?_))⟩, (by repeat (first | exact subL_nil | refine subL_cons (by first | exact imp_of rfl | exact imp_seq _ _ _ | exact imp_of (congrArg i64 (by first | (rw [i64w]; unfold wrap64; omega) | omega | (simp; done)))) ?_)), (by repeat (first | exact nls_nil | refine nls_cons (by first | (refine nl_flat ?_; simp; done) | (show _ < _; first | decide | (simp; done)) | (refine ⟨?_, flatL_map' ?_ _⟩ <;> first | decide | (intro x; simp; done) | (simp; done)) | (refine ⟨?_, ?_⟩ <;> first | decide | (simp; done)) | (simp [NL, NL1L, NL1]; done)) ?_))⟩⟩
   ·have hge : a.length ≤ k := by have := of_decide_eq_false hi2; omega
    refine W_exit ?_
    refine Ws ?_
    refine W_region rfl ?_
    refine We tG rfl rfl rfl trivial ?_
    refine Wn ?_
    refine Wq ?_
    refine lP rfl ?_
    exact congrArg boo (decide_eq_true (by have h1 := hk.2; rw [take_all' a k hge, take_all' b k (by omega)] at h1; exact h1)).symm
end Go.Proofs.YtphgdofmjpdhaaaGreat
namespace Go.Proofs.YtphgdofmjpdhaaaGreat
open Go.RowKit
set_option linter.unusedVariables false
set_option maxRecDepth 100000
set_option maxHeartbeats 4000000
theorem patch_ext {x y : VPatch} (h1 : x.place = y.place) (h2 : x.old = y.old) : x = y := by cases x; cases y; simp_all
theorem ref_Same3 (a b : VMem) (ha : a.old.length ≤ 1000000) (hb : b.old.length ≤ 1000000) : PureC Tryz.prog 34 [eMem a, eMem b] (boo (decide (a = b))) := by
 refine pW tG (rs := [.tmp 4]) Tryz.func34 rfl rfl rfl (by simp) (by simp) (fun B => ?_)
 refine Ws ?_
 refine W_region rfl ?_
 iterate 3 refine We tG rfl rfl rfl trivial ?_
 refine Wn ?_
 iterate 2 refine Ws ?_
 refine W_region rfl ?_
 iterate 2 refine We tG rfl rfl rfl trivial ?_
 first | refine Wd rfl rfl (does_bytes_str (lO tG rfl) rfl (lO tG rfl) rfl (lO tG rfl) rfl rfl rfl) ?_ | refine Wd rfl rfl (does_byte1_str (lO tG rfl) rfl (lO tG rfl) rfl (lO tG rfl) rfl rfl rfl) ?_
 iterate 2 refine We tG rfl rfl rfl trivial ?_
 first | refine Wd rfl rfl (does_bytes_str (lO tG rfl) rfl (lO tG rfl) rfl (lO tG rfl) rfl rfl rfl) ?_ | refine Wd rfl rfl (does_byte1_str (lO tG rfl) rfl (lO tG rfl) rfl (lO tG rfl) rfl rfl rfl) ?_
 refine We tG rfl rfl rfl trivial ?_
 refine Wa 12 rfl (str_neq _ _) ?_
 refine We tG rfl rfl rfl trivial ?_
 refine Wb 13 rfl (fun hg1 => ?_) (fun hg1 => ?_)
 ·refine Wk rfl rfl ?_
  iterate 6 refine Wk rfl rfl ?_
  refine We tG rfl rfl rfl trivial ?_
  refine Wn ?_
  refine Wt rfl rfl ?_
  refine Ws ?_
  refine W_region rfl ?_
  refine We tG rfl rfl rfl trivial ?_
  refine Wn ?_
  refine Wq ?_
  refine lP rfl ?_
  refine congrArg boo (decide_eq_false fun h => ?_).symm; subst h; simp_all
 ·refine We tG rfl rfl rfl trivial ?_
  iterate 7 refine We tG rfl rfl rfl trivial ?_
  refine Wn ?_
  refine Wi rfl (fun hi1 => ?_) (fun hi1 => ?_)
  ·have hne : a ≠ b := fun h => by subst h; simp at hi1
   refine Ws ?_
   refine W_region rfl ?_
   refine We tG rfl rfl rfl trivial ?_
   refine Wn ?_
   refine Wq ?_
   refine lP rfl ?_
   refine congrArg boo (decide_eq_false fun h => ?_).symm; subst h; simp_all
  ·have hl : a.old.length = b.old.length := by (try simp only [dnL] at *); omega
   have hb0 : a.b = b.b := by (try simp only [dnL] at *); simp_all
   refine Wj ?_
   iterate 2 refine Ws ?_
   refine W_region rfl ?_
   refine We tG rfl rfl rfl trivial ?_
   refine Wn ?_
   refine Wl ?_
   show W _ _ _ _ _ _ _
   refine W_loopS (fun (k : Nat) => [(2, .ptr 0 0), (3, .ptr 1 0), (5, i64 k)]) (fun (k : Nat) => [.cells (cMem a) 27, .cells (cMem b) 27]) (fun (k : Nat) => []) (fun (k : Nat) => k ≤ a.old.length ∧ a.old.take k = b.old.take k) (fun (k : Nat) => a.old.length - k) (0) (by first | exact trivial | omega | simp) [] ?_ ?_
   ·exact ⟨rfl, ⟨(by repeat (first | exact reBase_nil | refine rB (.inl rfl) ?_ | refine rB (.inr rfl) ?_)), (by repeat (first | exact reX_nil | refine rX rfl ?_ | refine rX (by refine congrArg (fun q => some (Ob.free q)) ?_; simp <;> omega) ?_)), (by decide), (by repeat (first | exact moved_nil | refine mC (.inl (Nat.le_of_ble_eq_true rfl)) ?_ | refine mC (.inr rfl) ?_)), (by repeat (first | exact nlo_nil | exact nO nlo_nil | refine nlo_cells (by first | (refine nF ?_; simp; done) | (refine nF (flatL_map' ?_ _); intro x; simp; done) | (simp [NL1L, NL1]; done)) ?_ | refine nO ?_ | refine nlo_dead ?_ | refine nlo_iter ?_ | refine nlo_smap (by first | (refine nF ?_; simp; done) | (refine nF (flatL_map' ?_ _); intro x; simp; done) | (simp [NL1L, NL1]; done)) ?_))⟩, (by repeat (first | exact subL_nil | refine subL_cons (by first | exact imp_of rfl | exact imp_seq _ _ _ | exact imp_of (congrArg i64 (by first | (rw [i64w]; unfold wrap64; omega) | omega | (simp; done)))) ?_)), (by repeat (first | exact nls_nil | refine nls_cons (by first | (refine nl_flat ?_; simp; done) | (show _ < _; first | decide | (simp; done)) | (refine ⟨?_, flatL_map' ?_ _⟩ <;> first | decide | (intro x; simp; done) | (simp; done)) | (refine ⟨?_, ?_⟩ <;> first | decide | (simp; done)) | (simp [NL, NL1L, NL1]; done)) ?_))⟩
   ·intro k hk
    iterate 2 refine Ws ?_
    refine W_region rfl ?_
    iterate 5 refine We tG rfl rfl rfl trivial ?_
    refine Wn ?_
    refine Wi rfl (fun hi2 => ?_) (fun hi2 => ?_)
    ·have hlt : k < a.old.length := by have := of_decide_eq_true hi2; omega
     refine Wj ?_
     refine Ws ?_
     refine Wl ?_
     refine Ws ?_
     refine W_drawU [0, 1, 0, 0, 0, 1, 0, 1, 0, 0, 0, 1, 0, 0, 0, 1, 0, 0, 0, 1, 0, 0, 1, 0, 0, 0, 1, 0, 0, 0] [0, 1, 2, 3, 4, 5, 6, 7, 8, 9, 10, 11, 12, 13, 14, 15, 16, 17, 18, 19, 20, 21, 22, 23, 24, 25, 26, 27, 28, 29] mG rfl (by kernel_rfl) ?_
     refine Xe tG rfl rfl rfl rfl (fun _ => rfl) trivial ?_
     refine Xf tG rfl rfl rfl rfl (fun _ => rfl) trivial ?_
     refine Xe tG rfl rfl rfl rfl (fun _ => rfl) trivial ?_
     first | refine Xi tG rfl rfl rfl rfl (fun _ => rfl) (by first | exact trivial | omega | (simp only [dnL] at *; omega) | (simp_all; done) | (simp_all; omega)) (iN cPatch 2 (fun _ => rfl) default (by first | exact trivial | omega | (simp only [dnL] at *; omega) | (simp_all; done) | (simp_all; omega))) ?_ | refine Xi tG rfl rfl rfl rfl (fun _ => rfl) (by first | exact trivial | omega | (simp only [dnL] at *; omega) | (simp_all; done) | (simp_all; omega)) (iR cPatch 2 (fun _ => rfl) default (by first | exact trivial | omega | (simp only [dnL] at *; omega) | (simp_all; done) | (simp_all; omega))) ?_
     refine Xe tG rfl rfl rfl rfl (fun _ => rfl) trivial ?_
     refine Xf tG rfl rfl rfl rfl (fun _ => rfl) trivial ?_
     refine Xe tG rfl rfl rfl rfl (fun _ => rfl) trivial ?_
     refine Xf tG rfl rfl rfl rfl (fun _ => rfl) trivial ?_
     refine Xe tG rfl rfl rfl rfl (fun _ => rfl) trivial ?_
     first | refine Xi tG rfl rfl rfl rfl (fun _ => rfl) (by first | exact trivial | omega | (simp only [dnL] at *; omega) | (simp_all; done) | (simp_all; omega)) (iN cPatch 2 (fun _ => rfl) default (by first | exact trivial | omega | (simp only [dnL] at *; omega) | (simp_all; done) | (simp_all; omega))) ?_ | refine Xi tG rfl rfl rfl rfl (fun _ => rfl) (by first | exact trivial | omega | (simp only [dnL] at *; omega) | (simp_all; done) | (simp_all; omega)) (iR cPatch 2 (fun _ => rfl) default (by first | exact trivial | omega | (simp only [dnL] at *; omega) | (simp_all; done) | (simp_all; omega))) ?_
     refine Xe tG rfl rfl rfl rfl (fun _ => rfl) trivial ?_
     refine Xf tG rfl rfl rfl rfl (fun _ => rfl) trivial ?_
     refine Xe tG rfl rfl rfl rfl (fun _ => rfl) trivial ?_
     refine Xe tG rfl rfl rfl rfl (fun _ => rfl) trivial ?_
     refine WU_split 42 rfl (fun hg2 => ?_) (fun hg2 => ?_)
     ·refine WU_skip rfl rfl rfl rfl ?_
      iterate 14 refine WU_skip rfl rfl rfl rfl ?_
      refine Xe tG rfl rfl rfl rfl (fun _ => rfl) trivial ?_
      refine WU_nil ?_
      refine Wt rfl rfl ?_
      refine Ws ?_
      refine W_region rfl ?_
      refine We tG rfl rfl rfl trivial ?_
      refine Wn ?_
      refine Wq ?_
      refine lP rfl ?_
      refine congrArg boo (decide_eq_false fun h => ?_).symm; subst h; simp_all
     ·refine Xe tG rfl rfl rfl rfl (fun _ => rfl) trivial ?_
      refine Xf tG rfl rfl rfl rfl (fun _ => rfl) trivial ?_
      refine Xe tG rfl rfl rfl rfl (fun _ => rfl) trivial ?_
      first | refine Xi tG rfl rfl rfl rfl (fun _ => rfl) (by first | exact trivial | omega | (simp only [dnL] at *; omega) | (simp_all; done) | (simp_all; omega)) (iN cPatch 2 (fun _ => rfl) default (by first | exact trivial | omega | (simp only [dnL] at *; omega) | (simp_all; done) | (simp_all; omega))) ?_ | refine Xi tG rfl rfl rfl rfl (fun _ => rfl) (by first | exact trivial | omega | (simp only [dnL] at *; omega) | (simp_all; done) | (simp_all; omega)) (iR cPatch 2 (fun _ => rfl) default (by first | exact trivial | omega | (simp only [dnL] at *; omega) | (simp_all; done) | (simp_all; omega))) ?_
      refine Xe tG rfl rfl rfl rfl (fun _ => rfl) trivial ?_
      refine Xf tG rfl rfl rfl rfl (fun _ => rfl) trivial ?_
      first | refine WU_does0 rfl rfl rfl rfl (fun _ => does_bytes_str (lO tG rfl) rfl (lO tG rfl) rfl (lO tG rfl) rfl rfl rfl) ?_ | refine WU_does0 rfl rfl rfl rfl (fun _ => does_byte1_str (lO tG rfl) rfl (lO tG rfl) rfl (lO tG rfl) rfl rfl rfl) ?_
      refine Xe tG rfl rfl rfl rfl (fun _ => rfl) trivial ?_
      refine Xf tG rfl rfl rfl rfl (fun _ => rfl) trivial ?_
      refine Xe tG rfl rfl rfl rfl (fun _ => rfl) trivial ?_
      first | refine Xi tG rfl rfl rfl rfl (fun _ => rfl) (by first | exact trivial | omega | (simp only [dnL] at *; omega) | (simp_all; done) | (simp_all; omega)) (iN cPatch 2 (fun _ => rfl) default (by first | exact trivial | omega | (simp only [dnL] at *; omega) | (simp_all; done) | (simp_all; omega))) ?_ | refine Xi tG rfl rfl rfl rfl (fun _ => rfl) (by first | exact trivial | omega | (simp only [dnL] at *; omega) | (simp_all; done) | (simp_all; omega)) (iR cPatch 2 (fun _ => rfl) default (by first | exact trivial | omega | (simp only [dnL] at *; omega) | (simp_all; done) | (simp_all; omega))) ?_
      refine Xe tG rfl rfl rfl rfl (fun _ => rfl) trivial ?_
      refine Xf tG rfl rfl rfl rfl (fun _ => rfl) trivial ?_
      first | refine WU_does0 rfl rfl rfl rfl (fun _ => does_bytes_str (lO tG rfl) rfl (lO tG rfl) rfl (lO tG rfl) rfl rfl rfl) ?_ | refine WU_does0 rfl rfl rfl rfl (fun _ => does_byte1_str (lO tG rfl) rfl (lO tG rfl) rfl (lO tG rfl) rfl rfl rfl) ?_
      refine Xe tG rfl rfl rfl rfl (fun _ => rfl) trivial ?_
      refine Xa 57 rfl (str_neq _ _) ?_
      refine Xe tG rfl rfl rfl rfl (fun _ => rfl) trivial ?_
      refine WU_nil ?_
      refine Wi rfl (fun hi3 => ?_) (fun hi3 => ?_)
      ·refine Ws ?_
       refine W_region rfl ?_
       refine We tG rfl rfl rfl trivial ?_
       refine Wn ?_
       refine Wq ?_
       refine lP rfl ?_
       refine congrArg boo (decide_eq_false fun h => ?_).symm; subst h; simp_all
      ·refine Wj ?_
       refine W_region rfl ?_
       iterate 3 refine We tG rfl rfl rfl trivial ?_
       refine Wn ?_
       have he : a.old.getD k default = b.old.getD k default := (by (try simp only [dnL] at *); exact patch_ext (by omega) (by first | assumption | simp_all))
       exact ⟨k + 1, [], (by exact ⟨by omega, take_same default hl hlt hk.2 he⟩), (by omega), ⟨rfl, ⟨(by repeat (first | exact reBase_nil | refine rB (.inl rfl) ?_ | refine rB (.inr rfl) ?_)), (by repeat (first | exact reX_nil | refine rX rfl ?_ | refine rX (by refine congrArg (fun q => some (Ob.free q)) ?_; simp <;> omega) ?_)), (by decide), (by repeat (first | exact moved_nil | refine mC (.inl (Nat.le_of_ble_eq_true rfl)) ?_ | refine mC (.inr rfl) ?_)), (by repeat (first | exact nlo_nil | exact nO nlo_nil | refine nlo_cells (by first | (refine nF ?_; simp; done) | (refine nF (flatL_map' ?_ _); intro x; simp; done) | (simp [NL1L, NL1]; done)) ?_ | refine nO ?_ | refine nlo_dead ?_ | refine nlo_iter ?_ | refine nlo_smap (by first | (refine nF ?_; simp; done) | (refine nF (flatL_map' ?_ _); intro x; simp; done) | (simp [NL1L, NL1]; done)) ?_))⟩, (by repeat (first | exact subL_nil | refine subL_cons (by first | exact imp_of rfl | exact imp_seq _ _ _ | exact imp_of (congrArg i64 (by first | (rw [i64w]; unfold wrap64; omega) | omega | (simp; done)))) ?_)), (by repeat (first | exact nls_nil | refine nls_cons (by first | (refine nl_flat ?_; simp; done) | (show _ < _; first | decide | (simp; done)) | (refine ⟨?_, flatL_map' ?_ _⟩ <;> first | decide | (intro x; simp; done) | (simp; done)) | (refine ⟨?_, ?_⟩ <;> first | decide | (simp; done)) | (simp [NL, NL1L, NL1]; done)) ?_))⟩⟩
    ·have hge : a.old.length ≤ k := by have := of_decide_eq_false hi2; omega
     refine W_exit ?_
     refine Ws ?_
     refine W_region rfl ?_
     refine We tG rfl rfl rfl trivial ?_
     refine Wn ?_
     refine Wq ?_
     refine lP rfl ?_
     exact congrArg boo (decide_eq_true (by have h1 := hk.2; rw [take_all' _ k hge, take_all' _ k (by omega)] at h1; cases a; cases b; simp_all)).symm
end Go.Proofs.YtphgdofmjpdhaaaGreat
namespace Go.Proofs.YtphgdofmjpdhaaaGreat
open Go.RowKit
set_option linter.unusedVariables false
set_option maxRecDepth 100000
set_option maxHeartbeats 4000000
def fitsV (c : VConf) : Prop := 2048 ≤ c.mem ∧ c.mem ≤ 65536 ∧ c.mem.tmod 8 = 0 ∧ 1 ≤ c.data ∧ c.data ≤ 256 ∧ 1 ≤ c.ret ∧ c.ret ≤ 256 ∧ 200 ≤ c.words ∧ c.words ≤ 1024 ∧ 0 ≤ c.out ∧ c.out ≤ 65536
instance (c : VConf) : Decidable (fitsV c) := by unfold fitsV; infer_instance
theorem ref_Fits (c : VConf) : PureC Tryz.prog 40 [eConf c] (boo (decide (fitsV c))) := by
 refine pW tG (rs := [.tmp 2]) Tryz.func40 rfl rfl rfl (by simp) (by simp) (fun B => ?_)
 refine Ws ?_
 refine W_region rfl ?_
 iterate 2 refine We tG rfl rfl rfl trivial ?_
 refine Wn ?_
 refine Ws ?_
 refine W_region rfl ?_
 iterate 4 refine We tG rfl rfl rfl trivial ?_
 refine Wb 6 rfl (fun hg1 => ?_) (fun hg1 => ?_)
 ·refine We tG rfl rfl rfl trivial ?_
  iterate 4 refine We tG rfl rfl rfl trivial ?_
  refine Wb 11 rfl (fun hg2 => ?_) (fun hg2 => ?_)
  ·refine We tG rfl rfl rfl trivial ?_
   iterate 5 refine We tG rfl rfl rfl trivial ?_
   refine Wb 17 rfl (fun hg3 => ?_) (fun hg3 => ?_)
   ·refine We tG rfl rfl rfl trivial ?_
    iterate 4 refine We tG rfl rfl rfl trivial ?_
    refine Wb 22 rfl (fun hg4 => ?_) (fun hg4 => ?_)
    ·refine We tG rfl rfl rfl trivial ?_
     iterate 4 refine We tG rfl rfl rfl trivial ?_
     refine Wb 27 rfl (fun hg5 => ?_) (fun hg5 => ?_)
     ·refine We tG rfl rfl rfl trivial ?_
      iterate 4 refine We tG rfl rfl rfl trivial ?_
      refine Wb 32 rfl (fun hg6 => ?_) (fun hg6 => ?_)
      ·refine We tG rfl rfl rfl trivial ?_
       iterate 4 refine We tG rfl rfl rfl trivial ?_
       refine Wb 37 rfl (fun hg7 => ?_) (fun hg7 => ?_)
       ·refine We tG rfl rfl rfl trivial ?_
        iterate 4 refine We tG rfl rfl rfl trivial ?_
        refine Wb 42 rfl (fun hg8 => ?_) (fun hg8 => ?_)
        ·refine We tG rfl rfl rfl trivial ?_
         iterate 4 refine We tG rfl rfl rfl trivial ?_
         refine Wb 47 rfl (fun hg9 => ?_) (fun hg9 => ?_)
         ·refine We tG rfl rfl rfl trivial ?_
          iterate 4 refine We tG rfl rfl rfl trivial ?_
          refine Wb 52 rfl (fun hg10 => ?_) (fun hg10 => ?_)
          ·refine We tG rfl rfl rfl trivial ?_
           iterate 4 refine We tG rfl rfl rfl trivial ?_
           refine Wn ?_
           refine Wq ?_
           refine lP rfl ?_
           first | (refine congrArg boo (decide_eq_false ?_).symm; unfold fitsV; (try simp only [dnL] at *); omega) | (refine congrArg boo (decide_eq_decide.2 ?_); unfold fitsV; (try simp only [dnL] at *); omega)
          ·refine Wk rfl rfl ?_
           iterate 2 refine Wk rfl rfl ?_
           iterate 2 refine We tG rfl rfl rfl trivial ?_
           refine Wn ?_
           refine Wq ?_
           refine lP rfl ?_
           first | (refine congrArg boo (decide_eq_false ?_).symm; unfold fitsV; (try simp only [dnL] at *); omega) | (refine congrArg boo (decide_eq_decide.2 ?_); unfold fitsV; (try simp only [dnL] at *); omega)
         ·refine Wk rfl rfl ?_
          iterate 2 refine Wk rfl rfl ?_
          iterate 2 refine We tG rfl rfl rfl trivial ?_
          iterate 3 refine Wk rfl rfl ?_
          iterate 2 refine We tG rfl rfl rfl trivial ?_
          refine Wn ?_
          refine Wq ?_
          refine lP rfl ?_
          first | (refine congrArg boo (decide_eq_false ?_).symm; unfold fitsV; (try simp only [dnL] at *); omega) | (refine congrArg boo (decide_eq_decide.2 ?_); unfold fitsV; (try simp only [dnL] at *); omega)
        ·refine Wk rfl rfl ?_
         iterate 2 refine Wk rfl rfl ?_
         iterate 2 refine We tG rfl rfl rfl trivial ?_
         iterate 3 refine Wk rfl rfl ?_
         iterate 2 refine We tG rfl rfl rfl trivial ?_
         iterate 3 refine Wk rfl rfl ?_
         iterate 2 refine We tG rfl rfl rfl trivial ?_
         refine Wn ?_
         refine Wq ?_
         refine lP rfl ?_
         first | (refine congrArg boo (decide_eq_false ?_).symm; unfold fitsV; (try simp only [dnL] at *); omega) | (refine congrArg boo (decide_eq_decide.2 ?_); unfold fitsV; (try simp only [dnL] at *); omega)
       ·refine Wk rfl rfl ?_
        iterate 2 refine Wk rfl rfl ?_
        iterate 2 refine We tG rfl rfl rfl trivial ?_
        iterate 3 refine Wk rfl rfl ?_
        iterate 2 refine We tG rfl rfl rfl trivial ?_
        iterate 3 refine Wk rfl rfl ?_
        iterate 2 refine We tG rfl rfl rfl trivial ?_
        iterate 3 refine Wk rfl rfl ?_
        iterate 2 refine We tG rfl rfl rfl trivial ?_
        refine Wn ?_
        refine Wq ?_
        refine lP rfl ?_
        first | (refine congrArg boo (decide_eq_false ?_).symm; unfold fitsV; (try simp only [dnL] at *); omega) | (refine congrArg boo (decide_eq_decide.2 ?_); unfold fitsV; (try simp only [dnL] at *); omega)
      ·refine Wk rfl rfl ?_
       iterate 2 refine Wk rfl rfl ?_
       iterate 2 refine We tG rfl rfl rfl trivial ?_
       iterate 3 refine Wk rfl rfl ?_
       iterate 2 refine We tG rfl rfl rfl trivial ?_
       iterate 3 refine Wk rfl rfl ?_
       iterate 2 refine We tG rfl rfl rfl trivial ?_
       iterate 3 refine Wk rfl rfl ?_
       iterate 2 refine We tG rfl rfl rfl trivial ?_
       iterate 3 refine Wk rfl rfl ?_
       iterate 2 refine We tG rfl rfl rfl trivial ?_
       refine Wn ?_
       refine Wq ?_
       refine lP rfl ?_
       first | (refine congrArg boo (decide_eq_false ?_).symm; unfold fitsV; (try simp only [dnL] at *); omega) | (refine congrArg boo (decide_eq_decide.2 ?_); unfold fitsV; (try simp only [dnL] at *); omega)
     ·refine Wk rfl rfl ?_
      iterate 2 refine Wk rfl rfl ?_
      iterate 2 refine We tG rfl rfl rfl trivial ?_
      iterate 3 refine Wk rfl rfl ?_
      iterate 2 refine We tG rfl rfl rfl trivial ?_
      iterate 3 refine Wk rfl rfl ?_
      iterate 2 refine We tG rfl rfl rfl trivial ?_
      iterate 3 refine Wk rfl rfl ?_
      iterate 2 refine We tG rfl rfl rfl trivial ?_
      iterate 3 refine Wk rfl rfl ?_
      iterate 2 refine We tG rfl rfl rfl trivial ?_
      iterate 3 refine Wk rfl rfl ?_
      iterate 2 refine We tG rfl rfl rfl trivial ?_
      refine Wn ?_
      refine Wq ?_
      refine lP rfl ?_
      first | (refine congrArg boo (decide_eq_false ?_).symm; unfold fitsV; (try simp only [dnL] at *); omega) | (refine congrArg boo (decide_eq_decide.2 ?_); unfold fitsV; (try simp only [dnL] at *); omega)
    ·refine Wk rfl rfl ?_
     iterate 2 refine Wk rfl rfl ?_
     iterate 2 refine We tG rfl rfl rfl trivial ?_
     iterate 3 refine Wk rfl rfl ?_
     iterate 2 refine We tG rfl rfl rfl trivial ?_
     iterate 3 refine Wk rfl rfl ?_
     iterate 2 refine We tG rfl rfl rfl trivial ?_
     iterate 3 refine Wk rfl rfl ?_
     iterate 2 refine We tG rfl rfl rfl trivial ?_
     iterate 3 refine Wk rfl rfl ?_
     iterate 2 refine We tG rfl rfl rfl trivial ?_
     iterate 3 refine Wk rfl rfl ?_
     iterate 2 refine We tG rfl rfl rfl trivial ?_
     iterate 3 refine Wk rfl rfl ?_
     iterate 2 refine We tG rfl rfl rfl trivial ?_
     refine Wn ?_
     refine Wq ?_
     refine lP rfl ?_
     first | (refine congrArg boo (decide_eq_false ?_).symm; unfold fitsV; (try simp only [dnL] at *); omega) | (refine congrArg boo (decide_eq_decide.2 ?_); unfold fitsV; (try simp only [dnL] at *); omega)
   ·refine Wk rfl rfl ?_
    iterate 2 refine Wk rfl rfl ?_
    iterate 2 refine We tG rfl rfl rfl trivial ?_
    iterate 3 refine Wk rfl rfl ?_
    iterate 2 refine We tG rfl rfl rfl trivial ?_
    iterate 3 refine Wk rfl rfl ?_
    iterate 2 refine We tG rfl rfl rfl trivial ?_
    iterate 3 refine Wk rfl rfl ?_
    iterate 2 refine We tG rfl rfl rfl trivial ?_
    iterate 3 refine Wk rfl rfl ?_
    iterate 2 refine We tG rfl rfl rfl trivial ?_
    iterate 3 refine Wk rfl rfl ?_
    iterate 2 refine We tG rfl rfl rfl trivial ?_
    iterate 3 refine Wk rfl rfl ?_
    iterate 2 refine We tG rfl rfl rfl trivial ?_
    iterate 3 refine Wk rfl rfl ?_
    iterate 2 refine We tG rfl rfl rfl trivial ?_
    refine Wn ?_
    refine Wq ?_
    refine lP rfl ?_
    first | (refine congrArg boo (decide_eq_false ?_).symm; unfold fitsV; (try simp only [dnL] at *); omega) | (refine congrArg boo (decide_eq_decide.2 ?_); unfold fitsV; (try simp only [dnL] at *); omega)
  ·refine Wk rfl rfl ?_
   iterate 3 refine Wk rfl rfl ?_
   iterate 2 refine We tG rfl rfl rfl trivial ?_
   iterate 3 refine Wk rfl rfl ?_
   iterate 2 refine We tG rfl rfl rfl trivial ?_
   iterate 3 refine Wk rfl rfl ?_
   iterate 2 refine We tG rfl rfl rfl trivial ?_
   iterate 3 refine Wk rfl rfl ?_
   iterate 2 refine We tG rfl rfl rfl trivial ?_
   iterate 3 refine Wk rfl rfl ?_
   iterate 2 refine We tG rfl rfl rfl trivial ?_
   iterate 3 refine Wk rfl rfl ?_
   iterate 2 refine We tG rfl rfl rfl trivial ?_
   iterate 3 refine Wk rfl rfl ?_
   iterate 2 refine We tG rfl rfl rfl trivial ?_
   iterate 3 refine Wk rfl rfl ?_
   iterate 2 refine We tG rfl rfl rfl trivial ?_
   iterate 3 refine Wk rfl rfl ?_
   iterate 2 refine We tG rfl rfl rfl trivial ?_
   refine Wn ?_
   refine Wq ?_
   refine lP rfl ?_
   first | (refine congrArg boo (decide_eq_false ?_).symm; unfold fitsV; (try simp only [dnL] at *); omega) | (refine congrArg boo (decide_eq_decide.2 ?_); unfold fitsV; (try simp only [dnL] at *); omega)
 ·refine Wk rfl rfl ?_
  iterate 2 refine Wk rfl rfl ?_
  iterate 2 refine We tG rfl rfl rfl trivial ?_
  iterate 4 refine Wk rfl rfl ?_
  iterate 2 refine We tG rfl rfl rfl trivial ?_
  iterate 3 refine Wk rfl rfl ?_
  iterate 2 refine We tG rfl rfl rfl trivial ?_
  iterate 3 refine Wk rfl rfl ?_
  iterate 2 refine We tG rfl rfl rfl trivial ?_
  iterate 3 refine Wk rfl rfl ?_
  iterate 2 refine We tG rfl rfl rfl trivial ?_
  iterate 3 refine Wk rfl rfl ?_
  iterate 2 refine We tG rfl rfl rfl trivial ?_
  iterate 3 refine Wk rfl rfl ?_
  iterate 2 refine We tG rfl rfl rfl trivial ?_
  iterate 3 refine Wk rfl rfl ?_
  iterate 2 refine We tG rfl rfl rfl trivial ?_
  iterate 3 refine Wk rfl rfl ?_
  iterate 2 refine We tG rfl rfl rfl trivial ?_
  iterate 3 refine Wk rfl rfl ?_
  iterate 2 refine We tG rfl rfl rfl trivial ?_
  refine Wn ?_
  refine Wq ?_
  refine lP rfl ?_
  first | (refine congrArg boo (decide_eq_false ?_).symm; unfold fitsV; (try simp only [dnL] at *); omega) | (refine congrArg boo (decide_eq_decide.2 ?_); unfold fitsV; (try simp only [dnL] at *); omega)
def picRight (p : VPic) : Prop := p.b.length ≤ 130 ∧ (p.on = true ∨ p.b.length = 0)
instance (p : VPic) : Decidable (picRight p) := by unfold picRight; infer_instance
theorem ref_Right7 (p : VPic) : PureC Tryz.prog 43 [ePic p] (boo (decide (picRight p))) := by
 refine pW tG (rs := [.tmp 2]) Tryz.func43 rfl rfl rfl (by simp) (by simp) (fun B => ?_)
 refine Ws ?_
 refine W_region rfl ?_
 iterate 2 refine We tG rfl rfl rfl trivial ?_
 refine Wn ?_
 refine Ws ?_
 refine W_region rfl ?_
 iterate 5 refine We tG rfl rfl rfl trivial ?_
 refine Wb 7 rfl (fun hg1 => ?_) (fun hg1 => ?_)
 ·refine We tG rfl rfl rfl trivial ?_
  iterate 2 refine We tG rfl rfl rfl trivial ?_
  refine Wb 10 rfl (fun hg2 => ?_) (fun hg2 => ?_)
  ·refine Wk rfl rfl ?_
   iterate 3 refine Wk rfl rfl ?_
   iterate 3 refine We tG rfl rfl rfl trivial ?_
   refine Wn ?_
   refine Wq ?_
   refine lP rfl ?_
   first | (refine congrArg boo ?_; rw [Bool.eq_iff_iff]; unfold picRight; (try simp only [dnL] at *); simp_all; done) | (refine congrArg boo ?_; rw [Bool.eq_iff_iff]; unfold picRight; (try simp only [dnL] at *); simp_all; omega)
  ·refine We tG rfl rfl rfl trivial ?_
   iterate 6 refine We tG rfl rfl rfl trivial ?_
   refine Wn ?_
   refine Wq ?_
   refine lP rfl ?_
   first | (refine congrArg boo ?_; rw [Bool.eq_iff_iff]; unfold picRight; (try simp only [dnL] at *); simp_all; done) | (refine congrArg boo ?_; rw [Bool.eq_iff_iff]; unfold picRight; (try simp only [dnL] at *); simp_all; omega)
 ·refine Wk rfl rfl ?_
  iterate 7 refine Wk rfl rfl ?_
  iterate 2 refine We tG rfl rfl rfl trivial ?_
  refine Wn ?_
  refine Wq ?_
  refine lP rfl ?_
  first | (refine congrArg boo ?_; rw [Bool.eq_iff_iff]; unfold picRight; (try simp only [dnL] at *); simp_all; done) | (refine congrArg boo ?_; rw [Bool.eq_iff_iff]; unfold picRight; (try simp only [dnL] at *); simp_all; omega)
end Go.Proofs.YtphgdofmjpdhaaaGreat
namespace Go.Proofs.YtphgdofmjpdhaaaGreat
open Go.RowKit
def bytes8 (u : Nat) : List Int := [(u : Int) % 256, (u : Int) / 256 % 256, (u : Int) / 65536 % 256, (u : Int) / 16777216 % 256,
  (u : Int) / 4294967296 % 256, (u : Int) / 1099511627776 % 256, (u : Int) / 281474976710656 % 256, (u : Int) / 72057594037927936 % 256]
theorem bytes8_len (u : Nat) : (bytes8 u).length = 8 := rfl
def putW (w : World) (x : List Value) : World :=
 ((w.alloc (.cells x.toArray 262)).alloc (.cells #[.int .u8 0, .int .u8 0, .int .u8 0, .int .u8 0, .int .u8 0, .int .u8 0, .int .u8 0, .int .u8 0] 5)).setRow (w.heap.size + 1) x.toArray
theorem putW_heap (w : World) (x : List Value) : (putW w x).heap[w.heap.size + 1]? = some (.cells x.toArray 5 (0, 0)) := by
 unfold putW
 exact setRow_heap _ (w.heap.size + 1) #[.int .u8 0, .int .u8 0, .int .u8 0, .int .u8 0, .int .u8 0, .int .u8 0, .int .u8 0, .int .u8 0] _ _ _ (by simpa using heap_alloc_new (w.alloc (.cells x.toArray 262)) _)
theorem putW_below (w : World) (x : List Value) : Below w.heap.size w (putW w x) :=
 below_setRow (((Below.refl _ _).alloc (Nat.le_refl _) _).alloc (by simp) _) (by omega) _
theorem run_copy8 (w : World) (x0 x1 x2 x3 x4 x5 x6 x7 : Int) :
  (Builtin.copy_ #[24, 24] 3 #[.slice (some ⟨w.heap.size + 1, 0, none⟩) 8 8, .slice (some ⟨w.heap.size, 0, none⟩) 8 8]).run Tryz.prog
   ((w.alloc (.cells #[.int .u8 x0, .int .u8 x1, .int .u8 x2, .int .u8 x3, .int .u8 x4, .int .u8 x5, .int .u8 x6, .int .u8 x7] 262)).alloc (.cells #[.int .u8 0, .int .u8 0, .int .u8 0, .int .u8 0, .int .u8 0, .int .u8 0, .int .u8 0, .int .u8 0] 5)) =
   .ok (.int .i64 8) (putW w [.int .u8 x0, .int .u8 x1, .int .u8 x2, .int .u8 x3, .int .u8 x4, .int .u8 x5, .int .u8 x6, .int .u8 x7]) := by
 have h := run_copy_row (P := Tryz.prog) ((w.alloc (.cells #[.int .u8 x0, .int .u8 x1, .int .u8 x2, .int .u8 x3, .int .u8 x4, .int .u8 x5, .int .u8 x6, .int .u8 x7] 262)).alloc (.cells #[.int .u8 0, .int .u8 0, .int .u8 0, .int .u8 0, .int .u8 0, .int .u8 0, .int .u8 0, .int .u8 0] 5))
  24 24 3 5 (w.heap.size + 1) 0 8 8 ⟨w.heap.size, 0, none⟩ 8 8 #[.int .u8 0, .int .u8 0, .int .u8 0, .int .u8 0, .int .u8 0, .int .u8 0, .int .u8 0, .int .u8 0] 5
  [.int .u8 x0, .int .u8 x1, .int .u8 x2, .int .u8 x3, .int .u8 x4, .int .u8 x5, .int .u8 x6, .int .u8 x7]
  Tryz.underlying24 (by kernel_rfl) (by simpa using heap_alloc_new (w.alloc _) _) rfl ?_ (by simp) (by simp [Value.oneCell'])
 ·exact h
 ·intro j v hj
  have hg : ((w.alloc (.cells #[.int .u8 x0, .int .u8 x1, .int .u8 x2, .int .u8 x3, .int .u8 x4, .int .u8 x5, .int .u8 x6, .int .u8 x7] 262)).alloc (.cells #[.int .u8 0, .int .u8 0, .int .u8 0, .int .u8 0, .int .u8 0, .int .u8 0, .int .u8 0, .int .u8 0] 5)).heap[w.heap.size]? =
    some (.cells #[.int .u8 x0, .int .u8 x1, .int .u8 x2, .int .u8 x3, .int .u8 x4, .int .u8 x5, .int .u8 x6, .int .u8 x7] 262 (0, 0)) := by
   rw [Below.heap_alloc _ _ _ (by simp)]; exact heap_alloc_new w _
  rw [show (⟨w.heap.size, 0, none⟩ : Addr).add j = ⟨w.heap.size, j, none⟩ from by unfold Addr.add; split <;> simp_all, cell_of_row _ _ _ _ _ _ hg]
  simpa using hj
def GivesBytes (xs : List Int) (w : World) (e : Ending) (w' : World) : Prop :=
 ∃ b c, e = .returned (.slice (some ⟨b, 0, none⟩) xs.length c) ∧ w.heap.size ≤ b ∧ xs.length ≤ c ∧ (∀ i, i < xs.length → w'.cell? ⟨b, i, none⟩ = some (.int .u8 (xs.getD i 0))) ∧ Below w.heap.size w w'
set_option maxRecDepth 100000 in
theorem cell_Put (n : Int) (w : World) :
  Calls Tryz.prog 221 #[.int .i64 n] w (GivesBytes (bytes8 (U n)) w) := by
 have u := U_wrap n
 have hmk : ∀ w, (Instr.makeSlice 24 (.int .i64 8) (.int .i64 8)).run Tryz.prog w = .ok (.slice (some ⟨w.heap.size, 0, none⟩) 8 8) (w.alloc (.cells #[.int .u8 0, .int .u8 0, .int .u8 0, .int .u8 0, .int .u8 0, .int .u8 0, .int .u8 0, .int .u8 0] 5)) := fun _ => by kernel_rfl
 have hcp := run_copy8 w ((U n : Int) % 256) ((U n : Int) / 256 % 256) ((U n : Int) / 65536 % 256) ((U n : Int) / 16777216 % 256) ((U n : Int) / 4294967296 % 256) ((U n : Int) / 1099511627776 % 256) ((U n : Int) / 281474976710656 % 256) ((U n : Int) / 72057594037927936 % 256)
 go_enter Tryz.func221, Tryz.ntmps221
 go_wp2_with fail
 go_rounds 9
 go_ret
 refine ⟨w.heap.size + 1, 8, rfl, by omega, by rw [bytes8_len]; exact Nat.le_refl _, fun i hi => ?_, putW_below _ _⟩
 rw [cell_of_row _ _ _ _ _ _ (putW_heap _ _)]
 have h8 : i < 8 := hi
 have : i = 0 ∨ i = 1 ∨ i = 2 ∨ i = 3 ∨ i = 4 ∨ i = 5 ∨ i = 6 ∨ i = 7 := by omega
 rcases this with rfl | rfl | rfl | rfl | rfl | rfl | rfl | rfl <;> rfl
theorem Tryz.infoByte : (Tryz.prog.info? 5).map (fun i => (i.zero, i.size, i.bytes)) = some (some (.int .u8 0), 1, 1) := by kernel_rfl
end Go.Proofs.YtphgdofmjpdhaaaGreat
namespace Go.Proofs.YtphgdofmjpdhaaaGreat
open Go.RowKit
def valB : List Int → Nat
 | [] => 0
 | x :: t => x.toNat + 256 * valB t
theorem valB_append (xs ys : List Int) : valB (xs ++ ys) = valB xs + 256 ^ xs.length * valB ys := by
 induction xs with
 | nil => simp [valB]
 | cons x t ih =>
  simp only [List.cons_append, valB, ih, List.length_cons, Nat.pow_succ, Nat.mul_add, Nat.add_assoc]
  rw [← Nat.mul_assoc 256, Nat.mul_comm 256 (256 ^ _)]
theorem valB_lt (xs : List Int) (h : ∀ x ∈ xs, 0 ≤ x ∧ x < 256) : valB xs < 256 ^ xs.length := by
 induction xs with
 | nil => simp [valB]
 | cons x t ih =>
  have h1 := ih fun y hy => h y (List.mem_cons_of_mem _ hy)
  have h2 := h x List.mem_cons_self
  simp only [valB, List.length_cons, Nat.pow_succ]
  omega
theorem getD_byte {xs : List Int} (h : ∀ x ∈ xs, 0 ≤ x ∧ x < 256) (k : Nat) (hk : k < xs.length) : 0 ≤ xs.getD k 0 ∧ xs.getD k 0 < 256 := by
 have e : xs.getD k 0 = xs[k] := by simp [List.getD, hk]
 rw [e]; exact h _ (List.getElem_mem hk)
theorem take_more (xs : List Int) (k : Nat) (hk : k < xs.length) : xs.take (k + 1) = xs.take k ++ [xs.getD k 0] := by
 rw [List.take_add_one, List.getElem?_eq_getElem hk]; simp [List.getD, hk]
theorem or_byte (acc x k : Nat) (hacc : acc < 256 ^ k) (hx : x < 256) (hk : k < 8) :
  bits .or .u64 (acc : Int) (IntKind.u64.wrap ((x : Int) * 2 ^ (8 * k))) = ((acc + 256 ^ k * x : Nat) : Int) := by
 have e0 : (256 : Nat) ^ k = 2 ^ (8 * k) := by rw [show (256 : Nat) = 2 ^ 8 from rfl, ← Nat.pow_mul]
 have e1 : (x : Int) * 2 ^ (8 * k) = ((x * 2 ^ (8 * k) : Nat) : Int) := by simp
 have hp : 2 ^ (8 * k) ≤ 2 ^ 56 := Nat.pow_le_pow_right (by omega) (by omega)
 have hq : x * 2 ^ (8 * k) ≤ 255 * 2 ^ 56 := Nat.mul_le_mul (by omega) hp
 have h56 : (2 : Nat) ^ 56 = 72057594037927936 := by decide
 rw [e0] at hacc
 rw [e1, IntWalk.u64_in _ (by omega), u64_or_nat _ _ (by omega) (by omega), e0]
 congr 1
 have := Nat.shiftLeft_add_eq_or_of_lt hacc x
 rw [Nat.shiftLeft_eq] at this
 rw [Nat.or_comm, ← this, Nat.mul_comm, Nat.add_comm]
set_option maxRecDepth 100000 in
theorem cell_Get (b o c : Nat) (xs : List Int) (w : World) (hl : xs.length = 8) (hb : ∀ x ∈ xs, 0 ≤ x ∧ x < 256) (hc : ∀ i, i < 8 → w.cell? ⟨b, o + i, none⟩ = some (.int .u8 (xs.getD i 0))) :
  Calls Tryz.prog 218 #[.slice (some ⟨b, o, none⟩) 8 c] w fun e w' => e = .returned (.tuple #[.int .i64 (wrap64 (valB xs)), .int .i64 0]) ∧ w = w' := by
 have HC := Lib.hid hc
 have HL := Lib.hid hl
 have HB := Lib.hid hb
 clear hc hl hb
 go_enter Tryz.func218, Tryz.ntmps218
 go_wp2_with fail
 go_loop [4, 12] (fun a i => ∃ k m : Nat, k ≤ 8 ∧ i = .int .i64 k ∧ a = .int .u64 m ∧ Hid (m = valB (xs.take k))) (fun _ i => 8 - (intOf i).toNat)
 case atStart => exact ⟨0, 0, by omega, rfl, rfl, rfl⟩
 case round =>
  obtain ⟨k, m, hk, rfl, rfl, hm⟩ := hrel
  by_cases hlt : k < 8
  ·obtain ⟨x, hx, hx2, hcell⟩ : ∃ x : Nat, (xs.getD k 0 = (x : Int)) ∧ x < 256 ∧ w.cell? ⟨b, o + k, none⟩ = some (.int .u8 (x : Int)) := by
    have h1 := getD_byte HB.out k (by have := HL.out; omega)
    refine ⟨(xs.getD k 0).toNat, by omega, by omega, ?_⟩
    rw [HC.out k hlt]
    congr 2
    omega
   have hmlt : m < 256 ^ k := by
    have := valB_lt (xs.take k) fun y hy => HB.out y (List.mem_of_mem_take hy)
    rw [← hm.out, List.length_take] at this
    rwa [Nat.min_eq_left (by have := HL.out; omega)] at this
   have hor := or_byte m x k hmlt hx2 hlt
   have hm' : Hid (m + 256 ^ k * x = valB (xs.take (k + 1))) := by
    show _ = _
    rw [take_more _ _ (by have := HL.out; omega), valB_append, ← hm.out, hx, List.length_take, Nat.min_eq_left (by have := HL.out; omega)]
    simp [valB]
   generalize m + 256 ^ k * x = m' at *
   clear hm hmlt hx
   go_wp2
   go_round
   case rel => exact ⟨k + 1, m', by omega, by go_num, rfl, hm'⟩
   case measure => simp [intOf]; omega
  ·have e : m = valB xs := by rw [hm.out, List.take_of_length_le (by have := HL.out; omega)]
   clear hm
   go_wp2
   go_ret2
   exact ⟨rfl, rfl⟩
end Go.Proofs.YtphgdofmjpdhaaaGreat
namespace Go.Proofs.YtphgdofmjpdhaaaGreat
open Go.RowKit
set_option linter.unusedVariables false
set_option maxRecDepth 100000
def Fit64 (n : Int) : Prop := -9223372036854775808 ≤ n ∧ n ≤ 9223372036854775807
def memThere (m : VMem) (at_ n : Int) : Bool := decide (n = 0 ∨ (0 < n ∧ 0 ≤ at_ ∧ at_ + n ≤ m.b.length))
def memCellAt (m : VMem) (at_ : Int) : Int := if memThere m at_ 8 then (if at_.tmod 8 = 0 then 0 else -23) else -9
def getC (l : List UInt8) : Int := wrap64 (valB (l.map fun b => (b.toNat : Int)))
def memFetch (m : VMem) (at_ : Int) : Int × Int := if memCellAt m at_ = 0 then (getC ((m.b.drop at_.toNat).take 8), 0) else (0, memCellAt m at_)
theorem mem_there (m : VMem) (at_ n : Int) (hm : m.b.length ≤ 9223372036854775807) (ha : Fit64 at_) (hn : Fit64 n) : PureC Tryz.prog 219 [eMem m, i64 at_, i64 n] (boo (memThere m at_ n)) := by
 unfold Fit64 at ha hn
 refine pW tG (rs := [.tmp 6]) Tryz.func219 rfl rfl rfl (by simp) (by simp) (fun B => ?_)
 refine Ws ?_
 refine W_region rfl ?_
 iterate 2 refine We tG rfl rfl rfl trivial ?_
 refine Wn ?_
 refine Ws ?_
 refine W_region rfl ?_
 iterate 3 refine We tG rfl rfl rfl trivial ?_
 refine Wb 9 rfl (fun hg1 => ?_) (fun hg1 => ?_)
 ·refine Wk rfl rfl ?_
  iterate 21 refine Wk rfl rfl ?_
  iterate 2 refine We tG rfl rfl rfl trivial ?_
  refine Wn ?_
  refine Wq ?_
  refine lP rfl ?_
  exact congrArg boo (by first | (simp only [memThere, i64w]; rw [Bool.eq_iff_iff]; simp only [dnL] at *; (try simp only [i64w, wrap64] at *); omega) | simp_all [memThere, i64w])
 ·refine We tG rfl rfl rfl trivial ?_
  iterate 2 refine We tG rfl rfl rfl trivial ?_
  refine Wb 12 rfl (fun hg2 => ?_) (fun hg2 => ?_)
  ·refine We tG rfl rfl rfl trivial ?_
   iterate 3 refine We tG rfl rfl rfl trivial ?_
   refine Wb 16 rfl (fun hg3 => ?_) (fun hg3 => ?_)
   ·refine We tG rfl rfl rfl trivial ?_
    iterate 6 refine We tG rfl rfl rfl trivial ?_
    refine Wb 23 rfl (fun hg4 => ?_) (fun hg4 => ?_)
    ·refine We tG rfl rfl rfl trivial ?_
     iterate 9 refine We tG rfl rfl rfl trivial ?_
     refine Wn ?_
     refine Wq ?_
     refine lP rfl ?_
     exact congrArg boo (by first | (simp only [memThere, i64w]; rw [Bool.eq_iff_iff]; simp only [dnL] at *; (try simp only [i64w, wrap64] at *); omega) | simp_all [memThere, i64w])
    ·refine Wk rfl rfl ?_
     iterate 6 refine Wk rfl rfl ?_
     iterate 3 refine We tG rfl rfl rfl trivial ?_
     refine Wn ?_
     refine Wq ?_
     refine lP rfl ?_
     exact congrArg boo (by first | (simp only [memThere, i64w]; rw [Bool.eq_iff_iff]; simp only [dnL] at *; (try simp only [i64w, wrap64] at *); omega) | simp_all [memThere, i64w])
   ·refine Wk rfl rfl ?_
    iterate 4 refine Wk rfl rfl ?_
    iterate 2 refine We tG rfl rfl rfl trivial ?_
    iterate 7 refine Wk rfl rfl ?_
    iterate 3 refine We tG rfl rfl rfl trivial ?_
    refine Wn ?_
    refine Wq ?_
    refine lP rfl ?_
    exact congrArg boo (by first | (simp only [memThere, i64w]; rw [Bool.eq_iff_iff]; simp only [dnL] at *; (try simp only [i64w, wrap64] at *); omega) | simp_all [memThere, i64w])
  ·refine Wk rfl rfl ?_
   refine Wk rfl rfl ?_
   iterate 2 refine We tG rfl rfl rfl trivial ?_
   iterate 5 refine Wk rfl rfl ?_
   iterate 2 refine We tG rfl rfl rfl trivial ?_
   iterate 7 refine Wk rfl rfl ?_
   iterate 3 refine We tG rfl rfl rfl trivial ?_
   refine Wn ?_
   refine Wq ?_
   refine lP rfl ?_
   exact congrArg boo (by first | (simp only [memThere, i64w]; rw [Bool.eq_iff_iff]; simp only [dnL] at *; (try simp only [i64w, wrap64] at *); omega) | simp_all [memThere, i64w])
theorem fit8 : Fit64 8 := by unfold Fit64; omega
theorem mem_cellAt (m : VMem) (at_ : Int) (hm : m.b.length ≤ 9223372036854775807) (ha : Fit64 at_) : PureC Tryz.prog 217 [eMem m, i64 at_] (i64 (memCellAt m at_)) := by
 refine pW tG (rs := [.tmp 4]) Tryz.func217 rfl rfl rfl (by simp) (by simp) (fun B => ?_)
 refine Ws ?_
 refine W_region rfl ?_
 iterate 2 refine We tG rfl rfl rfl trivial ?_
 refine Wn ?_
 refine Ws ?_
 refine Wl ?_
 refine Ws ?_
 refine W_region rfl ?_
 iterate 2 refine We tG rfl rfl rfl trivial ?_
 refine Wc rfl rfl (dC rfl Tryz.func219 rfl rfl ((mem_there m at_ 8 hm ha fit8) _)) ?_
 iterate 2 refine We tG rfl rfl rfl trivial ?_
 refine Wn ?_
 refine Wi rfl (fun hi1 => ?_) (fun hi1 => ?_)
 ·refine Ws ?_
  refine W_region rfl ?_
  refine We tG rfl rfl rfl trivial ?_
  refine Wn ?_
  refine Wq ?_
  refine lP rfl ?_
  simp_all [memCellAt, tup2, tup3, tup4, i64, boo, str]
 ·refine Ws ?_
  refine W_region rfl ?_
  iterate 4 refine We tG rfl rfl rfl trivial ?_
  refine Wn ?_
  refine Wi rfl (fun hi2 => ?_) (fun hi2 => ?_)
  ·refine Ws ?_
   refine W_region rfl ?_
   refine We tG rfl rfl rfl trivial ?_
   refine Wn ?_
   refine Wq ?_
   refine lP rfl ?_
   simp_all [memCellAt, tup2, tup3, tup4, i64, boo, str]
  ·refine Wj ?_
   refine Ws ?_
   refine W_region rfl ?_
   refine We tG rfl rfl rfl trivial ?_
   refine Wn ?_
   refine Wq ?_
   refine lP rfl ?_
   simp_all [memCellAt, tup2, tup3, tup4, i64, boo, str]
theorem mem_cell8 (m : VMem) (at_ : Int) (h : memCellAt m at_ = 0) (ha : Fit64 at_) (hm : m.b.length ≤ 140737488355328) : 0 ≤ at_ ∧ at_ + 8 ≤ m.b.length ∧ wrap64 (at_ + 8) = at_ + 8 := by
 unfold memCellAt memThere at h
 simp only [decide_eq_true_eq] at h
 split at h
 ·rename_i h0
  refine ⟨by omega, by omega, ?_⟩
  unfold wrap64 Fit64 at *; omega
 ·omega
theorem bytes_lies {c : Cx} {l : List UInt8} {b : Addr} {vs : List Value} (hrl : RepL c (l.flatMap cByte) vs) : vs = l.map (fun x => Value.int .u8 (x.toNat : Int)) := by
 rw [cByte_map] at hrl
 rw [repL_bytes hrl, List.map_map]
 rfl
theorem cell_of_get {f : FuncId} (l : List UInt8) (hl : l.length = 8) (H0 : ∀ (b o c : Nat) (xs : List Int) (w : World) (hl : xs.length = 8) (hb : ∀ x ∈ xs, 0 ≤ x ∧ x < 256) (hc : ∀ i, i < 8 → w.cell? ⟨b, o + i, none⟩ = some (.int .u8 (xs.getD i 0))), Calls Tryz.prog f #[.slice (some ⟨b, o, none⟩) 8 c] w fun e w' => e = .returned (.tuple #[.int .i64 (wrap64 (valB xs)), .int .i64 0]) ∧ w = w') :
  PureC Tryz.prog f [sq cByte l] (tup2 (i64 (getC l)) (i64 0)) := by
 intro H B σ w vs s hv
 match vs, hv with
 | [], hv => unfold RepL at hv; obtain ⟨u, us, h1, _⟩ := hv; cases h1
 | v :: vs, hv =>
  rw [repL_cons, repL_nil] at hv
  obtain ⟨hv, rfl⟩ := hv
  unfold sq at hv
  obtain ⟨ad, cap, ws, rfl, hle, hnil, hrl, hlies, _⟩ := rep_seq hv
  have hws := bytes_lies (b := default) hrl
  have hwl : ws.length = 8 := by rw [hws]; simpa using hl
  match ad, hnil, hlies with
  | none, hnil, _ => have := (hnil rfl).1; omega
  | some b, _, hlies =>
   have hl2 := (hlies b rfl).resolve_right (by rintro ⟨_, h3⟩; rw [h3] at hwl; simp at hwl)
   have hbe := lies_addr hl2
   rw [hbe, hl]
   refine Calls.mono (H0 b.block b.off cap (l.map fun x => (x.toNat : Int)) w (by simpa using hl) (fun x hx => ?_) (fun i hi => (hl2.2 i _ (by rw [hws, List.getElem?_map, List.getElem?_eq_getElem (by omega)]; simp [List.getD, show i < l.length by omega])).1)) ?_
   ·obtain ⟨y, _, rfl⟩ := List.mem_map.1 hx
    have := y.toNat_lt; omega
   rintro e w' ⟨rfl, rfl⟩
   refine ⟨_, σ, rfl, ?_, s, Step.refl _ _ _ _⟩
   unfold tup2 Rep
   exact ⟨[_, _], rfl, repL_cons.2 ⟨rep_val _ _, repL_cons.2 ⟨rep_val _ _, repL_nil.2 rfl⟩⟩⟩
theorem cell_get8 (l : List UInt8) (hl : l.length = 8) : PureC Tryz.prog 218 [sq cByte l] (tup2 (i64 (getC l)) (i64 0)) := cell_of_get l hl cell_Get
theorem len8 {m : VMem} {at_ : Int} (h0 : 0 ≤ at_) (h1 : at_ + 8 ≤ m.b.length) (h2 : wrap64 (at_ + 8) = at_ + 8) : ((m.b.take (IntKind.i64.wrap (at_ + 8)).toNat).drop at_.toNat).length = 8 := by
 rw [i64w, h2]; simp; omega
theorem sub8 {m : VMem} {at_ : Int} (h0 : 0 ≤ at_) (h1 : at_ + 8 ≤ m.b.length) (h2 : wrap64 (at_ + 8) = at_ + 8) : (m.b.take (IntKind.i64.wrap (at_ + 8)).toNat).drop at_.toNat = (m.b.drop at_.toNat).take 8 := by
 rw [i64w, h2, List.drop_take]; congr 1; omega
def tFetch (r : Int × Int) : PV := tup2 (i64 r.1) (i64 r.2)
@[simp] theorem flat_tFetch (r : Int × Int) : Flat (tFetch r) := by simp [tFetch]
theorem mem_Fetch (m : VMem) (at_ : Int) (hm : m.b.length ≤ 140737488355328) (ha : Fit64 at_) : PureC Tryz.prog 105 [eMem m, i64 at_] (tFetch (memFetch m at_)) := by
 have hF : memCellAt m at_ = 0 → 0 ≤ at_ ∧ at_ + 8 ≤ m.b.length ∧ wrap64 (at_ + 8) = at_ + 8 := fun h => mem_cell8 m at_ h ha hm
 refine pW tG (rs := [.tmp 4, .tmp 5]) Tryz.func105 rfl rfl rfl (by simp) (by simp) (fun B => ?_)
 refine Ws ?_
 refine W_region rfl ?_
 iterate 3 refine We tG rfl rfl rfl trivial ?_
 refine Wn ?_
 iterate 2 refine Ws ?_
 refine W_region rfl ?_
 iterate 2 refine We tG rfl rfl rfl trivial ?_
 refine Wc rfl rfl (dC rfl Tryz.func217 rfl rfl ((mem_cellAt m at_ (by omega) ha) _)) ?_
 refine We tG rfl rfl rfl trivial ?_
 refine Wn ?_
 refine Ws ?_
 refine W_region rfl ?_
 iterate 2 refine We tG rfl rfl rfl trivial ?_
 refine Wn ?_
 refine Wi rfl (fun hi1 => ?_) (fun hi1 => ?_)
 ·refine Ws ?_
  refine W_region rfl ?_
  iterate 3 refine We tG rfl rfl rfl trivial ?_
  refine Wn ?_
  refine Wq ?_
  refine lP rfl ?_
  first | (rw [sub8 k0 k1 k2]; simp [tFetch, memFetch, tup2, i64, h0]) | simp_all [tFetch, memFetch, tup2, i64]
 ·have h0 : memCellAt m at_ = 0 := by simpa using hi1
  obtain ⟨k0, k1, k2⟩ := hF h0
  refine Wj ?_
  refine Ws ?_
  refine W_region rfl ?_
  iterate 5 refine We tG rfl rfl rfl trivial ?_
  refine We tG rfl rfl rfl (by rw [i64w, k2]; omega) ?_
  refine Wa 18 rfl (sq_slice cByte 1 (fun _ => rfl) (by rw [i64w, k2]; omega)) ?_
  refine Wc rfl rfl (dC rfl Tryz.func218 rfl rfl ((cell_get8 _ (len8 k0 k1 k2)) _)) ?_
  iterate 4 refine We tG rfl rfl rfl trivial ?_
  refine Wn ?_
  refine Wq ?_
  refine lP rfl ?_
  first | (rw [sub8 k0 k1 k2]; simp [tFetch, memFetch, tup2, i64, h0]) | simp_all [tFetch, memFetch, tup2, i64]
end Go.Proofs.YtphgdofmjpdhaaaGreat
namespace Go.Proofs.YtphgdofmjpdhaaaGreat
open Go.RowKit
set_option linter.unusedVariables false
set_option maxRecDepth 100000
set_option maxHeartbeats 4000000
def memRight (m : VMem) : Bool := m.old.all (fun p => memThere m p.place p.old.length) && (decide (m.b.length ≤ 65536) && decide (m.b.length % 8 = 0))
theorem all_snoc {α : Type} {f : α → Bool} {l : List α} {k : Nat} (d : α) (hk : k < l.length) (h : (l.take k).all f = true) (hf : f (l.getD k d) = true) : (l.take (k + 1)).all f = true := by
 rw [take_snoc' l k d hk, List.all_append, h]; simp only [List.all_cons, List.all_nil, hf]; rfl
theorem all_no {α : Type} {f : α → Bool} {l : List α} {k : Nat} (d : α) (hk : k < l.length) (hf : f (l.getD k d) = false) : l.all f = false := by
 rw [List.all_eq_false]
 refine ⟨l.getD k d, ?_, by rw [hf]; simp⟩
 unfold List.getD
 rw [List.getElem?_eq_getElem hk]
 exact List.getElem_mem hk
theorem mem_getD {α : Type} {l : List α} {k : Nat} (d : α) (hk : k < l.length) : l.getD k d ∈ l := by
 unfold List.getD
 rw [List.getElem?_eq_getElem hk]
 exact List.getElem_mem hk
theorem ref_There2 (m : VMem) (at_ n : Int) (hm : m.b.length ≤ 9223372036854775807) (ha : n = 0 ∨ Fit64 at_) (hn : Fit64 n) : PureC Tryz.prog 75 [eMem m, i64 at_, i64 n] (boo (memThere m at_ n)) := by
 unfold Fit64 at ha hn
 refine pW tG (rs := [.tmp 6]) Tryz.func75 rfl rfl rfl (by simp) (by simp) (fun B => ?_)
 refine Ws ?_
 refine W_region rfl ?_
 iterate 2 refine We tG rfl rfl rfl trivial ?_
 refine Wn ?_
 iterate 2 refine Ws ?_
 refine W_region rfl ?_
 iterate 2 refine We tG rfl rfl rfl trivial ?_
 refine Wn ?_
 refine Wi rfl (fun hi1 => ?_) (fun hi1 => ?_)
 ·refine Ws ?_
  refine W_region rfl ?_
  refine We tG rfl rfl rfl trivial ?_
  refine Wn ?_
  refine Wq ?_
  refine lP rfl ?_
  exact congrArg boo (by first | (simp only [memThere, i64w]; rw [Bool.eq_iff_iff]; simp only [dnL] at *; (try simp only [i64w, wrap64] at *); omega) | simp_all [memThere, i64w])
 ·refine Wj ?_
  refine Ws ?_
  refine W_region rfl ?_
  iterate 3 refine We tG rfl rfl rfl trivial ?_
  refine Wb 11 rfl (fun hg1 => ?_) (fun hg1 => ?_)
  ·refine We tG rfl rfl rfl trivial ?_
   iterate 3 refine We tG rfl rfl rfl trivial ?_
   refine Wb 15 rfl (fun hg2 => ?_) (fun hg2 => ?_)
   ·refine We tG rfl rfl rfl trivial ?_
    iterate 6 refine We tG rfl rfl rfl trivial ?_
    refine Wb 22 rfl (fun hg3 => ?_) (fun hg3 => ?_)
    ·refine We tG rfl rfl rfl trivial ?_
     iterate 8 refine We tG rfl rfl rfl trivial ?_
     refine Wn ?_
     refine Wq ?_
     refine lP rfl ?_
     exact congrArg boo (by first | (simp only [memThere, i64w]; rw [Bool.eq_iff_iff]; simp only [dnL] at *; (try simp only [i64w, wrap64] at *); omega) | simp_all [memThere, i64w])
    ·refine Wk rfl rfl ?_
     iterate 6 refine Wk rfl rfl ?_
     iterate 2 refine We tG rfl rfl rfl trivial ?_
     refine Wn ?_
     refine Wq ?_
     refine lP rfl ?_
     exact congrArg boo (by first | (simp only [memThere, i64w]; rw [Bool.eq_iff_iff]; simp only [dnL] at *; (try simp only [i64w, wrap64] at *); omega) | simp_all [memThere, i64w])
   ·refine Wk rfl rfl ?_
    iterate 4 refine Wk rfl rfl ?_
    iterate 2 refine We tG rfl rfl rfl trivial ?_
    iterate 7 refine Wk rfl rfl ?_
    iterate 2 refine We tG rfl rfl rfl trivial ?_
    refine Wn ?_
    refine Wq ?_
    refine lP rfl ?_
    exact congrArg boo (by first | (simp only [memThere, i64w]; rw [Bool.eq_iff_iff]; simp only [dnL] at *; (try simp only [i64w, wrap64] at *); omega) | simp_all [memThere, i64w])
  ·refine Wk rfl rfl ?_
   refine Wk rfl rfl ?_
   iterate 2 refine We tG rfl rfl rfl trivial ?_
   iterate 5 refine Wk rfl rfl ?_
   iterate 2 refine We tG rfl rfl rfl trivial ?_
   iterate 7 refine Wk rfl rfl ?_
   iterate 2 refine We tG rfl rfl rfl trivial ?_
   refine Wn ?_
   refine Wq ?_
   refine lP rfl ?_
   exact congrArg boo (by first | (simp only [memThere, i64w]; rw [Bool.eq_iff_iff]; simp only [dnL] at *; (try simp only [i64w, wrap64] at *); omega) | simp_all [memThere, i64w])
theorem ref_Right3 (m : VMem) (hb : m.b.length ≤ 9223372036854775807) (ho : m.old.length ≤ 9223372036854775807) (hp : ∀ p ∈ m.old, (p.old.length = 0 ∨ Fit64 p.place) ∧ p.old.length ≤ 9223372036854775807) : PureC Tryz.prog 41 [eMem m] (boo (memRight m)) := by
 refine pW tG (rs := [.tmp 2]) Tryz.func41 rfl rfl rfl (by simp) (by simp) (fun B => ?_)
 refine Ws ?_
 refine W_region rfl ?_
 iterate 2 refine We tG rfl rfl rfl trivial ?_
 refine Wn ?_
 iterate 2 refine Ws ?_
 refine W_region rfl ?_
 refine We tG rfl rfl rfl trivial ?_
 refine Wn ?_
 refine Wl ?_
 show W _ _ _ _ _ _ _
 refine W_loopS (fun (k : Nat) => [(1, .ptr 0 0), (3, i64 k)]) (fun (k : Nat) => [.cells (cMem m) 27]) (fun (k : Nat) => []) (fun (k : Nat) => k ≤ m.old.length ∧ (m.old.take k).all (fun p => memThere m p.place p.old.length) = true) (fun (k : Nat) => m.old.length - k) (0) (by first | exact trivial | omega | simp) [] ?_ ?_
 ·exact ⟨rfl, ⟨(by repeat (first | exact reBase_nil | refine rB (.inl rfl) ?_ | refine rB (.inr rfl) ?_)), (by repeat (first | exact reX_nil | refine rX rfl ?_ | refine rX (by refine congrArg (fun q => some (Ob.free q)) ?_; simp <;> omega) ?_)), (by decide), (by repeat (first | exact moved_nil | refine mC (.inl (Nat.le_of_ble_eq_true rfl)) ?_ | refine mC (.inr rfl) ?_)), (by repeat (first | exact nlo_nil | exact nO nlo_nil | refine nlo_cells (by first | (refine nF ?_; simp; done) | (refine nF (flatL_map' ?_ _); intro x; simp; done) | (simp [NL1L, NL1]; done)) ?_ | refine nO ?_ | refine nlo_dead ?_ | refine nlo_iter ?_ | refine nlo_smap (by first | (refine nF ?_; simp; done) | (refine nF (flatL_map' ?_ _); intro x; simp; done) | (simp [NL1L, NL1]; done)) ?_))⟩, (by repeat (first | exact subL_nil | refine subL_cons (by first | exact imp_of rfl | exact imp_seq _ _ _ | exact imp_of (congrArg i64 (by first | (rw [i64w]; unfold wrap64; omega) | omega | (simp; done)))) ?_)), (by repeat (first | exact nls_nil | refine nls_cons (by first | (refine nl_flat ?_; simp; done) | (show _ < _; first | decide | (simp; done)) | (refine ⟨?_, flatL_map' ?_ _⟩ <;> first | decide | (intro x; simp; done) | (simp; done)) | (refine ⟨?_, ?_⟩ <;> first | decide | (simp; done)) | (simp [NL, NL1L, NL1]; done)) ?_))⟩
 ·intro k hk
  iterate 2 refine Ws ?_
  refine W_region rfl ?_
  iterate 5 refine We tG rfl rfl rfl trivial ?_
  refine Wn ?_
  refine Wi rfl (fun hi1 => ?_) (fun hi1 => ?_)
  ·have hlt : k < m.old.length := by have := of_decide_eq_true hi1; omega
   have hq := hp _ (mem_getD default hlt)
   refine Wj ?_
   refine Ws ?_
   refine Wl ?_
   refine Ws ?_
   refine W_drawU [1, 0, 1, 0, 0, 0, 1, 0, 1, 0, 0, 0, 1, 0, 0, 0] [0, 1, 2, 3, 4, 5, 6, 7, 8, 9, 10, 11, 12, 13, 14, 15] mG rfl (by kernel_rfl) ?_
   refine Xf tG rfl rfl rfl rfl (fun _ => rfl) trivial ?_
   refine Xe tG rfl rfl rfl rfl (fun _ => rfl) trivial ?_
   refine Xf tG rfl rfl rfl rfl (fun _ => rfl) trivial ?_
   refine Xe tG rfl rfl rfl rfl (fun _ => rfl) trivial ?_
   first | refine Xi tG rfl rfl rfl rfl (fun _ => rfl) (by first | exact trivial | omega | (simp only [dnL] at *; omega) | (simp_all; done) | (simp_all; omega)) (iN cPatch 2 (fun _ => rfl) default (by first | exact trivial | omega | (simp only [dnL] at *; omega) | (simp_all; done) | (simp_all; omega))) ?_ | refine Xi tG rfl rfl rfl rfl (fun _ => rfl) (by first | exact trivial | omega | (simp only [dnL] at *; omega) | (simp_all; done) | (simp_all; omega)) (iR cPatch 2 (fun _ => rfl) default (by first | exact trivial | omega | (simp only [dnL] at *; omega) | (simp_all; done) | (simp_all; omega))) ?_
   refine Xe tG rfl rfl rfl rfl (fun _ => rfl) trivial ?_
   refine Xf tG rfl rfl rfl rfl (fun _ => rfl) trivial ?_
   refine Xe tG rfl rfl rfl rfl (fun _ => rfl) trivial ?_
   refine Xf tG rfl rfl rfl rfl (fun _ => rfl) trivial ?_
   refine Xe tG rfl rfl rfl rfl (fun _ => rfl) trivial ?_
   first | refine Xi tG rfl rfl rfl rfl (fun _ => rfl) (by first | exact trivial | omega | (simp only [dnL] at *; omega) | (simp_all; done) | (simp_all; omega)) (iN cPatch 2 (fun _ => rfl) default (by first | exact trivial | omega | (simp only [dnL] at *; omega) | (simp_all; done) | (simp_all; omega))) ?_ | refine Xi tG rfl rfl rfl rfl (fun _ => rfl) (by first | exact trivial | omega | (simp only [dnL] at *; omega) | (simp_all; done) | (simp_all; omega)) (iR cPatch 2 (fun _ => rfl) default (by first | exact trivial | omega | (simp only [dnL] at *; omega) | (simp_all; done) | (simp_all; omega))) ?_
   refine Xe tG rfl rfl rfl rfl (fun _ => rfl) trivial ?_
   refine Xf tG rfl rfl rfl rfl (fun _ => rfl) trivial ?_
   refine Xe tG rfl rfl rfl rfl (fun _ => rfl) trivial ?_
   refine Xc rfl rfl rfl rfl (fun _ => dC rfl Tryz.func75 rfl rfl ((ref_There2 m (m.old.getD k default).place (m.old.getD k default).old.length (by omega) (by rcases hq.1 with h | h; exact .inl (by omega); exact .inr h) (by unfold Fit64; omega)) _)) ?_
   refine Xe tG rfl rfl rfl rfl (fun _ => rfl) trivial ?_
   refine WU_nil ?_
   refine Ws ?_
   refine W_region rfl ?_
   iterate 2 refine We tG rfl rfl rfl trivial ?_
   refine Wn ?_
   refine Wi rfl (fun hi2 => ?_) (fun hi2 => ?_)
   ·have hno : m.old.all (fun p => memThere m p.place p.old.length) = false := all_no default hlt (by simpa using hi2)
    refine Ws ?_
    refine W_region rfl ?_
    refine We tG rfl rfl rfl trivial ?_
    refine Wn ?_
    refine Wq ?_
    refine lP rfl ?_
    refine congrArg boo ?_; unfold memRight; rw [hno]; rfl
   ·have hyes : memThere m (m.old.getD k default).place (m.old.getD k default).old.length = true := by simpa using hi2
    refine Wj ?_
    refine W_region rfl ?_
    iterate 3 refine We tG rfl rfl rfl trivial ?_
    refine Wn ?_
    exact ⟨k + 1, [], (by exact ⟨by omega, all_snoc default hlt hk.2 hyes⟩), (by omega), ⟨rfl, ⟨(by repeat (first | exact reBase_nil | refine rB (.inl rfl) ?_ | refine rB (.inr rfl) ?_)), (by repeat (first | exact reX_nil | refine rX rfl ?_ | refine rX (by refine congrArg (fun q => some (Ob.free q)) ?_; simp <;> omega) ?_)), (by decide), (by repeat (first | exact moved_nil | refine mC (.inl (Nat.le_of_ble_eq_true rfl)) ?_ | refine mC (.inr rfl) ?_)), (by repeat (first | exact nlo_nil | exact nO nlo_nil | refine nlo_cells (by first | (refine nF ?_; simp; done) | (refine nF (flatL_map' ?_ _); intro x; simp; done) | (simp [NL1L, NL1]; done)) ?_ | refine nO ?_ | refine nlo_dead ?_ | refine nlo_iter ?_ | refine nlo_smap (by first | (refine nF ?_; simp; done) | (refine nF (flatL_map' ?_ _); intro x; simp; done) | (simp [NL1L, NL1]; done)) ?_))⟩, (by repeat (first | exact subL_nil | refine subL_cons (by first | exact imp_of rfl | exact imp_seq _ _ _ | exact imp_of (congrArg i64 (by first | (rw [i64w]; unfold wrap64; omega) | omega | (simp; done)))) ?_)), (by repeat (first | exact nls_nil | refine nls_cons (by first | (refine nl_flat ?_; simp; done) | (show _ < _; first | decide | (simp; done)) | (refine ⟨?_, flatL_map' ?_ _⟩ <;> first | decide | (intro x; simp; done) | (simp; done)) | (refine ⟨?_, ?_⟩ <;> first | decide | (simp; done)) | (simp [NL, NL1L, NL1]; done)) ?_))⟩⟩
  ·have hge : m.old.length ≤ k := by have := of_decide_eq_false hi1; omega
   have hall : m.old.all (fun p => memThere m p.place p.old.length) = true := by have h1 := hk.2; rw [take_all' _ k hge] at h1; exact h1
   have ht : (m.b.length : Int).tmod 8 = ((m.b.length % 8 : Nat) : Int) := by rw [Int.tmod_eq_emod_of_nonneg (by omega)]; omega
   refine W_exit ?_
   refine Ws ?_
   refine W_region rfl ?_
   iterate 5 refine We tG rfl rfl rfl trivial ?_
   refine Wb 33 rfl (fun hg1 => ?_) (fun hg1 => ?_)
   ·refine We tG rfl rfl rfl trivial ?_
    iterate 6 refine We tG rfl rfl rfl trivial ?_
    refine Wn ?_
    refine Wq ?_
    refine lP rfl ?_
    refine congrArg boo ?_; unfold memRight; rw [hall, Bool.true_and]; rw [Bool.eq_iff_iff]; (try simp only [dnL] at *); omega
   ·refine Wk rfl rfl ?_
    iterate 4 refine Wk rfl rfl ?_
    iterate 2 refine We tG rfl rfl rfl trivial ?_
    refine Wn ?_
    refine Wq ?_
    refine lP rfl ?_
    refine congrArg boo ?_; unfold memRight; rw [hall, Bool.true_and]; rw [Bool.eq_iff_iff]; (try simp only [dnL] at *); omega
end Go.Proofs.YtphgdofmjpdhaaaGreat
namespace Go.Proofs.YtphgdofmjpdhaaaGreat
open Go.RowKit
set_option linter.unusedVariables false
section
variable {P : Program}
def NewC (P : Program) (f : FuncId) (args : List PV) (n : Nat) (xs : List PV) (k : Nat) : Prop := ∀ H, HC P f args H (.seq n xs (.own H.length k)) (H ++ [.free (n * k)])
theorem new_of_hc {f : FuncId} {args : List PV} {n k : Nat} {xs : List PV} (ha : FlatL args) (hxs : FlatL xs)
  (h : ∀ B σ w vs, Sim B [] σ w → RepL (cx B [] σ w) args vs → Calls P f vs.toArray w fun e w' => ∃ v H' σ' t m, e = .returned v ∧ Rep (cx B H' σ' w') (.seq n xs (.own t k)) v ∧ H'[t]? = some (.free m) ∧ m ≤ n * k ∧ Step B [] σ w H' σ' w') : NewC P f args n xs k := by
 intro H B σ w vs s hr
 have s0 := sim_nil s
 have hr0 : RepL (cx (BoW B σ H) [] σ w) args vs := repL_flat (c := cx B H σ w) (c' := cx (BoW B σ H) [] σ w) rfl (fun b off h => by
  rcases h with h | ⟨i, oi, h1, _⟩
  ·exact h
  ·simp at h1) ha hr
 refine Calls.mono (h (BoW B σ H) σ w vs s0 hr0) ?_
 rintro e w' ⟨v, H', σ', t, m, rfl, h1, ht, hm, h2⟩
 have g : Grows w w' := ⟨h2.os, h2.tape, h2.output, h2.size, fun b hb => h2.block b hb (fun i oi h => by simp at h)⟩
 obtain ⟨ad, cap, ws, hv, hle, hnil, hrl, hlies, hqN, hl, hown⟩ := rep_seq h1
 have key : ∀ nb : Option Nat, (∀ b, nb = some b → w.heap.size ≤ b) → Holds (cx B (H ++ [.free (n * k)]) (ext σ H.length nb) w') H.length (.free (n * k)) → (∀ b, nb = some b → σ' t = some b) → (cap = n ∨ ∃ b cs e, nb = some b ∧ ad = some ⟨b, 0, none⟩ ∧ w'.heap[b]? = some (Obj.cells cs e (0, 0)) ∧ cap * k ≤ cs.size) →
   ∃ v' σ2, Ending.returned v = Ending.returned v' ∧ Rep (cx B (H ++ [.free (n * k)]) σ2 w') (.seq n xs (.own H.length k)) v' ∧ Sim B (H ++ [.free (n * k)]) σ2 w' ∧ Step B H σ w (H ++ [.free (n * k)]) σ2 w' := by
  intro nb hnew hh hnb hk
  obtain ⟨s', st⟩ := grow_name s g (.free (n * k)) nb hnew hh
  have wr : ∀ b off, (cx B (H ++ [.free (n * k)]) (ext σ H.length nb) w').Wr b off → (cx (BoW B σ H) H' σ' w').Wr b off := by
   rintro b off (h | ⟨j, oj, h3, h4, h5⟩)
   ·exact .inl (.inl h)
   ·rcases get_snoc h3 with ⟨h6, h7⟩ | ⟨rfl, rfl⟩
    ·rw [ext_old h6] at h4; exact .inl (.inr ⟨j, oj, h7, h4, h5⟩)
    ·rw [ext_new] at h4; exact .inr ⟨t, _, ht, hnb _ h4, Nat.le_trans hm h5⟩
  refine ⟨v, _, rfl, ?_, s', st⟩
  unfold Rep
  refine ⟨ad, cap, ws, hv, hle, hnil, repL_flat (c := cx (BoW B σ H) H' σ' w') (c' := cx B (H ++ [.free (n * k)]) (ext σ H.length nb) w') rfl wr hxs hrl, fun b hb => (hlies b hb).imp (fun hL => ⟨hL.1, fun j u hj => ⟨(hL.2 j u hj).1, fun hw => (hL.2 j u hj).2 (wr _ _ hw)⟩⟩) id, by simp [cx], hl, ?_⟩
  rcases hk with hk | ⟨b, cs, e, h3, h4, h5, h6⟩
  ·exact .inl hk
  ·exact .inr ⟨b, cs, e, by simp only [cx]; rw [ext_new]; exact h3, h4, h5, h6⟩
 rcases hown with hcap | ⟨b, cs, e, h3, h4, h5, h6⟩
 ·exact key none (fun b hb => by cases hb) (fun b hb => by simp only [cx] at hb; rw [ext_new] at hb; cases hb) (fun b hb => by cases hb) (.inl hcap)
 ·refine key (some b) (fun b' hb => ?_) (fun b' hb => ?_) (fun b' hb => by cases hb; exact h3) (.inr ⟨b, cs, e, rfl, h4, h5, h6⟩)
  ·cases hb
   rcases h2.new t _ b ht rfl h3 with h7 | ⟨j, oj, h7, _⟩
   ·exact h7
   ·simp at h7
  ·simp only [cx] at hb; rw [ext_new] at hb; cases hb
   exact ⟨cs, e, h5, Nat.le_trans (Nat.mul_le_mul_right _ hle) h6⟩
def RetN (G : List (Nat × TD)) (rs : List ResultVar) (n : Nat) (xs : List PV) (k : Nat) : Exit → (Nat → PV) → List Ob → Prop
 | .normal, T, H => ∃ t m, resX G T H rs = some (.seq n xs (.own t k)) ∧ H[t]? = some (.free m) ∧ m ≤ n * k
 | .ret, T, H => ∃ t m, resX G T H rs = some (.seq n xs (.own t k)) ∧ H[t]? = some (.free m) ∧ m ≤ n * k
 | _, _, _ => False
theorem new_of_WR {G : List (Nat × TD)} (hG : tysOk P G = true) {f : FuncId} {fn : Func} {c : Code} {args : List PV} {n k : Nat} {xs : List PV} {rs : List ResultVar} (hf : P.funcs[f]? = some fn) (hb : fn.body = some c) (hr : fn.results = rs.toArray) (hn0 : Nat.ble args.length fn.ntmps = true) (ha : FlatL args) (hres : FlatL xs)
  (h : ∀ B, W P B fn.ntmps c (argT args) [] (RetN G rs n xs k)) : NewC P f args n xs k := by
 have hn := Nat.le_of_ble_eq_true hn0
 refine new_of_hc ha hres fun B σ w vs s hv => ?_
 have hl := RepL.length hv
 refine calls_of_wp hf hb (wp_mono (h B σ w { tmps := vs.toArray ++ Array.replicate (fn.ntmps - vs.toArray.size) undef, defers := [] } ⟨s, repT_args hv _, by simp; omega, rfl⟩) ?_)
 rintro e a' w' ⟨T', H1, σ', h1, h2, h3⟩
 have fin : ∀ (h4 : ∃ t m, resX G T' H1 rs = some (.seq n xs (.own t k)) ∧ H1[t]? = some (.free m) ∧ m ≤ n * k), a'.defers = [] ∧ ∃ v, (results fn a'.tmps).run P w' = .ok v w' ∧ ∃ v' H' σ' t m, Ending.returned v = Ending.returned v' ∧ Rep (cx B H' σ' w') (.seq n xs (.own t k)) v' ∧ H'[t]? = some (.free m) ∧ m ≤ n * k ∧ Step B [] σ w H' σ' w' := by
  rintro ⟨t, m, hx, h4, h7⟩
  obtain ⟨v, h5, h6⟩ := run_resX hG hr h2 hx
  exact ⟨h2.defers, v, h5, v, H1, σ', t, m, rfl, h6, h4, h7, h3⟩
 cases e <;> first | exact fin h1 | exact False.elim h1
theorem leafN {G : List (Nat × TD)} {rs : List ResultVar} {T : Nat → PV} {H : List Ob} {n n' k t m : Nat} {xs xs' : List PV} (h : resX G T H rs = some (.seq n' xs' (.own t k))) (h1 : n' = n) (h2 : xs' = xs) (h3 : H[t]? = some (.free m)) (h4 : m ≤ n * k) : RetN G rs n xs k .ret T H := by
 subst h1 h2; exact ⟨t, m, h, h3, h4⟩
theorem NewC.pure {f : FuncId} {args : List PV} {n k : Nat} {xs : List PV} (h : NewC P f args n xs k) (ha : FlatL args) (hxs : FlatL xs) : PureC P f args (.seq n xs .any) := by
 refine pure_of_hc ha (by unfold Flat; exact ⟨hxs, .inl rfl⟩) fun B σ w vs s hr => ?_
 refine Calls.mono (h [] B σ w vs s hr) ?_
 rintro e w' ⟨v, σ', rfl, h1, h2, h3⟩
 exact ⟨v, _, σ', rfl, imp_seq _ _ _ _ _ h1, h3⟩
theorem WU_call2 {B : Nat → Nat → Prop} {n : Nat} {ops : Array Oper} {cl : Nat → Nat} {o : Oper} {T : Nat → PV} {H E : List Ob} {x : PV} {i : Nat} {l : List Nat} {d : Option Tmp} {K : (Nat → PV) → List Ob → Prop} (h0 : ops[i]? = some o) (hc : cl i = 2) (hd : nfD n o.dst = some d) (hw : wantedA ops T o = some true) (h : DoesC P B o T H x (H ++ E)) (k : WU P B n ops cl l (updD d x T) (H ++ E) K) : WU P B n ops cl (i :: l) T H K :=
 ⟨o, h0, x, H ++ E, .inl ⟨hw, .inr h⟩, by rw [hc]; exact ⟨E, rfl⟩, (nfD_eq hd).1 ▸ k⟩
def kinB (P : Program) (t : TypeId) : Value → Value → Bool
 | .int k _, .int k' _ => match P.underlying t with | some (.int k0) => decide (k = k') && decide (k0 = k0) | _ => false
 | .bool _, .bool _ => match P.underlying t with | some .bool => true | _ => false
 | _, _ => false
def eqV : Value → Value → Bool
 | .int _ a, .int _ b => a == b
 | .bool a, .bool b => a == b
 | _, _ => false
def eqVs : List Value → List Value → Bool
 | [], [] => true
 | u :: us, v :: vs => eqV u v && eqVs us vs
 | _, _ => false
def eqOk (P : Program) : List Field → Nat → List Value → List Value → Bool
 | [], _, [], [] => true
 | f :: fs, k, u :: us, v :: vs => (f.name != "_") && Nat.beq f.offset k && P.plainKey f.type && kinB P f.type u v && eqOk P fs (k + 1) us vs
 | _, _, _, _ => false
theorem eqV_run {t : TypeId} {u v : Value} (h : kinB P t u v = true) (d : Nat) (w : World) : (Op.equalIn (d + 1) t u v).run P w = .ok (eqV u v) w := by
 unfold kinB at h
 split at h
 ·split at h
  ·rename_i hu
   simp only [Bool.and_eq_true, decide_eq_true_eq] at h
   obtain ⟨rfl, _⟩ := h
   exact run_equalIn_int w d t _ _ _ _ hu
  ·cases h
 ·split at h
  ·rename_i hu
   exact run_equalIn_bool' w d t _ _ hu
  ·cases h
 ·cases h
theorem eqFields_run (xs ys : Array Value) (d : Nat) (w : World) : ∀ (fs : List Field) (k : Nat) (us vs : List Value), xs.toList.drop k = us → ys.toList.drop k = vs → eqOk P fs k us vs = true → (Op.eqFields (d + 1) xs ys fs).run P w = .ok (eqVs us vs) w
 | [], k, us, vs, hu, hv, h => by
  match us, vs, h with
  | [], [], _ => rfl
  | u :: us, _, h => simp [eqOk] at h
  | [], v :: vs, h => simp [eqOk] at h
 | f :: fs, k, us, vs, hu, hv, h => by
  match us, vs, h, hu, hv with
  | [], [], h, _, _ => simp [eqOk] at h
  | [], v :: vs, h, _, _ => simp [eqOk] at h
  | u :: us, [], h, _, _ => simp [eqOk] at h
  | u :: us, v :: vs, h, hu, hv =>
   simp only [eqOk, Bool.and_eq_true] at h
   obtain ⟨⟨⟨⟨h1, h2⟩, h3⟩, h4⟩, h5⟩ := h
   rw [Nat.beq_eq] at h2
   have g : ∀ (zs : Array Value) (z : Value) (l : List Value), zs.toList.drop k = z :: l → zs[f.offset]? = some z ∧ zs.toList.drop (k + 1) = l := by
    intro zs z l hz
    refine ⟨?_, ?_⟩
    ·rw [h2, ← Array.getElem?_toList]
     have : (zs.toList.drop k)[0]? = some z := by rw [hz]; rfl
     rw [List.getElem?_drop] at this
     simpa using this
    ·rw [← List.drop_drop, hz]; rfl
   obtain ⟨hu1, hu2⟩ := g xs u us hu
   obtain ⟨hv1, hv2⟩ := g ys v vs hv
   have ih := eqFields_run xs ys d w fs (k + 1) us vs hu2 hv2 h5
   unfold Op.eqFields
   rw [if_pos (by simpa using h1)]
   simp only [Sem.run_bind, run_part_plain w h3 hu1, run_part_plain w h3 hv1, Result.andThen_ok, eqV_run h4]
   cases hq : eqV u v with
   | true => simp [eqVs, hq, ih]
   | false => simp [eqVs, hq]
def valsL : List PV → Option (List Value)
 | [] => some []
 | .val v :: xs => match valsL xs with | some vs => some (v :: vs) | none => none
 | _ => none
theorem valsL_spec {c : Cx} : ∀ {xs : List PV} {us vs : List Value}, valsL xs = some us → RepL c xs vs → vs = us
 | [], us, vs, h, hr => by simp only [valsL, Option.some.injEq] at h; subst h; exact repL_nil.1 hr
 | x :: xs, us, [], h, hr => by unfold RepL at hr; obtain ⟨u, us, h1, _⟩ := hr; cases h1
 | x :: xs, us, v :: vs, h, hr => by
  rw [repL_cons] at hr
  cases x <;> simp only [valsL] at h <;> first | (cases h; done) | skip
  split at h
  ·rename_i ws hw
   cases h
   have h1 := hr.1
   unfold Rep at h1
   rw [h1, valsL_spec hw hr.2]
  ·cases h
def structEqB (P : Program) (t : TypeId) (us vs : List Value) : Bool := (match P.underlying t with | some (.struct _) => true | _ => false) && !P.stoodInHeld t && !P.eqGuardType P.depth t && eqOk P (P.fieldsOf t).toList 0 us vs
theorem struct_und {t : TypeId} {us vs : List Value} (h : structEqB P t us vs = true) : P.underlying t = some (.struct (P.fieldsOf t)) ∧ P.stoodInHeld t = false ∧ P.eqGuardType P.depth t = false ∧ eqOk P (P.fieldsOf t).toList 0 us vs = true := by
 simp only [structEqB, Bool.and_eq_true, Bool.not_eq_true'] at h
 obtain ⟨⟨⟨h1, h2⟩, h3⟩, h4⟩ := h
 refine ⟨?_, h2, h3, h4⟩
 cases hu : P.underlying t with
 | none => rw [hu] at h1; cases h1
 | some u =>
  rw [hu] at h1
  cases u <;> first | (cases h1; done) | skip
  simp only [Program.fieldsOf, hu]
section
variable {B : Nat → Nat → Prop} {o : Oper} {T : Nat → PV} {H : List Ob}
theorem does_struct_neq {t yt : TypeId} {x y : Operand} {xs ys : List PV} {us vs : List Value} (ho : o.op = .binOp .neq t x y yt) (hx : opv T x = .agg xs) (hy : opv T y = .agg ys) (h1 : valsL xs = some us) (h2 : valsL ys = some vs) (h : structEqB P t us vs = true) : Does P B o T H (.val (.bool (!eqVs us vs))) H :=
 does_pure fun σ w ac s k => by
  have k1 := k x (by simp [ho, Op.operands])
  have k2 := k y (by simp [ho, Op.operands])
  rw [hx] at k1
  rw [hy] at k2
  unfold Rep at k1 k2
  obtain ⟨ls, ha, k1⟩ := k1
  obtain ⟨ms, hb, k2⟩ := k2
  have e1 := valsL_spec h1 k1
  have e2 := valsL_spec h2 k2
  subst e1 e2
  obtain ⟨h3, h4, h5, h6⟩ := struct_und h
  refine ⟨_, ?_, rep_val _ _⟩
  have hg := run_eqGuard_agg (P := P) w .neq t x y ls.toArray ms.toArray h5
  have he := run_neq_struct (P := P) w t ls.toArray ms.toArray
  rw [run_equalIn_agg w 9999 t _ _ h3 h4, eqFields_run _ _ 9998 w _ 0 ls ms rfl rfl h6] at he
  simp only [execOp, ho, ha, hb, Sem.run_bind, hg, Result.andThen_ok, he, Sem.run_pure]
end
end
theorem nlo_iter {b m : Nat} {s : List UInt8} {l : List Ob} (k : NLo b l) : NLo b (.iter s m :: l) := k
section
variable {P : Program} {B : Nat → Nat → Prop} {o : Oper} {T : Nat → PV} {H : List Ob}
theorem set_iter {σ : Nat → Option Nat} {w : World} (s : Sim B H σ w) {i b : Nat} {l : List UInt8} {p q : Nat} (hi : H[i]? = some (.iter l p)) (hb : σ i = some b) (hv : w.heap[b]? = some (Obj.stringIter ⟨l.toArray⟩ p)) :
  Sim B (H.set i (.iter l q)) σ { w with heap := w.heap.setIfInBounds b (.stringIter ⟨l.toArray⟩ q) } ∧ Step B H σ w (H.set i (.iter l q)) σ { w with heap := w.heap.setIfInBounds b (.stringIter ⟨l.toArray⟩ q) } := by
 have hlen := lt_of_get hi
 have hbl := (Array.getElem?_eq_some_iff.1 hv).1
 have other : ∀ x, x ≠ b → (w.heap.setIfInBounds b (.stringIter ⟨l.toArray⟩ q))[x]? = w.heap[x]? := fun x hx => Array.getElem?_setIfInBounds_ne (Ne.symm hx)
 have same : (w.heap.setIfInBounds b (.stringIter ⟨l.toArray⟩ q))[b]? = some (.stringIter ⟨l.toArray⟩ q) := by simp [hbl]
 have get : ∀ j o, (H.set i (.iter l q))[j]? = some o → (j = i ∧ o = .iter l q) ∨ (j ≠ i ∧ H[j]? = some o) := fun j o h => get_set hlen h
 have own : ∀ x off, OwnWr σ (H.set i (.iter l q)) x off → OwnWr σ H x off := by
  rintro x off ⟨j, o, h1, h2, h3⟩
  rcases get j o h1 with ⟨rfl, rfl⟩ | ⟨_, h4⟩
  ·exact ⟨j, _, hi, h2, trivial⟩
  ·exact ⟨j, o, h4, h2, h3⟩
 have wr : ∀ off, OwnWr σ H b off := fun off => ⟨i, _, hi, hb, trivial⟩
 have le : (cx B H σ w).Le (cx B (H.set i (.iter l q)) σ { w with heap := w.heap.setIfInBounds b (.stringIter ⟨l.toArray⟩ q) }) := by
  refine ⟨by simp [cx], fun _ _ => rfl, fun x off u h1 h2 => ⟨?_, fun h => h1 (h.imp id (own x off))⟩, fun x e2 c2 h1 h2 => ⟨?_, fun h => h1 (h.imp id (own x 0))⟩, fun x cs t fr h1 => ⟨cs, ?_, rfl⟩⟩
  ·have hx : x ≠ b := fun hx => h1 (.inr (hx ▸ wr off))
   exact (World.cell?_of_block (w := w) (w' := { w with heap := w.heap.setIfInBounds b (.stringIter ⟨l.toArray⟩ q) }) (a := ⟨x, off, none⟩) (other x hx)).trans h2
  ·have hx : x ≠ b := fun hx => h1 (.inr (hx ▸ wr 0))
   exact (other x hx).trans h2
  ·have hx : x ≠ b := by rintro rfl; simp only [cx] at h1; rw [hv] at h1; cases h1
   exact (other x hx).trans h1
 refine ⟨⟨?_, ?_, fun x off h => by simpa using s.base x off h, ?_⟩, ⟨le, rfl, rfl, rfl, by simp, ?_, ?_⟩⟩
 ·intro j k x oj ok h1 h2 l1 l2 e1 e2
  rcases get j oj h1 with ⟨rfl, rfl⟩ | ⟨_, h3⟩ <;> rcases get k ok h2 with ⟨rfl, rfl⟩ | ⟨_, h4⟩
  ·rfl
  ·exact s.inj _ _ x _ _ hi h4 rfl l2 e1 e2
  ·exact s.inj _ _ x _ _ h3 hi l1 rfl e1 e2
  ·exact s.inj _ _ x _ _ h3 h4 l1 l2 e1 e2
 ·intro j x oj h1 l1 e1 off
  rcases get j oj h1 with ⟨rfl, rfl⟩ | ⟨_, h3⟩
  ·exact s.sep _ x _ hi rfl e1 off
  ·exact s.sep _ x _ h3 l1 e1 off
 ·intro j oj h1
  rcases get j oj h1 with ⟨rfl, rfl⟩ | ⟨hj, h3⟩
  ·exact ⟨b, hb, same⟩
  ·have k := s.holds j oj h3
   cases oj with
   | cells zs t =>
    obtain ⟨x, ws, fr', h5, h6, hf, h7⟩ := k
    have hx : x ≠ b := fun hx => hj (s.inj j i b _ _ h3 hi rfl rfl (hx ▸ h5) hb)
    exact ⟨x, ws, fr', h5, (other x hx).trans h6, hf, h7.mono le⟩
   | smap ks2 ms =>
    obtain ⟨x, e2, c2, h5, h6, h7, h8⟩ := k
    have hx : x ≠ b := fun hx => hj (s.inj j i b _ _ h3 hi rfl rfl (hx ▸ h5) hb)
    exact ⟨x, e2, c2, h5, (other x hx).trans h6, h7, RepL.mono le h8⟩
   | iter l2 p2 =>
    obtain ⟨x, h5, h6⟩ := k
    have hx : x ≠ b := fun hx => hj (s.inj j i b _ _ h3 hi rfl rfl (hx ▸ h5) hb)
    exact ⟨x, h5, (other x hx).trans h6⟩
   | free m =>
    intro x hx
    obtain ⟨cs, t, h5, h6⟩ := k x hx
    have hne : x ≠ b := fun h => hj (s.inj j i b _ _ h3 hi rfl rfl (h ▸ hx) hb)
    exact ⟨cs, t, (other x hne).trans h5, h6⟩
   | dead => trivial
 ·intro j oj x h1 h2 h3
  rcases get j oj h1 with ⟨rfl, rfl⟩ | ⟨_, h4⟩
  ·exact .inr ⟨_, _, hi, rfl, h3⟩
  ·exact .inr ⟨j, oj, h4, h2, h3⟩
 ·intro x hx hn
  exact other x (fun h => hn i _ hi rfl (h ▸ hb))
theorem does_rangeStr {t : TypeId} {d : TD} {x : Operand} {s : Str} (f : TyFacts P t d) (hd : d.sh = .str) (ho : o.op = .range t x) (hx : opv T x = str s) : Does P B o T H (.ptr H.length 0) (H ++ [.iter s 0]) := by
 intro σ w a sm h
 have k1 := h x (by simp [ho, Op.operands])
 rw [hx] at k1
 unfold str Rep at k1
 obtain ⟨s', st⟩ := grow_name sm (Grows.alloc w (.stringIter ⟨s.toArray⟩ 0)) (.iter s 0) (some w.heap.size) (fun b hb => by cases hb; exact Nat.le_refl _) ⟨w.heap.size, by simp only [cx]; rw [ext_new], by show (w.heap.push _)[w.heap.size]? = _; simp⟩
 refine ⟨.pointer (some ⟨w.heap.size, 0, none⟩), _, _, .inl ?_, ?_, s', st⟩
 ·simp only [execOp, ho, k1, Sem.run_bind, run_range_string w t _ (f.str hd), Result.andThen_ok, Sem.run_pure]; rfl
 ·unfold Rep; exact ⟨by simp [cx], w.heap.size, by simp only [cx]; rw [ext_new], rfl⟩
theorem does_next {x : Operand} {i : Nat} {s : Str} {pos : Nat} (ho : o.op = .next x true) (hx : opv T x = .ptr i 0) (hi : H[i]? = some (.iter s pos)) (hp : pos < s.length) (ha : (s.getD pos 0).toNat < 128) :
  Does P B o T H (.tup [.val (.bool true), .val (.int .i64 (pos : Int)), .val (.int .i32 ((s.getD pos 0).toNat : Int))]) (H.set i (.iter s (pos + 1))) := by
 intro σ w a sm h
 have k1 := h x (by simp [ho, Op.operands])
 rw [hx] at k1
 unfold Rep at k1
 obtain ⟨_, b, hb, hv⟩ := k1
 obtain ⟨b', hb', hg⟩ := sm.holds i _ hi
 simp only [cx] at hb hb' hg
 rw [hb] at hb'
 cases hb'
 obtain ⟨s', st⟩ := set_iter sm (q := pos + 1) hi hb hg
 have hsz : pos < (⟨s.toArray⟩ : ByteArray).size := by rw [str_size]; exact hp
 have hel : ((⟨s.toArray⟩ : ByteArray)[pos]'hsz) = s.getD pos 0 := by
  simp only [List.getD, List.getElem?_eq_getElem hp, Option.getD_some]
  rfl
 have hdec : Utf8.decode ⟨s.toArray⟩ pos = ((s.getD pos 0).toNat, 1) := by rw [decode_ascii _ pos hsz (by rw [hel]; exact ha), hel]
 refine ⟨.tuple #[.bool true, .int .i64 (pos : Int), .int .i32 ((s.getD pos 0).toNat : Int)], _, σ, .inl ?_, ?_, s', st⟩
 ·have hr : (Instr.next (a.eval x) true o.type).run P w = .ok (.tuple #[.bool true, .int .i64 (pos : Int), .int .i32 ((s.getD pos 0).toNat : Int)]) { w with heap := w.heap.setIfInBounds b (.stringIter ⟨s.toArray⟩ (pos + 1)) } := by
   rw [hv]
   have hbl := (Array.getElem?_eq_some_iff.1 hg).1
   simp only [Instr.next, getObj, setObj, Sem.run_bind, Sem.run, hg, Result.andThen, hsz, if_true, hdec]
   simp [goInt, Sem.run, hg, hbl]
  simp only [execOp, ho, Sem.run_bind, hr, Result.andThen_ok, Sem.run_pure]
 ·unfold Rep
  exact ⟨_, rfl, repL_cons.2 ⟨rep_val _ _, repL_cons.2 ⟨rep_val _ _, repL_cons.2 ⟨rep_val _ _, repL_nil.2 rfl⟩⟩⟩⟩
theorem does_next_end {x : Operand} {i : Nat} {s : Str} {pos : Nat} (ho : o.op = .next x true) (hx : opv T x = .ptr i 0) (hi : H[i]? = some (.iter s pos)) (hp : s.length ≤ pos) : Does P B o T H (.tup [.val (.bool false)]) H :=
 does_pure fun σ w a sm h => by
  have k1 := h x (by simp [ho, Op.operands])
  rw [hx] at k1
  unfold Rep at k1
  obtain ⟨_, b, hb, hv⟩ := k1
  obtain ⟨b', hb', hg⟩ := sm.holds i _ hi
  simp only [cx] at hb hb' hg
  rw [hb] at hb'
  cases hb'
  have hsz : ¬ pos < (⟨s.toArray⟩ : ByteArray).size := by rw [str_size]; omega
  refine ⟨.tuple #[.bool false], ?_, by unfold Rep; exact ⟨_, rfl, repL_cons.2 ⟨rep_val _ _, repL_nil.2 rfl⟩⟩⟩
  have hr : (Instr.next (a.eval x) true o.type).run P w = .ok (.tuple #[.bool false]) w := by
   rw [hv]
   simp [Instr.next, getObj, Sem.run, hg, hsz]
  simp only [execOp, ho, Sem.run_bind, hr, Result.andThen_ok, Sem.run_pure]
end
end Go.Proofs.YtphgdofmjpdhaaaGreat
namespace Go.Proofs.YtphgdofmjpdhaaaGreat
set_option linter.unusedVariables false
def names : List Str := [[40, 101, 120, 105, 116, 41], [40, 108, 105, 116, 41], [40, 98, 114, 97, 110, 99, 104, 41], [40, 48, 98, 114, 97, 110, 99, 104, 41], [40, 100, 111, 41], [40, 63, 100, 111, 41], [40, 108, 111, 111, 112, 41], [40, 43, 108, 111, 111, 112, 41], [40, 104, 97, 108, 116, 41], [40, 99, 97, 117, 103, 104, 116, 41], [40, 100, 111, 101, 115, 41], [40, 115, 116, 114, 41], [69, 88, 69, 67, 85, 84, 69], [67, 65, 84, 67, 72], [84, 72, 82, 79, 87], [73], [74], [85, 78, 76, 79, 79, 80], [62, 82], [82, 62], [82, 64], [50, 62, 82], [50, 82, 62], [68, 85, 80], [68, 82, 79, 80], [83, 87, 65, 80], [79, 86, 69, 82], [82, 79, 84], [45, 82, 79, 84], [78, 73, 80], [84, 85, 67, 75], [63, 68, 85, 80], [50, 68, 85, 80], [50, 68, 82, 79, 80], [50, 83, 87, 65, 80], [50, 79, 86, 69, 82], [80, 73, 67, 75], [82, 79, 76, 76], [68, 69, 80, 84, 72], [43], [45], [42], [47], [77, 79, 68], [65, 78, 68], [79, 82], [88, 79, 82], [76, 83, 72, 73, 70, 84], [82, 83, 72, 73, 70, 84], [77, 73, 78], [77, 65, 88], [61], [60, 62], [60], [62], [60, 61], [62, 61], [85, 60], [85, 62], [78, 69, 71, 65, 84, 69], [65, 66, 83], [73, 78, 86, 69, 82, 84], [49, 43], [49, 45], [50, 42], [50, 47], [48, 61], [48, 60], [48, 60, 62], [48, 62], [67, 69, 76, 76, 83], [67, 69, 76, 76, 43], [65, 76, 73, 71, 78, 69, 68], [47, 77, 79, 68], [42, 47], [42, 47, 77, 79, 68], [85, 77, 42], [85, 77, 47, 77, 79, 68], [77, 42], [83, 77, 47, 82, 69, 77], [70, 77, 47, 77, 79, 68], [83, 62, 68], [87, 73, 84, 72, 73, 78], [64], [33], [43, 33], [67, 64], [67, 33], [50, 64], [50, 33], [70, 73, 76, 76], [77, 79, 86, 69], [67, 79, 85, 78, 84], [72, 69, 82, 69], [65, 76, 76, 79, 84], [44], [67, 44], [65, 76, 73, 71, 78], [66, 65, 83, 69], [83, 84, 65, 84, 69], [84, 82, 85, 69], [70, 65, 76, 83, 69], [66, 76], [68, 69, 67, 73, 77, 65, 76], [72, 69, 88], [69, 77, 73, 84], [67, 82], [83, 80, 65, 67, 69], [83, 80, 65, 67, 69, 83], [84, 89, 80, 69], [46], [85, 46], [60, 35], [35], [35, 83], [72, 79, 76, 68], [83, 73, 71, 78], [35, 62], [62, 66, 79, 68, 89], [65, 66, 79, 82, 84], [80, 79, 83, 84], [65, 70, 84, 69, 82], [69, 86, 69, 82, 89], [67, 65, 78, 67, 69, 76], [65, 82, 71], [83, 69, 76, 70], [78, 79, 87], [83, 69, 84, 45, 83, 84, 65, 84, 69], [65, 84, 45, 83, 84, 65, 84, 69], [71, 69, 84, 45, 83, 84, 65, 84, 69]]
def specials : List Str := [[58], [59], [67, 82, 69, 65, 84, 69], [68, 79, 69, 83, 62], [86, 65, 82, 73, 65, 66, 76, 69], [67, 79, 78, 83, 84, 65, 78, 84], [73, 77, 77, 69, 68, 73, 65, 84, 69], [39], [91, 39, 93], [67, 72, 65, 82], [91, 67, 72, 65, 82, 93], [76, 73, 84, 69, 82, 65, 76], [80, 79, 83, 84, 80, 79, 78, 69], [82, 69, 67, 85, 82, 83, 69], [73, 70], [69, 76, 83, 69], [84, 72, 69, 78], [66, 69, 71, 73, 78], [87, 72, 73, 76, 69], [82, 69, 80, 69, 65, 84], [85, 78, 84, 73, 76], [65, 71, 65, 73, 78], [68, 79], [63, 68, 79], [76, 79, 79, 80], [43, 76, 79, 79, 80], [76, 69, 65, 86, 69], [83, 34], [46, 34], [40], [92], [91], [93], [70, 79, 82, 71, 69, 84], [77, 65, 67, 72, 73, 78, 69], [79, 78, 58], [69, 88, 73, 84]]
theorem names_len : names.length = 130 := by decide +kernel
theorem specials_len : specials.length = 37 := by decide +kernel
end Go.Proofs.YtphgdofmjpdhaaaGreat
namespace Go.Proofs.YtphgdofmjpdhaaaGreat
open Go.RowKit
set_option linter.unusedVariables false
set_option maxRecDepth 100000
theorem vm_Names : PureC Tryz.prog 25 [] (sq cStr names) := by
 refine pW tG (rs := [.tmp 0]) Tryz.func25 rfl rfl rfl (by simp) (by simp) (fun B => ?_)
 refine Ws ?_
 refine W_region rfl ?_
 refine We tG rfl rfl rfl trivial ?_
 refine Wn ?_
 refine Ws ?_
 refine W_region rfl ?_
 refine We tG rfl rfl rfl trivial ?_
 first | refine Wa 1 rfl (bsL cStr [_, _, _, _, _, _, _, _, _, _, _, _, _, _, _, _, _, _, _, _, _, _, _, _, _, _, _, _, _, _, _, _, _, _, _, _, _, _, _, _, _, _, _, _, _, _, _, _, _, _, _, _, _, _, _, _, _, _, _, _, _, _, _, _, _, _, _, _, _, _, _, _, _, _, _, _, _, _, _, _, _, _, _, _, _, _, _, _, _, _, _, _, _, _, _, _, _, _, _, _, _, _, _, _, _, _, _, _, _, _, _, _, _, _, _, _, _, _, _, _, _, _, _, _, _, _, _, _, _, _] rfl rfl) ?_ | skip
 refine We tG rfl rfl rfl trivial ?_
 refine Wn ?_
 refine Wq ?_
 refine lP rfl ?_
 exact rfl
end Go.Proofs.YtphgdofmjpdhaaaGreat
namespace Go.Proofs.YtphgdofmjpdhaaaGreat
open Go.RowKit
set_option linter.unusedVariables false
set_option maxRecDepth 100000
set_option maxHeartbeats 4000000
theorem ref_Names : PureC Tryz.prog 30 [] (sq cStr names) := by
 refine pW tG (rs := [.tmp 0]) Tryz.func30 rfl rfl rfl (by simp) (by simp) (fun B => ?_)
 refine Ws ?_
 refine W_region rfl ?_
 refine We tG rfl rfl rfl trivial ?_
 refine Wn ?_
 refine Ws ?_
 refine W_region rfl ?_
 refine We tG rfl rfl rfl trivial ?_
 first | refine Wa 1 rfl (bsL cStr [_, _, _, _, _, _, _, _, _, _, _, _, _, _, _, _, _, _, _, _, _, _, _, _, _, _, _, _, _, _, _, _, _, _, _, _, _, _, _, _, _, _, _, _, _, _, _, _, _, _, _, _, _, _, _, _, _, _, _, _, _, _, _, _, _, _, _, _, _, _, _, _, _, _, _, _, _, _, _, _, _, _, _, _, _, _, _, _, _, _, _, _, _, _, _, _, _, _, _, _, _, _, _, _, _, _, _, _, _, _, _, _, _, _, _, _, _, _, _, _, _, _, _, _, _, _, _, _, _, _] rfl rfl) ?_ | skip
 refine We tG rfl rfl rfl trivial ?_
 refine Wn ?_
 refine Wq ?_
 refine lP rfl ?_
 exact rfl
theorem vm_Specials : PureC Tryz.prog 226 [] (sq cStr specials) := by
 refine pW tG (rs := [.tmp 0]) Tryz.func226 rfl rfl rfl (by simp) (by simp) (fun B => ?_)
 refine Ws ?_
 refine W_region rfl ?_
 refine We tG rfl rfl rfl trivial ?_
 refine Wn ?_
 refine Ws ?_
 refine W_region rfl ?_
 refine We tG rfl rfl rfl trivial ?_
 first | refine Wa 1 rfl (bsL cStr [_, _, _, _, _, _, _, _, _, _, _, _, _, _, _, _, _, _, _, _, _, _, _, _, _, _, _, _, _, _, _, _, _, _, _, _, _] rfl rfl) ?_ | skip
 refine We tG rfl rfl rfl trivial ?_
 refine Wn ?_
 refine Wq ?_
 refine lP rfl ?_
 exact rfl
theorem ref_Specials : PureC Tryz.prog 77 [] (sq cStr specials) := by
 refine pW tG (rs := [.tmp 0]) Tryz.func77 rfl rfl rfl (by simp) (by simp) (fun B => ?_)
 refine Ws ?_
 refine W_region rfl ?_
 refine We tG rfl rfl rfl trivial ?_
 refine Wn ?_
 refine Ws ?_
 refine W_region rfl ?_
 refine We tG rfl rfl rfl trivial ?_
 first | refine Wa 1 rfl (bsL cStr [_, _, _, _, _, _, _, _, _, _, _, _, _, _, _, _, _, _, _, _, _, _, _, _, _, _, _, _, _, _, _, _, _, _, _, _, _] rfl rfl) ?_ | skip
 refine We tG rfl rfl rfl trivial ?_
 refine Wn ?_
 refine Wq ?_
 refine lP rfl ?_
 exact rfl
def numberS (name : Str) : Int := match names.findIdx? (fun x => decide (x = name)) with
 | some i => i
 | none => -1
theorem number_at {name : Str} {k : Nat} (hk : k < names.length) (hno : ∀ j, j < k → names.getD j [] ≠ name) (h : names.getD k [] = name) : numberS name = k := by
 have : names.findIdx? (fun x => decide (x = name)) = some k := by
  rw [List.findIdx?_eq_some_iff_getElem]
  refine ⟨hk, ?_, fun j hj => ?_⟩
  ·simp only [decide_eq_true_eq]; rw [← h]; unfold List.getD; rw [List.getElem?_eq_getElem hk]; rfl
  ·have := hno j hj
   unfold List.getD at this
   rw [List.getElem?_eq_getElem (by omega)] at this
   simpa using this
 unfold numberS
 rw [this]
theorem number_no {name : Str} (hno : ∀ j, j < names.length → names.getD j [] ≠ name) : numberS name = -1 := by
 have : names.findIdx? (fun x => decide (x = name)) = none := by
  rw [List.findIdx?_eq_none_iff]
  intro x hx
  obtain ⟨j, hj, rfl⟩ := List.mem_iff_getElem.1 hx
  have := hno j hj
  unfold List.getD at this
  rw [List.getElem?_eq_getElem hj] at this
  simpa using this
 unfold numberS
 rw [this]
theorem ref_Number (name : Str) : PureC Tryz.prog 22 [str name] (i64 (numberS name)) := by
 have hlen : names.length = 130 := names_len
 refine pW tG (rs := [.tmp 2]) Tryz.func22 rfl rfl rfl (by simp) (by simp) (fun B => ?_)
 refine Ws ?_
 refine W_region rfl ?_
 refine We tG rfl rfl rfl trivial ?_
 refine Wn ?_
 refine Ws ?_
 refine W_region rfl ?_
 refine Wc rfl rfl (dC rfl Tryz.func30 rfl rfl ((ref_Names) _)) ?_
 refine We tG rfl rfl rfl trivial ?_
 refine Wn ?_
 iterate 2 refine Ws ?_
 refine W_region rfl ?_
 refine We tG rfl rfl rfl trivial ?_
 refine Wn ?_
 refine Wl ?_
 show W _ _ _ _ _ _ _
 refine W_loopS (fun (k : Nat) => [(0, str name), (3, sq cStr names), (4, i64 k)]) (fun (k : Nat) => []) (fun (k : Nat) => []) (fun (k : Nat) => k ≤ names.length ∧ ∀ j, j < k → names.getD j [] ≠ name) (fun (k : Nat) => names.length - k) (0) (by first | exact trivial | omega | simp) [] ?_ ?_
 ·exact ⟨rfl, ⟨(by repeat (first | exact reBase_nil | refine rB (.inl rfl) ?_ | refine rB (.inr rfl) ?_)), (by repeat (first | exact reX_nil | refine rX rfl ?_ | refine rX (by refine congrArg (fun q => some (Ob.free q)) ?_; simp <;> omega) ?_)), (by decide), (by repeat (first | exact moved_nil | refine mC (.inl (Nat.le_of_ble_eq_true rfl)) ?_ | refine mC (.inr rfl) ?_)), (by repeat (first | exact nlo_nil | exact nO nlo_nil | refine nlo_cells (by first | (refine nF ?_; simp; done) | (refine nF (flatL_map' ?_ _); intro x; simp; done) | (simp [NL1L, NL1]; done)) ?_ | refine nO ?_ | refine nlo_dead ?_ | refine nlo_iter ?_ | refine nlo_smap (by first | (refine nF ?_; simp; done) | (refine nF (flatL_map' ?_ _); intro x; simp; done) | (simp [NL1L, NL1]; done)) ?_))⟩, (by repeat (first | exact subL_nil | refine subL_cons (by first | exact imp_of rfl | exact imp_seq _ _ _ | exact imp_of (congrArg i64 (by first | (rw [i64w]; unfold wrap64; omega) | omega | (simp; done)))) ?_)), (by repeat (first | exact nls_nil | refine nls_cons (by first | (refine nl_flat ?_; simp; done) | (show _ < _; first | decide | (simp; done)) | (refine ⟨?_, flatL_map' ?_ _⟩ <;> first | decide | (intro x; simp; done) | (simp; done)) | (refine ⟨?_, ?_⟩ <;> first | decide | (simp; done)) | (simp [NL, NL1L, NL1]; done)) ?_))⟩
 ·intro k hk
  iterate 2 refine Ws ?_
  refine W_region rfl ?_
  iterate 4 refine We tG rfl rfl rfl trivial ?_
  refine Wn ?_
  refine Wi rfl (fun hi1 => ?_) (fun hi1 => ?_)
  ·have hlt : k < names.length := by have := of_decide_eq_true hi1; omega
   refine Wj ?_
   refine Ws ?_
   refine Wl ?_
   refine Ws ?_
   refine W_region rfl ?_
   iterate 2 refine We tG rfl rfl rfl trivial ?_
   first | refine Wv tG rfl rfl rfl (by first | exact trivial | omega | (simp only [dnL] at *; omega) | (simp_all; done) | (simp_all; omega)) (iN cStr 1 (fun _ => rfl) [] (by first | exact trivial | omega | (simp only [dnL] at *; omega) | (simp_all; done) | (simp_all; omega))) ?_ | refine Wv tG rfl rfl rfl (by first | exact trivial | omega | (simp only [dnL] at *; omega) | (simp_all; done) | (simp_all; omega)) (iR cStr 1 (fun _ => rfl) [] (by first | exact trivial | omega | (simp only [dnL] at *; omega) | (simp_all; done) | (simp_all; omega))) ?_
   iterate 3 refine We tG rfl rfl rfl trivial ?_
   refine Wa 17 rfl (str_eql _ _) ?_
   refine Wn ?_
   refine Wi rfl (fun hi2 => ?_) (fun hi2 => ?_)
   ·have hy : names.getD k [] = name := of_decide_eq_true hi2
    refine Ws ?_
    refine W_region rfl ?_
    iterate 2 refine We tG rfl rfl rfl trivial ?_
    refine Wn ?_
    refine Wq ?_
    refine lP rfl ?_
    exact congrArg i64 (number_at hlt hk.2 hy).symm
   ·have hn : names.getD k [] ≠ name := of_decide_eq_false hi2
    refine Wj ?_
    refine W_region rfl ?_
    iterate 3 refine We tG rfl rfl rfl trivial ?_
    refine Wn ?_
    exact ⟨k + 1, [], (by exact ⟨by omega, fun j hj => by rcases Nat.lt_or_ge j k with h | h; exact hk.2 j h; rw [show j = k by omega]; exact hn⟩), (by omega), ⟨rfl, ⟨(by repeat (first | exact reBase_nil | refine rB (.inl rfl) ?_ | refine rB (.inr rfl) ?_)), (by repeat (first | exact reX_nil | refine rX rfl ?_ | refine rX (by refine congrArg (fun q => some (Ob.free q)) ?_; simp <;> omega) ?_)), (by decide), (by repeat (first | exact moved_nil | refine mC (.inl (Nat.le_of_ble_eq_true rfl)) ?_ | refine mC (.inr rfl) ?_)), (by repeat (first | exact nlo_nil | exact nO nlo_nil | refine nlo_cells (by first | (refine nF ?_; simp; done) | (refine nF (flatL_map' ?_ _); intro x; simp; done) | (simp [NL1L, NL1]; done)) ?_ | refine nO ?_ | refine nlo_dead ?_ | refine nlo_iter ?_ | refine nlo_smap (by first | (refine nF ?_; simp; done) | (refine nF (flatL_map' ?_ _); intro x; simp; done) | (simp [NL1L, NL1]; done)) ?_))⟩, (by repeat (first | exact subL_nil | refine subL_cons (by first | exact imp_of rfl | exact imp_seq _ _ _ | exact imp_of (congrArg i64 (by first | (rw [i64w]; unfold wrap64; omega) | omega | (simp; done)))) ?_)), (by repeat (first | exact nls_nil | refine nls_cons (by first | (refine nl_flat ?_; simp; done) | (show _ < _; first | decide | (simp; done)) | (refine ⟨?_, flatL_map' ?_ _⟩ <;> first | decide | (intro x; simp; done) | (simp; done)) | (refine ⟨?_, ?_⟩ <;> first | decide | (simp; done)) | (simp [NL, NL1L, NL1]; done)) ?_))⟩⟩
  ·have hge : names.length ≤ k := by have := of_decide_eq_false hi1; omega
   refine W_exit ?_
   refine Ws ?_
   refine W_region rfl ?_
   refine We tG rfl rfl rfl trivial ?_
   refine Wn ?_
   refine Wq ?_
   refine lP rfl ?_
   exact congrArg i64 (number_no (fun j hj => hk.2 j (by omega))).symm
end Go.Proofs.YtphgdofmjpdhaaaGreat
namespace Go.Proofs.YtphgdofmjpdhaaaGreat
open Go.RowKit
set_option linter.unusedVariables false
set_option maxRecDepth 100000
set_option maxHeartbeats 4000000
theorem vm_within (n lo hi : Int) : PureC Tryz.prog 243 [i64 n, i64 lo, i64 hi] (boo (decide (lo ≤ n ∧ n ≤ hi))) := by
 refine pW tG (rs := [.tmp 6]) Tryz.func243 rfl rfl rfl (by simp) (by simp) (fun B => ?_)
 refine Ws ?_
 refine W_region rfl ?_
 refine We tG rfl rfl rfl trivial ?_
 refine Wn ?_
 refine Ws ?_
 refine W_region rfl ?_
 iterate 4 refine We tG rfl rfl rfl trivial ?_
 refine Wb 10 rfl (fun hg1 => ?_) (fun hg1 => ?_)
 ·refine We tG rfl rfl rfl trivial ?_
  iterate 4 refine We tG rfl rfl rfl trivial ?_
  refine Wn ?_
  refine Wq ?_
  refine lP rfl ?_
  first | (refine congrArg boo (decide_eq_decide.2 ?_); (try simp only [dnL] at *); omega) | (refine congrArg boo (decide_eq_false ?_).symm; (try simp only [dnL] at *); omega)
 ·refine Wk rfl rfl ?_
  iterate 2 refine Wk rfl rfl ?_
  iterate 2 refine We tG rfl rfl rfl trivial ?_
  refine Wn ?_
  refine Wq ?_
  refine lP rfl ?_
  first | (refine congrArg boo (decide_eq_decide.2 ?_); (try simp only [dnL] at *); omega) | (refine congrArg boo (decide_eq_false ?_).symm; (try simp only [dnL] at *); omega)
theorem vm_Start : PureC Tryz.prog 130 [] (i64 1368) := by
 have h1 := names_len
 have h2 := specials_len
 refine pW tG (rs := [.tmp 0]) Tryz.func130 rfl rfl rfl (by simp) (by simp) (fun B => ?_)
 refine Ws ?_
 refine W_region rfl ?_
 refine We tG rfl rfl rfl trivial ?_
 refine Wn ?_
 refine Ws ?_
 refine W_region rfl ?_
 refine Wc rfl rfl (dC rfl Tryz.func25 rfl rfl ((vm_Names) _)) ?_
 refine We tG rfl rfl rfl trivial ?_
 refine Wc rfl rfl (dC rfl Tryz.func226 rfl rfl ((vm_Specials) _)) ?_
 iterate 5 refine We tG rfl rfl rfl trivial ?_
 refine Wn ?_
 refine Wq ?_
 refine lP rfl ?_
 refine congrArg i64 ?_; rw [h1, h2]; decide
end Go.Proofs.YtphgdofmjpdhaaaGreat
