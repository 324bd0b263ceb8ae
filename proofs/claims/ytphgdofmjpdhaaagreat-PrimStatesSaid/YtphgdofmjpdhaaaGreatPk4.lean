import Derived.Test.YtphgdofmjpdhaaaGreatPk3
set_option linter.unusedVariables false
set_option linter.unusedSimpArgs false
namespace Go.Proofs.YtphgdofmjpdhaaaGreat
open Go.RowKit
set_option linter.unusedVariables false
set_option maxRecDepth 100000
set_option maxHeartbeats 4000000
def reqVs (x : VReq) : List Value := [.int .i64 x.kind, .int .i64 x.arg, .int .i64 x.hand, .int .i64 x.rank, .int .i64 x.delay, .int .i64 x.id]
theorem req_eq {x y : VReq} (h : eqVs (reqVs x) (reqVs y) = true) : x = y := by cases x; cases y; simp [reqVs, eqVs, eqV] at h; simp [h]
theorem req_self (x : VReq) : eqVs (reqVs x) (reqVs x) = true := by simp [reqVs, eqVs, eqV]
def handVs (x : VHand) : List Value := [.int .i64 x.xt, .int .i64 x.fuel, .int .i64 x.strikes, .bool x.out]
theorem hand_eq {x y : VHand} (h : eqVs (handVs x) (handVs y) = true) : x = y := by cases x; cases y; simp [handVs, eqVs, eqV] at h; simp [h]
theorem hand_self (x : VHand) : eqVs (handVs x) (handVs x) = true := by simp [handVs, eqVs, eqV]
def confVs (x : VConf) : List Value := [.int .i64 x.mem, .int .i64 x.data, .int .i64 x.ret, .int .i64 x.words, .int .i64 x.out]
theorem conf_eq {x y : VConf} (h : eqVs (confVs x) (confVs y) = true) : x = y := by cases x; cases y; simp [confVs, eqVs, eqV] at h; simp [h]
theorem conf_self (x : VConf) : eqVs (confVs x) (confVs x) = true := by simp [confVs, eqVs, eqV]
theorem not_f {b : Bool} (h : (!b) = false) : b = true := by cases b <;> simp_all
theorem not_t {b : Bool} (h : (!b) = true) : b = false := by cases b <;> simp_all
theorem ref_Reqs (a b : List VReq) (ha : a.length ≤ 1000000) (hb : b.length ≤ 1000000) : PureC Tryz.prog 38 [sq cReq a, sq cReq b] (boo (decide (a = b))) := by
 refine pW tG (rs := [.tmp 4]) Tryz.func38 rfl rfl rfl (by simp) (by simp) (fun B => ?_)
 refine Ws ?_
 refine W_region rfl ?_
 refine We tG rfl rfl rfl trivial ?_
 refine Wn ?_
 iterate 2 refine Ws ?_
 refine W_region rfl ?_
 iterate 5 refine We tG rfl rfl rfl trivial ?_
 refine Wn ?_
 refine Wi rfl (fun hi1 => ?_) (fun hi1 => ?_)
 ·have hne : a ≠ b := fun h => by subst h; simp at hi1
  refine Ws ?_
  refine W_region rfl ?_
  refine We tG rfl rfl rfl trivial ?_
  refine Wn ?_
  refine Wq ?_
  refine lP rfl ?_
  exact congrArg boo (decide_eq_false hne).symm
 ·have hl : a.length = b.length := by (try simp only [dnL] at *); omega
  refine Wj ?_
  iterate 2 refine Ws ?_
  refine W_region rfl ?_
  refine We tG rfl rfl rfl trivial ?_
  refine Wn ?_
  refine Wl ?_
  show W _ _ _ _ _ _ _
  refine W_loopS (fun (k : Nat) => [(0, sq cReq a), (1, sq cReq b), (5, i64 k)]) (fun (k : Nat) => []) (fun (k : Nat) => []) (fun (k : Nat) => k ≤ a.length ∧ a.take k = b.take k) (fun (k : Nat) => a.length - k) (0) (by first | exact trivial | omega | simp) [] ?_ ?_
  ·exact ⟨rfl, ⟨(by repeat (first | exact reBase_nil | refine rB (.inl rfl) ?_ | refine rB (.inr rfl) ?_)), (by repeat (first | exact reX_nil | refine rX rfl ?_ | refine rX (by refine congrArg (fun q => some (Ob.free q)) ?_; simp <;> omega) ?_)), (by decide), (by repeat (first | exact moved_nil | refine mC (.inl (Nat.le_of_ble_eq_true rfl)) ?_ | refine mC (.inr rfl) ?_)), (by repeat (first | exact nlo_nil | exact nO nlo_nil | refine nlo_cells (by first | (refine nF ?_; simp; done) | (refine nF (flatL_map' ?_ _); intro x; simp; done) | (simp [NL1L, NL1]; done)) ?_ | refine nO ?_ | refine nlo_dead ?_ | refine nlo_iter ?_ | refine nlo_smap (by first | (refine nF ?_; simp; done) | (refine nF (flatL_map' ?_ _); intro x; simp; done) | (simp [NL1L, NL1]; done)) ?_))⟩, (by repeat (first | exact subL_nil | refine subL_cons (by first | exact imp_of rfl | exact imp_seq _ _ _ | exact imp_of (congrArg i64 (by first | (rw [i64w]; unfold wrap64; omega) | omega | (simp; done)))) ?_)), (by repeat (first | exact nls_nil | refine nls_cons (by first | (refine nl_flat ?_; simp; done) | (show _ < _; first | decide | (simp; done)) | (refine ⟨?_, flatL_map' ?_ _⟩ <;> first | decide | (intro x; simp; done) | (simp; done)) | (refine ⟨?_, ?_⟩ <;> first | decide | (simp; done)) | (simp [NL, NL1L, NL1]; done)) ?_))⟩
  ·intro k hk
   iterate 2 refine Ws ?_
   refine W_region rfl ?_
   iterate 4 refine We tG rfl rfl rfl trivial ?_
   refine Wn ?_
   refine Wi rfl (fun hi2 => ?_) (fun hi2 => ?_)
   ·have hlt : k < a.length := by have := of_decide_eq_true hi2; omega
    refine Wj ?_
    refine Ws ?_
    refine Wl ?_
    refine Ws ?_
    refine W_drawU [0, 0, 0, 1, 0, 0, 0, 1, 0] [0, 1, 2, 3, 4, 5, 6, 7, 8] mG rfl (by kernel_rfl) ?_
    refine Xe tG rfl rfl rfl rfl (fun _ => rfl) trivial ?_
    refine Xe tG rfl rfl rfl rfl (fun _ => rfl) trivial ?_
    first | refine Xi tG rfl rfl rfl rfl (fun _ => rfl) (by first | exact trivial | omega | (simp only [dnL] at *; omega) | (simp_all; done) | (simp_all; omega)) (iN cReq 6 (fun _ => rfl) default (by first | exact trivial | omega | (simp only [dnL] at *; omega) | (simp_all; done) | (simp_all; omega))) ?_ | refine Xi tG rfl rfl rfl rfl (fun _ => rfl) (by first | exact trivial | omega | (simp only [dnL] at *; omega) | (simp_all; done) | (simp_all; omega)) (iR cReq 6 (fun _ => rfl) default (by first | exact trivial | omega | (simp only [dnL] at *; omega) | (simp_all; done) | (simp_all; omega))) ?_
    refine Xf tG rfl rfl rfl rfl (fun _ => rfl) trivial ?_
    refine Xe tG rfl rfl rfl rfl (fun _ => rfl) trivial ?_
    refine Xe tG rfl rfl rfl rfl (fun _ => rfl) trivial ?_
    first | refine Xi tG rfl rfl rfl rfl (fun _ => rfl) (by first | exact trivial | omega | (simp only [dnL] at *; omega) | (simp_all; done) | (simp_all; omega)) (iN cReq 6 (fun _ => rfl) default (by first | exact trivial | omega | (simp only [dnL] at *; omega) | (simp_all; done) | (simp_all; omega))) ?_ | refine Xi tG rfl rfl rfl rfl (fun _ => rfl) (by first | exact trivial | omega | (simp only [dnL] at *; omega) | (simp_all; done) | (simp_all; omega)) (iR cReq 6 (fun _ => rfl) default (by first | exact trivial | omega | (simp only [dnL] at *; omega) | (simp_all; done) | (simp_all; omega))) ?_
    refine Xf tG rfl rfl rfl rfl (fun _ => rfl) trivial ?_
    refine WU_does0 rfl rfl rfl rfl (fun _ => does_struct_neq rfl rfl rfl rfl rfl (by kernel_rfl)) ?_
    refine WU_nil ?_
    refine Wi rfl (fun hi3 => ?_) (fun hi3 => ?_)
    ·have hne : a ≠ b := fun h => by have h1 := not_t hi3; rw [h] at h1; exact absurd ((req_self _).symm.trans h1) (by simp)
     refine Ws ?_
     refine W_region rfl ?_
     refine We tG rfl rfl rfl trivial ?_
     refine Wn ?_
     refine Wq ?_
     refine lP rfl ?_
     exact congrArg boo (decide_eq_false hne).symm
    ·have he : a.getD k default = b.getD k default := req_eq (not_f hi3)
     refine Wj ?_
     refine W_region rfl ?_
     iterate 3 refine We tG rfl rfl rfl trivial ?_
     refine Wn ?_
     exact ⟨k + 1, [], (by exact ⟨by omega, take_same default hl hlt hk.2 he⟩), (by omega), ⟨rfl, ⟨(by repeat (first | exact reBase_nil | refine rB (.inl rfl) ?_ | refine rB (.inr rfl) ?_)), (by repeat (first | exact reX_nil | refine rX rfl ?_ | refine rX (by refine congrArg (fun q => some (Ob.free q)) ?_; simp <;> omega) ?_)), (by decide), (by repeat (first | exact moved_nil | refine mC (.inl (Nat.le_of_ble_eq_true rfl)) ?_ | refine mC (.inr rfl) ?_)), (by repeat (first | exact nlo_nil | exact nO nlo_nil | refine nlo_cells (by first | (refine nF ?_; simp; done) | (refine nF (flatL_map' ?_ _); intro x; simp; done) | (simp [NL1L, NL1]; done)) ?_ | refine nO ?_ | refine nlo_dead ?_ | refine nlo_iter ?_ | refine nlo_smap (by first | (refine nF ?_; simp; done) | (refine nF (flatL_map' ?_ _); intro x; simp; done) | (simp [NL1L, NL1]; done)) ?_))⟩, (by repeat (first | exact subL_nil | refine subL_cons (by first | exact imp_of rfl | exact imp_seq _ _ _ | exact imp_of (congrArg i64 (by first | (rw [i64w]; unfold wrap64; omega) | omega | (simp; done)))) ?_)), (by repeat (first | exact nls_nil | refine nls_cons (by first | (refine nl_flat ?_; simp; done) | (show _ < _; first | decide | (simp; done)) | (refine ⟨?_, flatL_map' ?_ _⟩ <;> first | decide | (intro x; simp; done) | (simp; done)) | (refine ⟨?_, ?_⟩ <;> first | decide | (simp; done)) | (simp [NL, NL1L, NL1]; done)) ?_))⟩⟩
   ·have hge : a.length ≤ k := by have := of_decide_eq_false hi2; omega
    refine W_exit ?_
    refine Ws ?_
    refine W_region rfl ?_
    refine We tG rfl rfl rfl trivial ?_
    refine Wn ?_
    refine Wq ?_
    refine lP rfl ?_
    exact congrArg boo (decide_eq_true (by have h1 := hk.2; rw [take_all' a k hge, take_all' b k (by omega)] at h1; exact h1)).symm
theorem ref_Hands (a b : List VHand) (ha : a.length ≤ 1000000) (hb : b.length ≤ 1000000) : PureC Tryz.prog 39 [sq cHand a, sq cHand b] (boo (decide (a = b))) := by
 refine pW tG (rs := [.tmp 4]) Tryz.func39 rfl rfl rfl (by simp) (by simp) (fun B => ?_)
 refine Ws ?_
 refine W_region rfl ?_
 refine We tG rfl rfl rfl trivial ?_
 refine Wn ?_
 iterate 2 refine Ws ?_
 refine W_region rfl ?_
 iterate 5 refine We tG rfl rfl rfl trivial ?_
 refine Wn ?_
 refine Wi rfl (fun hi1 => ?_) (fun hi1 => ?_)
 ·have hne : a ≠ b := fun h => by subst h; simp at hi1
  refine Ws ?_
  refine W_region rfl ?_
  refine We tG rfl rfl rfl trivial ?_
  refine Wn ?_
  refine Wq ?_
  refine lP rfl ?_
  exact congrArg boo (decide_eq_false hne).symm
 ·have hl : a.length = b.length := by (try simp only [dnL] at *); omega
  refine Wj ?_
  iterate 2 refine Ws ?_
  refine W_region rfl ?_
  refine We tG rfl rfl rfl trivial ?_
  refine Wn ?_
  refine Wl ?_
  show W _ _ _ _ _ _ _
  refine W_loopS (fun (k : Nat) => [(0, sq cHand a), (1, sq cHand b), (5, i64 k)]) (fun (k : Nat) => []) (fun (k : Nat) => []) (fun (k : Nat) => k ≤ a.length ∧ a.take k = b.take k) (fun (k : Nat) => a.length - k) (0) (by first | exact trivial | omega | simp) [] ?_ ?_
  ·exact ⟨rfl, ⟨(by repeat (first | exact reBase_nil | refine rB (.inl rfl) ?_ | refine rB (.inr rfl) ?_)), (by repeat (first | exact reX_nil | refine rX rfl ?_ | refine rX (by refine congrArg (fun q => some (Ob.free q)) ?_; simp <;> omega) ?_)), (by decide), (by repeat (first | exact moved_nil | refine mC (.inl (Nat.le_of_ble_eq_true rfl)) ?_ | refine mC (.inr rfl) ?_)), (by repeat (first | exact nlo_nil | exact nO nlo_nil | refine nlo_cells (by first | (refine nF ?_; simp; done) | (refine nF (flatL_map' ?_ _); intro x; simp; done) | (simp [NL1L, NL1]; done)) ?_ | refine nO ?_ | refine nlo_dead ?_ | refine nlo_iter ?_ | refine nlo_smap (by first | (refine nF ?_; simp; done) | (refine nF (flatL_map' ?_ _); intro x; simp; done) | (simp [NL1L, NL1]; done)) ?_))⟩, (by repeat (first | exact subL_nil | refine subL_cons (by first | exact imp_of rfl | exact imp_seq _ _ _ | exact imp_of (congrArg i64 (by first | (rw [i64w]; unfold wrap64; omega) | omega | (simp; done)))) ?_)), (by repeat (first | exact nls_nil | refine nls_cons (by first | (refine nl_flat ?_; simp; done) | (show _ < _; first | decide | (simp; done)) | (refine ⟨?_, flatL_map' ?_ _⟩ <;> first | decide | (intro x; simp; done) | (simp; done)) | (refine ⟨?_, ?_⟩ <;> first | decide | (simp; done)) | (simp [NL, NL1L, NL1]; done)) ?_))⟩
  ·intro k hk
   iterate 2 refine Ws ?_
   refine W_region rfl ?_
   iterate 4 refine We tG rfl rfl rfl trivial ?_
   refine Wn ?_
   refine Wi rfl (fun hi2 => ?_) (fun hi2 => ?_)
   ·have hlt : k < a.length := by have := of_decide_eq_true hi2; omega
    refine Wj ?_
    refine Ws ?_
    refine Wl ?_
    refine Ws ?_
    refine W_drawU [0, 0, 0, 1, 0, 0, 0, 1, 0] [0, 1, 2, 3, 4, 5, 6, 7, 8] mG rfl (by kernel_rfl) ?_
    refine Xe tG rfl rfl rfl rfl (fun _ => rfl) trivial ?_
    refine Xe tG rfl rfl rfl rfl (fun _ => rfl) trivial ?_
    first | refine Xi tG rfl rfl rfl rfl (fun _ => rfl) (by first | exact trivial | omega | (simp only [dnL] at *; omega) | (simp_all; done) | (simp_all; omega)) (iN cHand 4 (fun _ => rfl) default (by first | exact trivial | omega | (simp only [dnL] at *; omega) | (simp_all; done) | (simp_all; omega))) ?_ | refine Xi tG rfl rfl rfl rfl (fun _ => rfl) (by first | exact trivial | omega | (simp only [dnL] at *; omega) | (simp_all; done) | (simp_all; omega)) (iR cHand 4 (fun _ => rfl) default (by first | exact trivial | omega | (simp only [dnL] at *; omega) | (simp_all; done) | (simp_all; omega))) ?_
    refine Xf tG rfl rfl rfl rfl (fun _ => rfl) trivial ?_
    refine Xe tG rfl rfl rfl rfl (fun _ => rfl) trivial ?_
    refine Xe tG rfl rfl rfl rfl (fun _ => rfl) trivial ?_
    first | refine Xi tG rfl rfl rfl rfl (fun _ => rfl) (by first | exact trivial | omega | (simp only [dnL] at *; omega) | (simp_all; done) | (simp_all; omega)) (iN cHand 4 (fun _ => rfl) default (by first | exact trivial | omega | (simp only [dnL] at *; omega) | (simp_all; done) | (simp_all; omega))) ?_ | refine Xi tG rfl rfl rfl rfl (fun _ => rfl) (by first | exact trivial | omega | (simp only [dnL] at *; omega) | (simp_all; done) | (simp_all; omega)) (iR cHand 4 (fun _ => rfl) default (by first | exact trivial | omega | (simp only [dnL] at *; omega) | (simp_all; done) | (simp_all; omega))) ?_
    refine Xf tG rfl rfl rfl rfl (fun _ => rfl) trivial ?_
    refine WU_does0 rfl rfl rfl rfl (fun _ => does_struct_neq rfl rfl rfl rfl rfl (by kernel_rfl)) ?_
    refine WU_nil ?_
    refine Wi rfl (fun hi3 => ?_) (fun hi3 => ?_)
    ·have hne : a ≠ b := fun h => by have h1 := not_t hi3; rw [h] at h1; exact absurd ((hand_self _).symm.trans h1) (by simp)
     refine Ws ?_
     refine W_region rfl ?_
     refine We tG rfl rfl rfl trivial ?_
     refine Wn ?_
     refine Wq ?_
     refine lP rfl ?_
     exact congrArg boo (decide_eq_false hne).symm
    ·have he : a.getD k default = b.getD k default := hand_eq (not_f hi3)
     refine Wj ?_
     refine W_region rfl ?_
     iterate 3 refine We tG rfl rfl rfl trivial ?_
     refine Wn ?_
     exact ⟨k + 1, [], (by exact ⟨by omega, take_same default hl hlt hk.2 he⟩), (by omega), ⟨rfl, ⟨(by repeat (first | exact reBase_nil | refine rB (.inl rfl) ?_ | refine rB (.inr rfl) ?_)), (by repeat (first | exact reX_nil | refine rX rfl ?_ | refine rX (by refine congrArg (fun q => some (Ob.free q)) ?_; simp <;> omega) ?_)), (by decide), (by repeat (first | exact moved_nil | refine mC (.inl (Nat.le_of_ble_eq_true rfl)) ?_ | refine mC (.inr rfl) ?_)), (by repeat (first | exact nlo_nil | exact nO nlo_nil | refine nlo_cells (by first | (refine nF ?_; simp; done) | (refine nF (flatL_map' ?_ _); intro x; simp; done) | (simp [NL1L, NL1]; done)) ?_ | refine nO ?_ | refine nlo_dead ?_ | refine nlo_iter ?_ | refine nlo_smap (by first | (refine nF ?_; simp; done) | (refine nF (flatL_map' ?_ _); intro x; simp; done) | (simp [NL1L, NL1]; done)) ?_))⟩, (by repeat (first | exact subL_nil | refine subL_cons (by first | exact imp_of rfl | exact imp_seq _ _ _ | exact imp_of (congrArg i64 (by first | (rw [i64w]; unfold wrap64; omega) | omega | (simp; done)))) ?_)), (by repeat (first | exact nls_nil | refine nls_cons (by first | (refine nl_flat ?_; simp; done) | (show _ < _; first | decide | (simp; done)) | (refine ⟨?_, flatL_map' ?_ _⟩ <;> first | decide | (intro x; simp; done) | (simp; done)) | (refine ⟨?_, ?_⟩ <;> first | decide | (simp; done)) | (simp [NL, NL1L, NL1]; done)) ?_))⟩⟩
   ·have hge : a.length ≤ k := by have := of_decide_eq_false hi2; omega
    refine W_exit ?_
    refine Ws ?_
    refine W_region rfl ?_
    refine We tG rfl rfl rfl trivial ?_
    refine Wn ?_
    refine Wq ?_
    refine lP rfl ?_
    exact congrArg boo (decide_eq_true (by have h1 := hk.2; rw [take_all' a k hge, take_all' b k (by omega)] at h1; exact h1)).symm
theorem word_ext {x y : VWord} (h1 : x.name = y.name) (h2 : x.xt = y.xt) (h3 : x.flags = y.flags) : x = y := by cases x; cases y; simp_all
theorem ref_Same9 (a b : List VWord) (ha : a.length ≤ 1000000) (hb : b.length ≤ 1000000) : PureC Tryz.prog 36 [sq cWord a, sq cWord b] (boo (decide (a = b))) := by
 refine pW tG (rs := [.tmp 4]) Tryz.func36 rfl rfl rfl (by simp) (by simp) (fun B => ?_)
 refine Ws ?_
 refine W_region rfl ?_
 refine We tG rfl rfl rfl trivial ?_
 refine Wn ?_
 iterate 2 refine Ws ?_
 refine W_region rfl ?_
 iterate 5 refine We tG rfl rfl rfl trivial ?_
 refine Wn ?_
 refine Wi rfl (fun hi1 => ?_) (fun hi1 => ?_)
 ·have hne : a ≠ b := fun h => by subst h; simp at hi1
  refine Ws ?_
  refine W_region rfl ?_
  refine We tG rfl rfl rfl trivial ?_
  refine Wn ?_
  refine Wq ?_
  refine lP rfl ?_
  exact congrArg boo (decide_eq_false hne).symm
 ·have hl : a.length = b.length := by (try simp only [dnL] at *); omega
  refine Wj ?_
  iterate 2 refine Ws ?_
  refine W_region rfl ?_
  refine We tG rfl rfl rfl trivial ?_
  refine Wn ?_
  refine Wl ?_
  show W _ _ _ _ _ _ _
  refine W_loopS (fun (k : Nat) => [(0, sq cWord a), (1, sq cWord b), (5, i64 k)]) (fun (k : Nat) => []) (fun (k : Nat) => []) (fun (k : Nat) => k ≤ a.length ∧ a.take k = b.take k) (fun (k : Nat) => a.length - k) (0) (by first | exact trivial | omega | simp) [] ?_ ?_
  ·exact ⟨rfl, ⟨(by repeat (first | exact reBase_nil | refine rB (.inl rfl) ?_ | refine rB (.inr rfl) ?_)), (by repeat (first | exact reX_nil | refine rX rfl ?_ | refine rX (by refine congrArg (fun q => some (Ob.free q)) ?_; simp <;> omega) ?_)), (by decide), (by repeat (first | exact moved_nil | refine mC (.inl (Nat.le_of_ble_eq_true rfl)) ?_ | refine mC (.inr rfl) ?_)), (by repeat (first | exact nlo_nil | exact nO nlo_nil | refine nlo_cells (by first | (refine nF ?_; simp; done) | (refine nF (flatL_map' ?_ _); intro x; simp; done) | (simp [NL1L, NL1]; done)) ?_ | refine nO ?_ | refine nlo_dead ?_ | refine nlo_iter ?_ | refine nlo_smap (by first | (refine nF ?_; simp; done) | (refine nF (flatL_map' ?_ _); intro x; simp; done) | (simp [NL1L, NL1]; done)) ?_))⟩, (by repeat (first | exact subL_nil | refine subL_cons (by first | exact imp_of rfl | exact imp_seq _ _ _ | exact imp_of (congrArg i64 (by first | (rw [i64w]; unfold wrap64; omega) | omega | (simp; done)))) ?_)), (by repeat (first | exact nls_nil | refine nls_cons (by first | (refine nl_flat ?_; simp; done) | (show _ < _; first | decide | (simp; done)) | (refine ⟨?_, flatL_map' ?_ _⟩ <;> first | decide | (intro x; simp; done) | (simp; done)) | (refine ⟨?_, ?_⟩ <;> first | decide | (simp; done)) | (simp [NL, NL1L, NL1]; done)) ?_))⟩
  ·intro k hk
   iterate 2 refine Ws ?_
   refine W_region rfl ?_
   iterate 4 refine We tG rfl rfl rfl trivial ?_
   refine Wn ?_
   refine Wi rfl (fun hi2 => ?_) (fun hi2 => ?_)
   ·have hlt : k < a.length := by have := of_decide_eq_true hi2; omega
    refine Wj ?_
    refine Ws ?_
    refine Wl ?_
    refine Ws ?_
    refine W_drawU [0, 0, 0, 0, 1, 0, 0, 0, 0, 1, 0, 0, 0, 0, 0, 0, 1, 0, 0, 0, 0, 1, 0, 0, 0, 0, 0, 0, 0, 1, 0, 0, 0, 0, 1, 0, 0] [0, 1, 2, 3, 4, 5, 6, 7, 8, 9, 10, 11, 12, 13, 14, 15, 16, 17, 18, 19, 20, 21, 22, 23, 24, 25, 26, 27, 28, 29, 30, 31, 32, 33, 34, 35, 36] mG rfl (by kernel_rfl) ?_
    refine Xe tG rfl rfl rfl rfl (fun _ => rfl) trivial ?_
    refine Xe tG rfl rfl rfl rfl (fun _ => rfl) trivial ?_
    first | refine Xi tG rfl rfl rfl rfl (fun _ => rfl) (by first | exact trivial | omega | (simp only [dnL] at *; omega) | (simp_all; done) | (simp_all; omega)) (iN cWord 3 (fun _ => rfl) default (by first | exact trivial | omega | (simp only [dnL] at *; omega) | (simp_all; done) | (simp_all; omega))) ?_ | refine Xi tG rfl rfl rfl rfl (fun _ => rfl) (by first | exact trivial | omega | (simp only [dnL] at *; omega) | (simp_all; done) | (simp_all; omega)) (iR cWord 3 (fun _ => rfl) default (by first | exact trivial | omega | (simp only [dnL] at *; omega) | (simp_all; done) | (simp_all; omega))) ?_
    refine Xe tG rfl rfl rfl rfl (fun _ => rfl) trivial ?_
    refine Xf tG rfl rfl rfl rfl (fun _ => rfl) trivial ?_
    refine Xe tG rfl rfl rfl rfl (fun _ => rfl) trivial ?_
    refine Xe tG rfl rfl rfl rfl (fun _ => rfl) trivial ?_
    first | refine Xi tG rfl rfl rfl rfl (fun _ => rfl) (by first | exact trivial | omega | (simp only [dnL] at *; omega) | (simp_all; done) | (simp_all; omega)) (iN cWord 3 (fun _ => rfl) default (by first | exact trivial | omega | (simp only [dnL] at *; omega) | (simp_all; done) | (simp_all; omega))) ?_ | refine Xi tG rfl rfl rfl rfl (fun _ => rfl) (by first | exact trivial | omega | (simp only [dnL] at *; omega) | (simp_all; done) | (simp_all; omega)) (iR cWord 3 (fun _ => rfl) default (by first | exact trivial | omega | (simp only [dnL] at *; omega) | (simp_all; done) | (simp_all; omega))) ?_
    refine Xe tG rfl rfl rfl rfl (fun _ => rfl) trivial ?_
    refine Xf tG rfl rfl rfl rfl (fun _ => rfl) trivial ?_
    refine Xe tG rfl rfl rfl rfl (fun _ => rfl) trivial ?_
    refine Xa 27 rfl (str_neq _ _) ?_
    refine Xe tG rfl rfl rfl rfl (fun _ => rfl) trivial ?_
    refine WU_split 28 rfl (fun hg1 => ?_) (fun hg1 => ?_)
    ·have hne : a ≠ b := fun h => by have h1 := of_decide_eq_false (not_t hg1); rw [h] at h1; exact h1 rfl
     iterate 11 refine WU_skip rfl rfl rfl rfl ?_
     refine Xe tG rfl rfl rfl rfl (fun _ => rfl) trivial ?_
     refine Xe tG rfl rfl rfl rfl (fun _ => rfl) trivial ?_
     iterate 11 refine WU_skip rfl rfl rfl rfl ?_
     refine Xe tG rfl rfl rfl rfl (fun _ => rfl) trivial ?_
     refine WU_nil ?_
     refine Wt rfl rfl ?_
     refine Ws ?_
     refine W_region rfl ?_
     refine We tG rfl rfl rfl trivial ?_
     refine Wn ?_
     refine Wq ?_
     refine lP rfl ?_
     exact congrArg boo (decide_eq_false hne).symm
    ·have h1 : (a.getD k default).name = (b.getD k default).name := of_decide_eq_true (not_f hg1)
     refine Xe tG rfl rfl rfl rfl (fun _ => rfl) trivial ?_
     refine Xe tG rfl rfl rfl rfl (fun _ => rfl) trivial ?_
     first | refine Xi tG rfl rfl rfl rfl (fun _ => rfl) (by first | exact trivial | omega | (simp only [dnL] at *; omega) | (simp_all; done) | (simp_all; omega)) (iN cWord 3 (fun _ => rfl) default (by first | exact trivial | omega | (simp only [dnL] at *; omega) | (simp_all; done) | (simp_all; omega))) ?_ | refine Xi tG rfl rfl rfl rfl (fun _ => rfl) (by first | exact trivial | omega | (simp only [dnL] at *; omega) | (simp_all; done) | (simp_all; omega)) (iR cWord 3 (fun _ => rfl) default (by first | exact trivial | omega | (simp only [dnL] at *; omega) | (simp_all; done) | (simp_all; omega))) ?_
     refine Xe tG rfl rfl rfl rfl (fun _ => rfl) trivial ?_
     refine Xf tG rfl rfl rfl rfl (fun _ => rfl) trivial ?_
     refine Xe tG rfl rfl rfl rfl (fun _ => rfl) trivial ?_
     refine Xe tG rfl rfl rfl rfl (fun _ => rfl) trivial ?_
     first | refine Xi tG rfl rfl rfl rfl (fun _ => rfl) (by first | exact trivial | omega | (simp only [dnL] at *; omega) | (simp_all; done) | (simp_all; omega)) (iN cWord 3 (fun _ => rfl) default (by first | exact trivial | omega | (simp only [dnL] at *; omega) | (simp_all; done) | (simp_all; omega))) ?_ | refine Xi tG rfl rfl rfl rfl (fun _ => rfl) (by first | exact trivial | omega | (simp only [dnL] at *; omega) | (simp_all; done) | (simp_all; omega)) (iR cWord 3 (fun _ => rfl) default (by first | exact trivial | omega | (simp only [dnL] at *; omega) | (simp_all; done) | (simp_all; omega))) ?_
     refine Xe tG rfl rfl rfl rfl (fun _ => rfl) trivial ?_
     refine Xf tG rfl rfl rfl rfl (fun _ => rfl) trivial ?_
     refine Xe tG rfl rfl rfl rfl (fun _ => rfl) trivial ?_
     refine Xe tG rfl rfl rfl rfl (fun _ => rfl) trivial ?_
     refine Xe tG rfl rfl rfl rfl (fun _ => rfl) trivial ?_
     refine WU_split 41 rfl (fun hg2 => ?_) (fun hg2 => ?_)
     ·have hne : a ≠ b := fun h => by have h1 := bne_iff_ne.1 hg2; rw [h] at h1; exact h1 rfl
      iterate 11 refine WU_skip rfl rfl rfl rfl ?_
      refine Xe tG rfl rfl rfl rfl (fun _ => rfl) trivial ?_
      refine WU_nil ?_
      refine Wt rfl rfl ?_
      refine Ws ?_
      refine W_region rfl ?_
      refine We tG rfl rfl rfl trivial ?_
      refine Wn ?_
      refine Wq ?_
      refine lP rfl ?_
      exact congrArg boo (decide_eq_false hne).symm
     ·have h2 : (a.getD k default).xt = (b.getD k default).xt := bne_eq_false_iff_eq.1 hg2
      refine Xe tG rfl rfl rfl rfl (fun _ => rfl) trivial ?_
      refine Xe tG rfl rfl rfl rfl (fun _ => rfl) trivial ?_
      first | refine Xi tG rfl rfl rfl rfl (fun _ => rfl) (by first | exact trivial | omega | (simp only [dnL] at *; omega) | (simp_all; done) | (simp_all; omega)) (iN cWord 3 (fun _ => rfl) default (by first | exact trivial | omega | (simp only [dnL] at *; omega) | (simp_all; done) | (simp_all; omega))) ?_ | refine Xi tG rfl rfl rfl rfl (fun _ => rfl) (by first | exact trivial | omega | (simp only [dnL] at *; omega) | (simp_all; done) | (simp_all; omega)) (iR cWord 3 (fun _ => rfl) default (by first | exact trivial | omega | (simp only [dnL] at *; omega) | (simp_all; done) | (simp_all; omega))) ?_
      refine Xe tG rfl rfl rfl rfl (fun _ => rfl) trivial ?_
      refine Xf tG rfl rfl rfl rfl (fun _ => rfl) trivial ?_
      refine Xe tG rfl rfl rfl rfl (fun _ => rfl) trivial ?_
      refine Xe tG rfl rfl rfl rfl (fun _ => rfl) trivial ?_
      first | refine Xi tG rfl rfl rfl rfl (fun _ => rfl) (by first | exact trivial | omega | (simp only [dnL] at *; omega) | (simp_all; done) | (simp_all; omega)) (iN cWord 3 (fun _ => rfl) default (by first | exact trivial | omega | (simp only [dnL] at *; omega) | (simp_all; done) | (simp_all; omega))) ?_ | refine Xi tG rfl rfl rfl rfl (fun _ => rfl) (by first | exact trivial | omega | (simp only [dnL] at *; omega) | (simp_all; done) | (simp_all; omega)) (iR cWord 3 (fun _ => rfl) default (by first | exact trivial | omega | (simp only [dnL] at *; omega) | (simp_all; done) | (simp_all; omega))) ?_
      refine Xe tG rfl rfl rfl rfl (fun _ => rfl) trivial ?_
      refine Xf tG rfl rfl rfl rfl (fun _ => rfl) trivial ?_
      refine Xe tG rfl rfl rfl rfl (fun _ => rfl) trivial ?_
      refine Xe tG rfl rfl rfl rfl (fun _ => rfl) trivial ?_
      refine WU_nil ?_
      refine Wi rfl (fun hi3 => ?_) (fun hi3 => ?_)
      ·have hne : a ≠ b := fun h => by have h1 := bne_iff_ne.1 hi3; rw [h] at h1; exact h1 rfl
       refine Ws ?_
       refine W_region rfl ?_
       refine We tG rfl rfl rfl trivial ?_
       refine Wn ?_
       refine Wq ?_
       refine lP rfl ?_
       exact congrArg boo (decide_eq_false hne).symm
      ·have he : a.getD k default = b.getD k default := word_ext h1 h2 (bne_eq_false_iff_eq.1 hi3)
       refine Wj ?_
       refine W_region rfl ?_
       iterate 3 refine We tG rfl rfl rfl trivial ?_
       refine Wn ?_
       exact ⟨k + 1, [], (by exact ⟨by omega, take_same default hl hlt hk.2 he⟩), (by omega), ⟨rfl, ⟨(by repeat (first | exact reBase_nil | refine rB (.inl rfl) ?_ | refine rB (.inr rfl) ?_)), (by repeat (first | exact reX_nil | refine rX rfl ?_ | refine rX (by refine congrArg (fun q => some (Ob.free q)) ?_; simp <;> omega) ?_)), (by decide), (by repeat (first | exact moved_nil | refine mC (.inl (Nat.le_of_ble_eq_true rfl)) ?_ | refine mC (.inr rfl) ?_)), (by repeat (first | exact nlo_nil | exact nO nlo_nil | refine nlo_cells (by first | (refine nF ?_; simp; done) | (refine nF (flatL_map' ?_ _); intro x; simp; done) | (simp [NL1L, NL1]; done)) ?_ | refine nO ?_ | refine nlo_dead ?_ | refine nlo_iter ?_ | refine nlo_smap (by first | (refine nF ?_; simp; done) | (refine nF (flatL_map' ?_ _); intro x; simp; done) | (simp [NL1L, NL1]; done)) ?_))⟩, (by repeat (first | exact subL_nil | refine subL_cons (by first | exact imp_of rfl | exact imp_seq _ _ _ | exact imp_of (congrArg i64 (by first | (rw [i64w]; unfold wrap64; omega) | omega | (simp; done)))) ?_)), (by repeat (first | exact nls_nil | refine nls_cons (by first | (refine nl_flat ?_; simp; done) | (show _ < _; first | decide | (simp; done)) | (refine ⟨?_, flatL_map' ?_ _⟩ <;> first | decide | (intro x; simp; done) | (simp; done)) | (refine ⟨?_, ?_⟩ <;> first | decide | (simp; done)) | (simp [NL, NL1L, NL1]; done)) ?_))⟩⟩
   ·have hge : a.length ≤ k := by have := of_decide_eq_false hi2; omega
    refine W_exit ?_
    refine Ws ?_
    refine W_region rfl ?_
    refine We tG rfl rfl rfl trivial ?_
    refine Wn ?_
    refine Wq ?_
    refine lP rfl ?_
    exact congrArg boo (decide_eq_true (by have h1 := hk.2; rw [take_all' a k hge, take_all' b k (by omega)] at h1; exact h1)).symm
structure VSm (v : VVm) : Prop where
 old : v.mem.old.length ≤ 1000000
 d : v.d.length ≤ 1000000
 r : v.r.length ≤ 1000000
 f : v.f.length ≤ 1000000
 dict : v.dict.length ≤ 1000000
 req : v.req.length ≤ 1000000
 hand : v.hand.length ≤ 1000000
theorem vm_ext {a b : VVm} (h1 : a.conf = b.conf) (h2 : a.mem = b.mem) (h3 : a.here = b.here) (h4 : a.d = b.d) (h5 : a.r = b.r) (h6 : a.f = b.f) (h7 : a.dict = b.dict) (h8 : a.last = b.last) (h9 : a.out = b.out) (h10 : a.pic = b.pic) (h11 : a.req = b.req) (h12 : a.free = b.free) (h13 : a.next = b.next) (h14 : a.arg = b.arg) (h15 : a.self = b.self) (h16 : a.now = b.now) (h17 : a.hand = b.hand) : a = b := by
 cases a; cases b; simp only [VVm.mk.injEq]; exact ⟨h1, h2, h3, h4, h5, h6, h7, h8, h9, h10, h11, h12, h13, h14, h15, h16, h17⟩
theorem ref_Same10 (a b : VVm) (ha : VSm a) (hb : VSm b) : PureC Tryz.prog 18 [eVm a, eVm b] (boo (decide (a = b))) := by
 refine pW tG (rs := [.tmp 4]) Tryz.func18 rfl rfl rfl (by simp) (by simp) (fun B => ?_)
 refine Ws ?_
 refine W_region rfl ?_
 iterate 3 refine We tG rfl rfl rfl trivial ?_
 refine Wn ?_
 refine Ws ?_
 refine W_region rfl ?_
 iterate 4 refine We tG rfl rfl rfl trivial ?_
 refine Wc rfl rfl (dC rfl Tryz.func34 rfl rfl ((ref_Same3 a.mem b.mem ha.old hb.old) _)) ?_
 refine We tG rfl rfl rfl trivial ?_
 refine Wn ?_
 refine Ws ?_
 refine W_region rfl ?_
 iterate 4 refine We tG rfl rfl rfl trivial ?_
 refine Wc rfl rfl (dC rfl Tryz.func23 rfl rfl ((ref_Same4 a.d b.d ha.d hb.d) _)) ?_
 refine We tG rfl rfl rfl trivial ?_
 refine Wn ?_
 refine Ws ?_
 refine W_region rfl ?_
 iterate 4 refine We tG rfl rfl rfl trivial ?_
 refine Wc rfl rfl (dC rfl Tryz.func23 rfl rfl ((ref_Same4 a.r b.r ha.r hb.r) _)) ?_
 refine We tG rfl rfl rfl trivial ?_
 refine Wn ?_
 refine Ws ?_
 refine W_region rfl ?_
 iterate 4 refine We tG rfl rfl rfl trivial ?_
 refine Wc rfl rfl (dC rfl Tryz.func35 rfl rfl ((ref_frames a.f b.f ha.f hb.f) _)) ?_
 refine We tG rfl rfl rfl trivial ?_
 refine Wn ?_
 refine Ws ?_
 refine W_region rfl ?_
 iterate 4 refine We tG rfl rfl rfl trivial ?_
 refine Wc rfl rfl (dC rfl Tryz.func36 rfl rfl ((ref_Same9 a.dict b.dict ha.dict hb.dict) _)) ?_
 refine We tG rfl rfl rfl trivial ?_
 refine Wn ?_
 refine Ws ?_
 refine W_region rfl ?_
 iterate 4 refine We tG rfl rfl rfl trivial ?_
 refine Wc rfl rfl (dC rfl Tryz.func37 rfl rfl ((ref_Same7 a.pic b.pic) _)) ?_
 refine We tG rfl rfl rfl trivial ?_
 refine Wn ?_
 refine Ws ?_
 refine W_region rfl ?_
 iterate 4 refine We tG rfl rfl rfl trivial ?_
 refine Wc rfl rfl (dC rfl Tryz.func38 rfl rfl ((ref_Reqs a.req b.req ha.req hb.req) _)) ?_
 refine We tG rfl rfl rfl trivial ?_
 refine Wn ?_
 refine Ws ?_
 refine W_region rfl ?_
 iterate 4 refine We tG rfl rfl rfl trivial ?_
 refine Wc rfl rfl (dC rfl Tryz.func39 rfl rfl ((ref_Hands a.hand b.hand ha.hand hb.hand) _)) ?_
 refine We tG rfl rfl rfl trivial ?_
 refine Wn ?_
 iterate 2 refine Ws ?_
 refine W_region rfl ?_
 iterate 3 refine We tG rfl rfl rfl trivial ?_
 refine Wb 55 rfl (fun hg1 => ?_) (fun hg1 => ?_)
 ·have hne : a ≠ b := fun h => of_decide_eq_false (not_t hg1) (by rw [h])
  iterate 2 refine Wk rfl rfl ?_
  iterate 2 refine We tG rfl rfl rfl trivial ?_
  iterate 2 refine Wk rfl rfl ?_
  iterate 2 refine We tG rfl rfl rfl trivial ?_
  iterate 2 refine Wk rfl rfl ?_
  iterate 2 refine We tG rfl rfl rfl trivial ?_
  iterate 2 refine Wk rfl rfl ?_
  iterate 2 refine We tG rfl rfl rfl trivial ?_
  iterate 2 refine Wk rfl rfl ?_
  iterate 2 refine We tG rfl rfl rfl trivial ?_
  iterate 2 refine Wk rfl rfl ?_
  iterate 2 refine We tG rfl rfl rfl trivial ?_
  iterate 2 refine Wk rfl rfl ?_
  iterate 2 refine We tG rfl rfl rfl trivial ?_
  iterate 5 refine Wk rfl rfl ?_
  iterate 2 refine We tG rfl rfl rfl trivial ?_
  iterate 7 refine Wk rfl rfl ?_
  refine We tG rfl rfl rfl trivial ?_
  refine Wn ?_
  refine Wt rfl rfl ?_
  refine Ws ?_
  refine W_region rfl ?_
  refine We tG rfl rfl rfl trivial ?_
  refine Wn ?_
  refine Wq ?_
  refine lP rfl ?_
  first | exact congrArg boo (decide_eq_false hne).symm | (refine congrArg boo ?_; rw [Bool.eq_iff_iff, beq_iff_eq, decide_eq_true_eq]; exact ⟨fun q7 => vm_ext h9 h1 q1 h2 h3 h4 h5 q2 h10 h6 h7 q3 q4 q5 q6 q7 h8, fun h => by rw [h]⟩)
 ·have h1 := of_decide_eq_true (not_f hg1)
  iterate 4 refine We tG rfl rfl rfl trivial ?_
  refine Wb 59 rfl (fun hg2 => ?_) (fun hg2 => ?_)
  ·have hne : a ≠ b := fun h => of_decide_eq_false (not_t hg2) (by rw [h])
   iterate 2 refine Wk rfl rfl ?_
   iterate 2 refine We tG rfl rfl rfl trivial ?_
   iterate 2 refine Wk rfl rfl ?_
   iterate 2 refine We tG rfl rfl rfl trivial ?_
   iterate 2 refine Wk rfl rfl ?_
   iterate 2 refine We tG rfl rfl rfl trivial ?_
   iterate 2 refine Wk rfl rfl ?_
   iterate 2 refine We tG rfl rfl rfl trivial ?_
   iterate 2 refine Wk rfl rfl ?_
   iterate 2 refine We tG rfl rfl rfl trivial ?_
   iterate 2 refine Wk rfl rfl ?_
   iterate 2 refine We tG rfl rfl rfl trivial ?_
   iterate 5 refine Wk rfl rfl ?_
   iterate 2 refine We tG rfl rfl rfl trivial ?_
   iterate 7 refine Wk rfl rfl ?_
   refine We tG rfl rfl rfl trivial ?_
   refine Wn ?_
   refine Wt rfl rfl ?_
   refine Ws ?_
   refine W_region rfl ?_
   refine We tG rfl rfl rfl trivial ?_
   refine Wn ?_
   refine Wq ?_
   refine lP rfl ?_
   first | exact congrArg boo (decide_eq_false hne).symm | (refine congrArg boo ?_; rw [Bool.eq_iff_iff, beq_iff_eq, decide_eq_true_eq]; exact ⟨fun q7 => vm_ext h9 h1 q1 h2 h3 h4 h5 q2 h10 h6 h7 q3 q4 q5 q6 q7 h8, fun h => by rw [h]⟩)
  ·have h2 := of_decide_eq_true (not_f hg2)
   iterate 4 refine We tG rfl rfl rfl trivial ?_
   refine Wb 63 rfl (fun hg3 => ?_) (fun hg3 => ?_)
   ·have hne : a ≠ b := fun h => of_decide_eq_false (not_t hg3) (by rw [h])
    iterate 2 refine Wk rfl rfl ?_
    iterate 2 refine We tG rfl rfl rfl trivial ?_
    iterate 2 refine Wk rfl rfl ?_
    iterate 2 refine We tG rfl rfl rfl trivial ?_
    iterate 2 refine Wk rfl rfl ?_
    iterate 2 refine We tG rfl rfl rfl trivial ?_
    iterate 2 refine Wk rfl rfl ?_
    iterate 2 refine We tG rfl rfl rfl trivial ?_
    iterate 2 refine Wk rfl rfl ?_
    iterate 2 refine We tG rfl rfl rfl trivial ?_
    iterate 5 refine Wk rfl rfl ?_
    iterate 2 refine We tG rfl rfl rfl trivial ?_
    iterate 7 refine Wk rfl rfl ?_
    refine We tG rfl rfl rfl trivial ?_
    refine Wn ?_
    refine Wt rfl rfl ?_
    refine Ws ?_
    refine W_region rfl ?_
    refine We tG rfl rfl rfl trivial ?_
    refine Wn ?_
    refine Wq ?_
    refine lP rfl ?_
    first | exact congrArg boo (decide_eq_false hne).symm | (refine congrArg boo ?_; rw [Bool.eq_iff_iff, beq_iff_eq, decide_eq_true_eq]; exact ⟨fun q7 => vm_ext h9 h1 q1 h2 h3 h4 h5 q2 h10 h6 h7 q3 q4 q5 q6 q7 h8, fun h => by rw [h]⟩)
   ·have h3 := of_decide_eq_true (not_f hg3)
    iterate 4 refine We tG rfl rfl rfl trivial ?_
    refine Wb 67 rfl (fun hg4 => ?_) (fun hg4 => ?_)
    ·have hne : a ≠ b := fun h => of_decide_eq_false (not_t hg4) (by rw [h])
     iterate 2 refine Wk rfl rfl ?_
     iterate 2 refine We tG rfl rfl rfl trivial ?_
     iterate 2 refine Wk rfl rfl ?_
     iterate 2 refine We tG rfl rfl rfl trivial ?_
     iterate 2 refine Wk rfl rfl ?_
     iterate 2 refine We tG rfl rfl rfl trivial ?_
     iterate 2 refine Wk rfl rfl ?_
     iterate 2 refine We tG rfl rfl rfl trivial ?_
     iterate 5 refine Wk rfl rfl ?_
     iterate 2 refine We tG rfl rfl rfl trivial ?_
     iterate 7 refine Wk rfl rfl ?_
     refine We tG rfl rfl rfl trivial ?_
     refine Wn ?_
     refine Wt rfl rfl ?_
     refine Ws ?_
     refine W_region rfl ?_
     refine We tG rfl rfl rfl trivial ?_
     refine Wn ?_
     refine Wq ?_
     refine lP rfl ?_
     first | exact congrArg boo (decide_eq_false hne).symm | (refine congrArg boo ?_; rw [Bool.eq_iff_iff, beq_iff_eq, decide_eq_true_eq]; exact ⟨fun q7 => vm_ext h9 h1 q1 h2 h3 h4 h5 q2 h10 h6 h7 q3 q4 q5 q6 q7 h8, fun h => by rw [h]⟩)
    ·have h4 := of_decide_eq_true (not_f hg4)
     iterate 4 refine We tG rfl rfl rfl trivial ?_
     refine Wb 71 rfl (fun hg5 => ?_) (fun hg5 => ?_)
     ·have hne : a ≠ b := fun h => of_decide_eq_false (not_t hg5) (by rw [h])
      iterate 2 refine Wk rfl rfl ?_
      iterate 2 refine We tG rfl rfl rfl trivial ?_
      iterate 2 refine Wk rfl rfl ?_
      iterate 2 refine We tG rfl rfl rfl trivial ?_
      iterate 2 refine Wk rfl rfl ?_
      iterate 2 refine We tG rfl rfl rfl trivial ?_
      iterate 5 refine Wk rfl rfl ?_
      iterate 2 refine We tG rfl rfl rfl trivial ?_
      iterate 7 refine Wk rfl rfl ?_
      refine We tG rfl rfl rfl trivial ?_
      refine Wn ?_
      refine Wt rfl rfl ?_
      refine Ws ?_
      refine W_region rfl ?_
      refine We tG rfl rfl rfl trivial ?_
      refine Wn ?_
      refine Wq ?_
      refine lP rfl ?_
      first | exact congrArg boo (decide_eq_false hne).symm | (refine congrArg boo ?_; rw [Bool.eq_iff_iff, beq_iff_eq, decide_eq_true_eq]; exact ⟨fun q7 => vm_ext h9 h1 q1 h2 h3 h4 h5 q2 h10 h6 h7 q3 q4 q5 q6 q7 h8, fun h => by rw [h]⟩)
     ·have h5 := of_decide_eq_true (not_f hg5)
      iterate 4 refine We tG rfl rfl rfl trivial ?_
      refine Wb 75 rfl (fun hg6 => ?_) (fun hg6 => ?_)
      ·have hne : a ≠ b := fun h => of_decide_eq_false (not_t hg6) (by rw [h])
       iterate 2 refine Wk rfl rfl ?_
       iterate 2 refine We tG rfl rfl rfl trivial ?_
       iterate 2 refine Wk rfl rfl ?_
       iterate 2 refine We tG rfl rfl rfl trivial ?_
       iterate 5 refine Wk rfl rfl ?_
       iterate 2 refine We tG rfl rfl rfl trivial ?_
       iterate 7 refine Wk rfl rfl ?_
       refine We tG rfl rfl rfl trivial ?_
       refine Wn ?_
       refine Wt rfl rfl ?_
       refine Ws ?_
       refine W_region rfl ?_
       refine We tG rfl rfl rfl trivial ?_
       refine Wn ?_
       refine Wq ?_
       refine lP rfl ?_
       first | exact congrArg boo (decide_eq_false hne).symm | (refine congrArg boo ?_; rw [Bool.eq_iff_iff, beq_iff_eq, decide_eq_true_eq]; exact ⟨fun q7 => vm_ext h9 h1 q1 h2 h3 h4 h5 q2 h10 h6 h7 q3 q4 q5 q6 q7 h8, fun h => by rw [h]⟩)
      ·have h6 := of_decide_eq_true (not_f hg6)
       iterate 4 refine We tG rfl rfl rfl trivial ?_
       refine Wb 79 rfl (fun hg7 => ?_) (fun hg7 => ?_)
       ·have hne : a ≠ b := fun h => of_decide_eq_false (not_t hg7) (by rw [h])
        iterate 2 refine Wk rfl rfl ?_
        iterate 2 refine We tG rfl rfl rfl trivial ?_
        iterate 5 refine Wk rfl rfl ?_
        iterate 2 refine We tG rfl rfl rfl trivial ?_
        iterate 7 refine Wk rfl rfl ?_
        refine We tG rfl rfl rfl trivial ?_
        refine Wn ?_
        refine Wt rfl rfl ?_
        refine Ws ?_
        refine W_region rfl ?_
        refine We tG rfl rfl rfl trivial ?_
        refine Wn ?_
        refine Wq ?_
        refine lP rfl ?_
        first | exact congrArg boo (decide_eq_false hne).symm | (refine congrArg boo ?_; rw [Bool.eq_iff_iff, beq_iff_eq, decide_eq_true_eq]; exact ⟨fun q7 => vm_ext h9 h1 q1 h2 h3 h4 h5 q2 h10 h6 h7 q3 q4 q5 q6 q7 h8, fun h => by rw [h]⟩)
       ·have h7 := of_decide_eq_true (not_f hg7)
        iterate 4 refine We tG rfl rfl rfl trivial ?_
        refine Wb 83 rfl (fun hg8 => ?_) (fun hg8 => ?_)
        ·have hne : a ≠ b := fun h => of_decide_eq_false (not_t hg8) (by rw [h])
         iterate 5 refine Wk rfl rfl ?_
         iterate 2 refine We tG rfl rfl rfl trivial ?_
         iterate 7 refine Wk rfl rfl ?_
         refine We tG rfl rfl rfl trivial ?_
         refine Wn ?_
         refine Wt rfl rfl ?_
         refine Ws ?_
         refine W_region rfl ?_
         refine We tG rfl rfl rfl trivial ?_
         refine Wn ?_
         refine Wq ?_
         refine lP rfl ?_
         first | exact congrArg boo (decide_eq_false hne).symm | (refine congrArg boo ?_; rw [Bool.eq_iff_iff, beq_iff_eq, decide_eq_true_eq]; exact ⟨fun q7 => vm_ext h9 h1 q1 h2 h3 h4 h5 q2 h10 h6 h7 q3 q4 q5 q6 q7 h8, fun h => by rw [h]⟩)
        ·have h8 := of_decide_eq_true (not_f hg8)
         iterate 4 refine We tG rfl rfl rfl trivial ?_
         refine Wd rfl rfl (does_struct_neq rfl rfl rfl rfl rfl (by kernel_rfl)) ?_
         iterate 2 refine We tG rfl rfl rfl trivial ?_
         refine Wb 90 rfl (fun hg9 => ?_) (fun hg9 => ?_)
         ·have hne : a ≠ b := fun h => by have h1 := not_t hg9; rw [h] at h1; exact absurd ((conf_self _).symm.trans h1) (by simp)
          iterate 7 refine Wk rfl rfl ?_
          refine We tG rfl rfl rfl trivial ?_
          refine Wn ?_
          refine Wt rfl rfl ?_
          refine Ws ?_
          refine W_region rfl ?_
          refine We tG rfl rfl rfl trivial ?_
          refine Wn ?_
          refine Wq ?_
          refine lP rfl ?_
          first | exact congrArg boo (decide_eq_false hne).symm | (refine congrArg boo ?_; rw [Bool.eq_iff_iff, beq_iff_eq, decide_eq_true_eq]; exact ⟨fun q7 => vm_ext h9 h1 q1 h2 h3 h4 h5 q2 h10 h6 h7 q3 q4 q5 q6 q7 h8, fun h => by rw [h]⟩)
         ·have h9 : a.conf = b.conf := conf_eq (not_f hg9)
          iterate 2 refine We tG rfl rfl rfl trivial ?_
          first | refine Wd rfl rfl (does_bytes_str (lO tG rfl) rfl (lO tG rfl) rfl (lO tG rfl) rfl rfl rfl) ?_ | refine Wd rfl rfl (does_byte1_str (lO tG rfl) rfl (lO tG rfl) rfl (lO tG rfl) rfl rfl rfl) ?_
          iterate 2 refine We tG rfl rfl rfl trivial ?_
          first | refine Wd rfl rfl (does_bytes_str (lO tG rfl) rfl (lO tG rfl) rfl (lO tG rfl) rfl rfl rfl) ?_ | refine Wd rfl rfl (does_byte1_str (lO tG rfl) rfl (lO tG rfl) rfl (lO tG rfl) rfl rfl rfl) ?_
          refine We tG rfl rfl rfl trivial ?_
          refine Wa 97 rfl (str_neq _ _) ?_
          refine We tG rfl rfl rfl trivial ?_
          refine Wn ?_
          refine Wi rfl (fun hi1 => ?_) (fun hi1 => ?_)
          ·have hne : a ≠ b := fun h => of_decide_eq_false (not_t hi1) (by rw [h])
           refine Ws ?_
           refine W_region rfl ?_
           refine We tG rfl rfl rfl trivial ?_
           refine Wn ?_
           refine Wq ?_
           refine lP rfl ?_
           first | exact congrArg boo (decide_eq_false hne).symm | (refine congrArg boo ?_; rw [Bool.eq_iff_iff, beq_iff_eq, decide_eq_true_eq]; exact ⟨fun q7 => vm_ext h9 h1 q1 h2 h3 h4 h5 q2 h10 h6 h7 q3 q4 q5 q6 q7 h8, fun h => by rw [h]⟩)
          ·have h10 := of_decide_eq_true (not_f hi1)
           refine Wj ?_
           refine Ws ?_
           refine W_region rfl ?_
           iterate 6 refine We tG rfl rfl rfl trivial ?_
           refine Wb 104 rfl (fun hg10 => ?_) (fun hg10 => ?_)
           ·have q1 : a.here = b.here := beq_iff_eq.1 hg10
            iterate 7 refine We tG rfl rfl rfl trivial ?_
            refine Wb 111 rfl (fun hg11 => ?_) (fun hg11 => ?_)
            ·have q2 : a.last = b.last := beq_iff_eq.1 hg11
             iterate 7 refine We tG rfl rfl rfl trivial ?_
             refine Wb 118 rfl (fun hg12 => ?_) (fun hg12 => ?_)
             ·have q3 : a.free = b.free := beq_iff_eq.1 hg12
              iterate 7 refine We tG rfl rfl rfl trivial ?_
              refine Wb 125 rfl (fun hg13 => ?_) (fun hg13 => ?_)
              ·have q4 : a.next = b.next := beq_iff_eq.1 hg13
               iterate 7 refine We tG rfl rfl rfl trivial ?_
               refine Wb 132 rfl (fun hg14 => ?_) (fun hg14 => ?_)
               ·have q5 : a.arg = b.arg := beq_iff_eq.1 hg14
                iterate 7 refine We tG rfl rfl rfl trivial ?_
                refine Wb 139 rfl (fun hg15 => ?_) (fun hg15 => ?_)
                ·have q6 : a.self = b.self := beq_iff_eq.1 hg15
                 iterate 7 refine We tG rfl rfl rfl trivial ?_
                 refine Wn ?_
                 refine Wq ?_
                 refine lP rfl ?_
                 first | exact congrArg boo (decide_eq_false hne).symm | (refine congrArg boo ?_; rw [Bool.eq_iff_iff, beq_iff_eq, decide_eq_true_eq]; exact ⟨fun q7 => vm_ext h9 h1 q1 h2 h3 h4 h5 q2 h10 h6 h7 q3 q4 q5 q6 q7 h8, fun h => by rw [h]⟩)
                ·have hne : a ≠ b := fun h => beq_eq_false_iff_ne.1 hg15 (by rw [h])
                 iterate 5 refine Wk rfl rfl ?_
                 iterate 2 refine We tG rfl rfl rfl trivial ?_
                 refine Wn ?_
                 refine Wq ?_
                 refine lP rfl ?_
                 first | exact congrArg boo (decide_eq_false hne).symm | (refine congrArg boo ?_; rw [Bool.eq_iff_iff, beq_iff_eq, decide_eq_true_eq]; exact ⟨fun q7 => vm_ext h9 h1 q1 h2 h3 h4 h5 q2 h10 h6 h7 q3 q4 q5 q6 q7 h8, fun h => by rw [h]⟩)
               ·have hne : a ≠ b := fun h => beq_eq_false_iff_ne.1 hg14 (by rw [h])
                iterate 5 refine Wk rfl rfl ?_
                iterate 2 refine We tG rfl rfl rfl trivial ?_
                iterate 5 refine Wk rfl rfl ?_
                iterate 2 refine We tG rfl rfl rfl trivial ?_
                refine Wn ?_
                refine Wq ?_
                refine lP rfl ?_
                first | exact congrArg boo (decide_eq_false hne).symm | (refine congrArg boo ?_; rw [Bool.eq_iff_iff, beq_iff_eq, decide_eq_true_eq]; exact ⟨fun q7 => vm_ext h9 h1 q1 h2 h3 h4 h5 q2 h10 h6 h7 q3 q4 q5 q6 q7 h8, fun h => by rw [h]⟩)
              ·have hne : a ≠ b := fun h => beq_eq_false_iff_ne.1 hg13 (by rw [h])
               iterate 5 refine Wk rfl rfl ?_
               iterate 2 refine We tG rfl rfl rfl trivial ?_
               iterate 5 refine Wk rfl rfl ?_
               iterate 2 refine We tG rfl rfl rfl trivial ?_
               iterate 5 refine Wk rfl rfl ?_
               iterate 2 refine We tG rfl rfl rfl trivial ?_
               refine Wn ?_
               refine Wq ?_
               refine lP rfl ?_
               first | exact congrArg boo (decide_eq_false hne).symm | (refine congrArg boo ?_; rw [Bool.eq_iff_iff, beq_iff_eq, decide_eq_true_eq]; exact ⟨fun q7 => vm_ext h9 h1 q1 h2 h3 h4 h5 q2 h10 h6 h7 q3 q4 q5 q6 q7 h8, fun h => by rw [h]⟩)
             ·have hne : a ≠ b := fun h => beq_eq_false_iff_ne.1 hg12 (by rw [h])
              iterate 5 refine Wk rfl rfl ?_
              iterate 2 refine We tG rfl rfl rfl trivial ?_
              iterate 5 refine Wk rfl rfl ?_
              iterate 2 refine We tG rfl rfl rfl trivial ?_
              iterate 5 refine Wk rfl rfl ?_
              iterate 2 refine We tG rfl rfl rfl trivial ?_
              iterate 5 refine Wk rfl rfl ?_
              iterate 2 refine We tG rfl rfl rfl trivial ?_
              refine Wn ?_
              refine Wq ?_
              refine lP rfl ?_
              first | exact congrArg boo (decide_eq_false hne).symm | (refine congrArg boo ?_; rw [Bool.eq_iff_iff, beq_iff_eq, decide_eq_true_eq]; exact ⟨fun q7 => vm_ext h9 h1 q1 h2 h3 h4 h5 q2 h10 h6 h7 q3 q4 q5 q6 q7 h8, fun h => by rw [h]⟩)
            ·have hne : a ≠ b := fun h => beq_eq_false_iff_ne.1 hg11 (by rw [h])
             iterate 5 refine Wk rfl rfl ?_
             iterate 2 refine We tG rfl rfl rfl trivial ?_
             iterate 5 refine Wk rfl rfl ?_
             iterate 2 refine We tG rfl rfl rfl trivial ?_
             iterate 5 refine Wk rfl rfl ?_
             iterate 2 refine We tG rfl rfl rfl trivial ?_
             iterate 5 refine Wk rfl rfl ?_
             iterate 2 refine We tG rfl rfl rfl trivial ?_
             iterate 5 refine Wk rfl rfl ?_
             iterate 2 refine We tG rfl rfl rfl trivial ?_
             refine Wn ?_
             refine Wq ?_
             refine lP rfl ?_
             first | exact congrArg boo (decide_eq_false hne).symm | (refine congrArg boo ?_; rw [Bool.eq_iff_iff, beq_iff_eq, decide_eq_true_eq]; exact ⟨fun q7 => vm_ext h9 h1 q1 h2 h3 h4 h5 q2 h10 h6 h7 q3 q4 q5 q6 q7 h8, fun h => by rw [h]⟩)
           ·have hne : a ≠ b := fun h => beq_eq_false_iff_ne.1 hg10 (by rw [h])
            iterate 5 refine Wk rfl rfl ?_
            iterate 2 refine We tG rfl rfl rfl trivial ?_
            iterate 5 refine Wk rfl rfl ?_
            iterate 2 refine We tG rfl rfl rfl trivial ?_
            iterate 5 refine Wk rfl rfl ?_
            iterate 2 refine We tG rfl rfl rfl trivial ?_
            iterate 5 refine Wk rfl rfl ?_
            iterate 2 refine We tG rfl rfl rfl trivial ?_
            iterate 5 refine Wk rfl rfl ?_
            iterate 2 refine We tG rfl rfl rfl trivial ?_
            iterate 5 refine Wk rfl rfl ?_
            iterate 2 refine We tG rfl rfl rfl trivial ?_
            refine Wn ?_
            refine Wq ?_
            refine lP rfl ?_
            first | exact congrArg boo (decide_eq_false hne).symm | (refine congrArg boo ?_; rw [Bool.eq_iff_iff, beq_iff_eq, decide_eq_true_eq]; exact ⟨fun q7 => vm_ext h9 h1 q1 h2 h3 h4 h5 q2 h10 h6 h7 q3 q4 q5 q6 q7 h8, fun h => by rw [h]⟩)
end Go.Proofs.YtphgdofmjpdhaaaGreat
namespace Go.Proofs.YtphgdofmjpdhaaaGreat
open Go.RowKit
set_option linter.unusedVariables false
set_option maxRecDepth 100000
set_option maxHeartbeats 4000000
def few3 (m : VMem) (most : Int) : Bool := decide ((m.b.length : Int) ≤ most ∧ m.old.length ≤ 60) && m.old.all (fun p => decide (p.old.length ≤ 200))
theorem ref_Few3 (m : VMem) (most : Int) (hb : m.b.length ≤ 9223372036854775807) (ho : m.old.length ≤ 9223372036854775807) : PureC Tryz.prog 45 [eMem m, i64 most] (boo (few3 m most)) := by
 refine pW tG (rs := [.tmp 4]) Tryz.func45 rfl rfl rfl (by simp) (by simp) (fun B => ?_)
 refine Ws ?_
 refine W_region rfl ?_
 iterate 2 refine We tG rfl rfl rfl trivial ?_
 refine Wn ?_
 iterate 2 refine Ws ?_
 refine W_region rfl ?_
 iterate 6 refine We tG rfl rfl rfl trivial ?_
 refine Wb 11 rfl (fun hg1 => ?_) (fun hg1 => ?_)
 ·have hno : ¬ ((m.b.length : Int) ≤ most ∧ m.old.length ≤ 60) := fun h => by have := of_decide_eq_true hg1; omega
  iterate 4 refine Wk rfl rfl ?_
  refine We tG rfl rfl rfl trivial ?_
  refine Wn ?_
  refine Wt rfl rfl ?_
  refine Ws ?_
  refine W_region rfl ?_
  refine We tG rfl rfl rfl trivial ?_
  refine Wn ?_
  refine Wq ?_
  refine lP rfl ?_
  exact congrArg boo (by rw [few3, decide_eq_false hno]; rfl)
 ·have h0 : ¬ (m.b.length : Int) > most := of_decide_eq_false hg1
  iterate 5 refine We tG rfl rfl rfl trivial ?_
  refine Wn ?_
  refine Wi rfl (fun hi1 => ?_) (fun hi1 => ?_)
  ·have hno : ¬ ((m.b.length : Int) ≤ most ∧ m.old.length ≤ 60) := fun h => by have := of_decide_eq_true hi1; omega
   refine Ws ?_
   refine W_region rfl ?_
   refine We tG rfl rfl rfl trivial ?_
   refine Wn ?_
   refine Wq ?_
   refine lP rfl ?_
   exact congrArg boo (by rw [few3, decide_eq_false hno]; rfl)
  ·have h1 : ¬ (m.old.length : Int) > 60 := of_decide_eq_false hi1
   have hyes : (m.b.length : Int) ≤ most ∧ m.old.length ≤ 60 := ⟨by omega, by omega⟩
   refine Wj ?_
   iterate 2 refine Ws ?_
   refine W_region rfl ?_
   refine We tG rfl rfl rfl trivial ?_
   refine Wn ?_
   refine Wl ?_
   show W _ _ _ _ _ _ _
   refine W_loopS (fun (k : Nat) => [(2, .ptr 0 0), (5, i64 k)]) (fun (k : Nat) => [.cells (cMem m) 27]) (fun (k : Nat) => []) (fun (k : Nat) => k ≤ m.old.length ∧ (m.old.take k).all (fun p => decide (p.old.length ≤ 200)) = true) (fun (k : Nat) => m.old.length - k) (0) (by first | exact trivial | omega | simp) [] ?_ ?_
   ·exact ⟨rfl, ⟨(by repeat (first | exact reBase_nil | refine rB (.inl rfl) ?_ | refine rB (.inr rfl) ?_)), (by repeat (first | exact reX_nil | refine rX rfl ?_ | refine rX (by refine congrArg (fun q => some (Ob.free q)) ?_; simp <;> omega) ?_)), (by decide), (by repeat (first | exact moved_nil | refine mC (.inl (Nat.le_of_ble_eq_true rfl)) ?_ | refine mC (.inr rfl) ?_)), (by repeat (first | exact nlo_nil | exact nO nlo_nil | refine nlo_cells (by first | (refine nF ?_; simp; done) | (refine nF (flatL_map' ?_ _); intro x; simp; done) | (simp [NL1L, NL1]; done)) ?_ | refine nO ?_ | refine nlo_dead ?_ | refine nlo_iter ?_ | refine nlo_smap (by first | (refine nF ?_; simp; done) | (refine nF (flatL_map' ?_ _); intro x; simp; done) | (simp [NL1L, NL1]; done)) ?_))⟩, (by repeat (first | exact subL_nil | refine subL_cons (by first | exact imp_of rfl | exact imp_seq _ _ _ | exact imp_of (congrArg i64 (by first | (rw [i64w]; unfold wrap64; omega) | omega | (simp; done)))) ?_)), (by repeat (first | exact nls_nil | refine nls_cons (by first | (refine nl_flat ?_; simp; done) | (show _ < _; first | decide | (simp; done)) | (refine ⟨?_, flatL_map' ?_ _⟩ <;> first | decide | (intro x; simp; done) | (simp; done)) | (refine ⟨?_, ?_⟩ <;> first | decide | (simp; done)) | (simp [NL, NL1L, NL1]; done)) ?_))⟩
   ·intro k hk
    iterate 2 refine Ws ?_
    refine W_region rfl ?_
    iterate 5 refine We tG rfl rfl rfl trivial ?_
    refine Wn ?_
    refine Wi rfl (fun hi2 => ?_) (fun hi2 => ?_)
    ·have hlt : k < m.old.length := by have := of_decide_eq_true hi2; omega
     refine Wj ?_
     refine Ws ?_
     refine Wl ?_
     refine Ws ?_
     refine W_region rfl ?_
     iterate 3 refine We tG rfl rfl rfl trivial ?_
     first | refine Wv tG rfl rfl rfl (by first | exact trivial | omega | (simp only [dnL] at *; omega) | (simp_all; done) | (simp_all; omega)) (iN cPatch 2 (fun _ => rfl) default (by first | exact trivial | omega | (simp only [dnL] at *; omega) | (simp_all; done) | (simp_all; omega))) ?_ | refine Wv tG rfl rfl rfl (by first | exact trivial | omega | (simp only [dnL] at *; omega) | (simp_all; done) | (simp_all; omega)) (iR cPatch 2 (fun _ => rfl) default (by first | exact trivial | omega | (simp only [dnL] at *; omega) | (simp_all; done) | (simp_all; omega))) ?_
     iterate 4 refine We tG rfl rfl rfl trivial ?_
     refine Wn ?_
     refine Wi rfl (fun hi3 => ?_) (fun hi3 => ?_)
     ·have hn : m.old.all (fun p => decide (p.old.length ≤ 200)) = false := all_no default hlt (decide_eq_false (by have := of_decide_eq_true hi3; omega))
      refine Ws ?_
      refine W_region rfl ?_
      refine We tG rfl rfl rfl trivial ?_
      refine Wn ?_
      refine Wq ?_
      refine lP rfl ?_
      exact congrArg boo (by rw [few3, hn, Bool.and_false])
     ·have hy : decide ((m.old.getD k default).old.length ≤ 200) = true := decide_eq_true (by have := of_decide_eq_false hi3; omega)
      refine Wj ?_
      refine W_region rfl ?_
      iterate 3 refine We tG rfl rfl rfl trivial ?_
      refine Wn ?_
      exact ⟨k + 1, [], (by exact ⟨by omega, all_snoc default hlt hk.2 hy⟩), (by omega), ⟨rfl, ⟨(by repeat (first | exact reBase_nil | refine rB (.inl rfl) ?_ | refine rB (.inr rfl) ?_)), (by repeat (first | exact reX_nil | refine rX rfl ?_ | refine rX (by refine congrArg (fun q => some (Ob.free q)) ?_; simp <;> omega) ?_)), (by decide), (by repeat (first | exact moved_nil | refine mC (.inl (Nat.le_of_ble_eq_true rfl)) ?_ | refine mC (.inr rfl) ?_)), (by repeat (first | exact nlo_nil | exact nO nlo_nil | refine nlo_cells (by first | (refine nF ?_; simp; done) | (refine nF (flatL_map' ?_ _); intro x; simp; done) | (simp [NL1L, NL1]; done)) ?_ | refine nO ?_ | refine nlo_dead ?_ | refine nlo_iter ?_ | refine nlo_smap (by first | (refine nF ?_; simp; done) | (refine nF (flatL_map' ?_ _); intro x; simp; done) | (simp [NL1L, NL1]; done)) ?_))⟩, (by repeat (first | exact subL_nil | refine subL_cons (by first | exact imp_of rfl | exact imp_seq _ _ _ | exact imp_of (congrArg i64 (by first | (rw [i64w]; unfold wrap64; omega) | omega | (simp; done)))) ?_)), (by repeat (first | exact nls_nil | refine nls_cons (by first | (refine nl_flat ?_; simp; done) | (show _ < _; first | decide | (simp; done)) | (refine ⟨?_, flatL_map' ?_ _⟩ <;> first | decide | (intro x; simp; done) | (simp; done)) | (refine ⟨?_, ?_⟩ <;> first | decide | (simp; done)) | (simp [NL, NL1L, NL1]; done)) ?_))⟩⟩
    ·have hge : m.old.length ≤ k := by have := of_decide_eq_false hi2; omega
     have hall : m.old.all (fun p => decide (p.old.length ≤ 200)) = true := by have h1 := hk.2; rw [take_all' _ k hge] at h1; exact h1
     refine W_exit ?_
     refine Ws ?_
     refine W_region rfl ?_
     refine We tG rfl rfl rfl trivial ?_
     refine Wn ?_
     refine Wq ?_
     refine lP rfl ?_
     exact congrArg boo (by rw [few3, hall, decide_eq_true hyes]; rfl)
def namedS (s : Str) : Int := if s.length = 0 then -16 else if 31 < s.length then -19 else if s.all (fun c => decide (32 < c.toNat)) then 0 else -32
theorem ref_named (s : Str) : PureC Tryz.prog 76 [str s] (i64 (namedS s)) := by
 refine pW tG (rs := [.tmp 2]) Tryz.func76 rfl rfl rfl (by simp) (by simp) (fun B => ?_)
 refine Ws ?_
 refine W_region rfl ?_
 refine We tG rfl rfl rfl trivial ?_
 refine Wn ?_
 iterate 2 refine Ws ?_
 refine W_region rfl ?_
 iterate 2 refine We tG rfl rfl rfl trivial ?_
 refine Wa 5 rfl (str_len _) ?_
 refine We tG rfl rfl rfl trivial ?_
 refine Wn ?_
 refine Wi rfl (fun hi1 => ?_) (fun hi1 => ?_)
 ·have h0 : s.length = 0 := by have := beq_iff_eq.1 hi1; omega
  refine Ws ?_
  refine W_region rfl ?_
  refine We tG rfl rfl rfl trivial ?_
  refine Wn ?_
  refine Wq ?_
  refine lP rfl ?_
  rw [namedS, if_pos h0]; rfl
 ·have h0 : ¬ s.length = 0 := by have := beq_eq_false_iff_ne.1 hi1; omega
  refine Wj ?_
  iterate 2 refine Ws ?_
  refine W_region rfl ?_
  iterate 2 refine We tG rfl rfl rfl trivial ?_
  refine Wa 8 rfl (str_len _) ?_
  refine We tG rfl rfl rfl trivial ?_
  refine Wn ?_
  refine Wi rfl (fun hi2 => ?_) (fun hi2 => ?_)
  ·have h1 : 31 < s.length := by have := of_decide_eq_true hi2; omega
   refine Ws ?_
   refine W_region rfl ?_
   refine We tG rfl rfl rfl trivial ?_
   refine Wn ?_
   refine Wq ?_
   refine lP rfl ?_
   rw [namedS, if_neg h0, if_pos h1]; rfl
  ·have h1 : ¬ 31 < s.length := by have := of_decide_eq_false hi2; omega
   refine Wj ?_
   iterate 2 refine Ws ?_
   refine W_region rfl ?_
   refine We tG rfl rfl rfl trivial ?_
   refine Wn ?_
   refine Wl ?_
   show W _ _ _ _ _ _ _
   refine W_loopS (fun (k : Nat) => [(0, str s), (3, i64 k)]) (fun (k : Nat) => []) (fun (k : Nat) => []) (fun (k : Nat) => k ≤ s.length ∧ (s.take k).all (fun c => decide (32 < c.toNat)) = true) (fun (k : Nat) => s.length - k) (0) (by first | exact trivial | omega | simp) [] ?_ ?_
   ·exact ⟨rfl, ⟨(by repeat (first | exact reBase_nil | refine rB (.inl rfl) ?_ | refine rB (.inr rfl) ?_)), (by repeat (first | exact reX_nil | refine rX rfl ?_ | refine rX (by refine congrArg (fun q => some (Ob.free q)) ?_; simp <;> omega) ?_)), (by decide), (by repeat (first | exact moved_nil | refine mC (.inl (Nat.le_of_ble_eq_true rfl)) ?_ | refine mC (.inr rfl) ?_)), (by repeat (first | exact nlo_nil | exact nO nlo_nil | refine nlo_cells (by first | (refine nF ?_; simp; done) | (refine nF (flatL_map' ?_ _); intro x; simp; done) | (simp [NL1L, NL1]; done)) ?_ | refine nO ?_ | refine nlo_dead ?_ | refine nlo_iter ?_ | refine nlo_smap (by first | (refine nF ?_; simp; done) | (refine nF (flatL_map' ?_ _); intro x; simp; done) | (simp [NL1L, NL1]; done)) ?_))⟩, (by repeat (first | exact subL_nil | refine subL_cons (by first | exact imp_of rfl | exact imp_seq _ _ _ | exact imp_of (congrArg i64 (by first | (rw [i64w]; unfold wrap64; omega) | omega | (simp; done)))) ?_)), (by repeat (first | exact nls_nil | refine nls_cons (by first | (refine nl_flat ?_; simp; done) | (show _ < _; first | decide | (simp; done)) | (refine ⟨?_, flatL_map' ?_ _⟩ <;> first | decide | (intro x; simp; done) | (simp; done)) | (refine ⟨?_, ?_⟩ <;> first | decide | (simp; done)) | (simp [NL, NL1L, NL1]; done)) ?_))⟩
   ·intro k hk
    iterate 2 refine Ws ?_
    refine W_region rfl ?_
    iterate 3 refine We tG rfl rfl rfl trivial ?_
    refine Wa 12 rfl (str_len _) ?_
    refine We tG rfl rfl rfl trivial ?_
    refine Wn ?_
    refine Wi rfl (fun hi3 => ?_) (fun hi3 => ?_)
    ·have hlt : k < s.length := by have := of_decide_eq_true hi3; omega
     refine Wj ?_
     refine Ws ?_
     refine Wl ?_
     refine Ws ?_
     refine W_region rfl ?_
     iterate 2 refine We tG rfl rfl rfl trivial ?_
     refine We tG rfl rfl rfl (by simp only [str_size]; first | exact trivial | omega | (simp only [dnL] at *; omega) | (simp_all; done) | (simp_all; omega)) ?_
     first | refine Wa 18 rfl (str_byteN _ _) ?_ | refine Wa 18 rfl (str_byte _ _) ?_
     refine We tG rfl rfl rfl trivial ?_
     refine Wn ?_
     refine Wi rfl (fun hi4 => ?_) (fun hi4 => ?_)
     ·have hn : s.all (fun c => decide (32 < c.toNat)) = false := all_no 0 hlt (decide_eq_false (by have := of_decide_eq_true hi4; omega))
      refine Ws ?_
      refine W_region rfl ?_
      refine We tG rfl rfl rfl trivial ?_
      refine Wn ?_
      refine Wq ?_
      refine lP rfl ?_
      rw [namedS, if_neg h0, if_neg h1, hn]; rfl
     ·have hy : decide (32 < (s.getD k 0).toNat) = true := decide_eq_true (by have := of_decide_eq_false hi4; omega)
      refine Wj ?_
      refine W_region rfl ?_
      iterate 3 refine We tG rfl rfl rfl trivial ?_
      refine Wn ?_
      exact ⟨k + 1, [], (by exact ⟨by omega, all_snoc 0 hlt hk.2 hy⟩), (by omega), ⟨rfl, ⟨(by repeat (first | exact reBase_nil | refine rB (.inl rfl) ?_ | refine rB (.inr rfl) ?_)), (by repeat (first | exact reX_nil | refine rX rfl ?_ | refine rX (by refine congrArg (fun q => some (Ob.free q)) ?_; simp <;> omega) ?_)), (by decide), (by repeat (first | exact moved_nil | refine mC (.inl (Nat.le_of_ble_eq_true rfl)) ?_ | refine mC (.inr rfl) ?_)), (by repeat (first | exact nlo_nil | exact nO nlo_nil | refine nlo_cells (by first | (refine nF ?_; simp; done) | (refine nF (flatL_map' ?_ _); intro x; simp; done) | (simp [NL1L, NL1]; done)) ?_ | refine nO ?_ | refine nlo_dead ?_ | refine nlo_iter ?_ | refine nlo_smap (by first | (refine nF ?_; simp; done) | (refine nF (flatL_map' ?_ _); intro x; simp; done) | (simp [NL1L, NL1]; done)) ?_))⟩, (by repeat (first | exact subL_nil | refine subL_cons (by first | exact imp_of rfl | exact imp_seq _ _ _ | exact imp_of (congrArg i64 (by first | (rw [i64w]; unfold wrap64; omega) | omega | (simp; done)))) ?_)), (by repeat (first | exact nls_nil | refine nls_cons (by first | (refine nl_flat ?_; simp; done) | (show _ < _; first | decide | (simp; done)) | (refine ⟨?_, flatL_map' ?_ _⟩ <;> first | decide | (intro x; simp; done) | (simp; done)) | (refine ⟨?_, ?_⟩ <;> first | decide | (simp; done)) | (simp [NL, NL1L, NL1]; done)) ?_))⟩⟩
    ·have hge : s.length ≤ k := by have := of_decide_eq_false hi3; omega
     have hall : s.all (fun c => decide (32 < c.toNat)) = true := by have h1 := hk.2; rw [take_all' _ k hge] at h1; exact h1
     refine W_exit ?_
     refine Ws ?_
     refine W_region rfl ?_
     refine We tG rfl rfl rfl trivial ?_
     refine Wn ?_
     refine Wq ?_
     refine lP rfl ?_
     rw [namedS, if_neg h0, if_neg h1, hall]; rfl
def wordOk (w : VWord) : Bool := decide (namedS w.name = 0 ∧ 0 ≤ w.flags ∧ w.flags ≤ 7)
def right9 (l : List VWord) : Bool := l.all wordOk && decide (l.length ≤ 1024)
theorem ref_Right9 (l : List VWord) (hl : l.length ≤ 9223372036854775807) : PureC Tryz.prog 42 [sq cWord l] (boo (right9 l)) := by
 refine pW tG (rs := [.tmp 2]) Tryz.func42 rfl rfl rfl (by simp) (by simp) (fun B => ?_)
 refine Ws ?_
 refine W_region rfl ?_
 refine We tG rfl rfl rfl trivial ?_
 refine Wn ?_
 iterate 2 refine Ws ?_
 refine W_region rfl ?_
 refine We tG rfl rfl rfl trivial ?_
 refine Wn ?_
 refine Wl ?_
 show W _ _ _ _ _ _ _
 refine W_loopS (fun (k : Nat) => [(0, sq cWord l), (3, i64 k)]) (fun (k : Nat) => []) (fun (k : Nat) => []) (fun (k : Nat) => k ≤ l.length ∧ (l.take k).all wordOk = true) (fun (k : Nat) => l.length - k) (0) (by first | exact trivial | omega | simp) [] ?_ ?_
 ·exact ⟨rfl, ⟨(by repeat (first | exact reBase_nil | refine rB (.inl rfl) ?_ | refine rB (.inr rfl) ?_)), (by repeat (first | exact reX_nil | refine rX rfl ?_ | refine rX (by refine congrArg (fun q => some (Ob.free q)) ?_; simp <;> omega) ?_)), (by decide), (by repeat (first | exact moved_nil | refine mC (.inl (Nat.le_of_ble_eq_true rfl)) ?_ | refine mC (.inr rfl) ?_)), (by repeat (first | exact nlo_nil | exact nO nlo_nil | refine nlo_cells (by first | (refine nF ?_; simp; done) | (refine nF (flatL_map' ?_ _); intro x; simp; done) | (simp [NL1L, NL1]; done)) ?_ | refine nO ?_ | refine nlo_dead ?_ | refine nlo_iter ?_ | refine nlo_smap (by first | (refine nF ?_; simp; done) | (refine nF (flatL_map' ?_ _); intro x; simp; done) | (simp [NL1L, NL1]; done)) ?_))⟩, (by repeat (first | exact subL_nil | refine subL_cons (by first | exact imp_of rfl | exact imp_seq _ _ _ | exact imp_of (congrArg i64 (by first | (rw [i64w]; unfold wrap64; omega) | omega | (simp; done)))) ?_)), (by repeat (first | exact nls_nil | refine nls_cons (by first | (refine nl_flat ?_; simp; done) | (show _ < _; first | decide | (simp; done)) | (refine ⟨?_, flatL_map' ?_ _⟩ <;> first | decide | (intro x; simp; done) | (simp; done)) | (refine ⟨?_, ?_⟩ <;> first | decide | (simp; done)) | (simp [NL, NL1L, NL1]; done)) ?_))⟩
 ·intro k hk
  iterate 2 refine Ws ?_
  refine W_region rfl ?_
  iterate 4 refine We tG rfl rfl rfl trivial ?_
  refine Wn ?_
  refine Wi rfl (fun hi1 => ?_) (fun hi1 => ?_)
  ·have hlt : k < l.length := by have := of_decide_eq_true hi1; omega
   refine Wj ?_
   refine Ws ?_
   refine Wl ?_
   refine Ws ?_
   refine W_region rfl ?_
   iterate 2 refine We tG rfl rfl rfl trivial ?_
   first | refine Wv tG rfl rfl rfl (by first | exact trivial | omega | (simp only [dnL] at *; omega) | (simp_all; done) | (simp_all; omega)) (iN cWord 3 (fun _ => rfl) default (by first | exact trivial | omega | (simp only [dnL] at *; omega) | (simp_all; done) | (simp_all; omega))) ?_ | refine Wv tG rfl rfl rfl (by first | exact trivial | omega | (simp only [dnL] at *; omega) | (simp_all; done) | (simp_all; omega)) (iR cWord 3 (fun _ => rfl) default (by first | exact trivial | omega | (simp only [dnL] at *; omega) | (simp_all; done) | (simp_all; omega))) ?_
   iterate 2 refine We tG rfl rfl rfl trivial ?_
   refine Wc rfl rfl (dC rfl Tryz.func76 rfl rfl ((ref_named _) _)) ?_
   iterate 2 refine We tG rfl rfl rfl trivial ?_
   refine Wb 17 rfl (fun hg1 => ?_) (fun hg1 => ?_)
   ·have hn : l.all wordOk = false := all_no default hlt (decide_eq_false (fun h => by have := bne_iff_ne.1 hg1; omega))
    iterate 6 refine Wk rfl rfl ?_
    iterate 2 refine We tG rfl rfl rfl trivial ?_
    iterate 6 refine Wk rfl rfl ?_
    refine We tG rfl rfl rfl trivial ?_
    refine Wn ?_
    refine Wt rfl rfl ?_
    refine Ws ?_
    refine W_region rfl ?_
    refine We tG rfl rfl rfl trivial ?_
    refine Wn ?_
    refine Wq ?_
    refine lP rfl ?_
    exact congrArg boo (by rw [right9, hn]; rfl)
   ·have h0 : namedS (l.getD k default).name = 0 := bne_eq_false_iff_eq.1 hg1
    iterate 2 refine We tG rfl rfl rfl trivial ?_
    first | refine Wv tG rfl rfl rfl (by first | exact trivial | omega | (simp only [dnL] at *; omega) | (simp_all; done) | (simp_all; omega)) (iN cWord 3 (fun _ => rfl) default (by first | exact trivial | omega | (simp only [dnL] at *; omega) | (simp_all; done) | (simp_all; omega))) ?_ | refine Wv tG rfl rfl rfl (by first | exact trivial | omega | (simp only [dnL] at *; omega) | (simp_all; done) | (simp_all; omega)) (iR cWord 3 (fun _ => rfl) default (by first | exact trivial | omega | (simp only [dnL] at *; omega) | (simp_all; done) | (simp_all; omega))) ?_
    iterate 5 refine We tG rfl rfl rfl trivial ?_
    refine Wb 25 rfl (fun hg2 => ?_) (fun hg2 => ?_)
    ·have hn : l.all wordOk = false := all_no default hlt (decide_eq_false (fun h => by have := of_decide_eq_true hg2; omega))
     iterate 6 refine Wk rfl rfl ?_
     refine We tG rfl rfl rfl trivial ?_
     refine Wn ?_
     refine Wt rfl rfl ?_
     refine Ws ?_
     refine W_region rfl ?_
     refine We tG rfl rfl rfl trivial ?_
     refine Wn ?_
     refine Wq ?_
     refine lP rfl ?_
     exact congrArg boo (by rw [right9, hn]; rfl)
    ·have h1 := of_decide_eq_false hg2
     iterate 2 refine We tG rfl rfl rfl trivial ?_
     first | refine Wv tG rfl rfl rfl (by first | exact trivial | omega | (simp only [dnL] at *; omega) | (simp_all; done) | (simp_all; omega)) (iN cWord 3 (fun _ => rfl) default (by first | exact trivial | omega | (simp only [dnL] at *; omega) | (simp_all; done) | (simp_all; omega))) ?_ | refine Wv tG rfl rfl rfl (by first | exact trivial | omega | (simp only [dnL] at *; omega) | (simp_all; done) | (simp_all; omega)) (iR cWord 3 (fun _ => rfl) default (by first | exact trivial | omega | (simp only [dnL] at *; omega) | (simp_all; done) | (simp_all; omega))) ?_
     iterate 4 refine We tG rfl rfl rfl trivial ?_
     refine Wn ?_
     refine Wi rfl (fun hi2 => ?_) (fun hi2 => ?_)
     ·have hn : l.all wordOk = false := all_no default hlt (decide_eq_false (fun h => by have := of_decide_eq_true hi2; omega))
      refine Ws ?_
      refine W_region rfl ?_
      refine We tG rfl rfl rfl trivial ?_
      refine Wn ?_
      refine Wq ?_
      refine lP rfl ?_
      exact congrArg boo (by rw [right9, hn]; rfl)
     ·have hy : wordOk (l.getD k default) = true := decide_eq_true ⟨h0, by omega, by have := of_decide_eq_false hi2; omega⟩
      refine Wj ?_
      refine W_region rfl ?_
      iterate 3 refine We tG rfl rfl rfl trivial ?_
      refine Wn ?_
      exact ⟨k + 1, [], (by exact ⟨by omega, all_snoc default hlt hk.2 hy⟩), (by omega), ⟨rfl, ⟨(by repeat (first | exact reBase_nil | refine rB (.inl rfl) ?_ | refine rB (.inr rfl) ?_)), (by repeat (first | exact reX_nil | refine rX rfl ?_ | refine rX (by refine congrArg (fun q => some (Ob.free q)) ?_; simp <;> omega) ?_)), (by decide), (by repeat (first | exact moved_nil | refine mC (.inl (Nat.le_of_ble_eq_true rfl)) ?_ | refine mC (.inr rfl) ?_)), (by repeat (first | exact nlo_nil | exact nO nlo_nil | refine nlo_cells (by first | (refine nF ?_; simp; done) | (refine nF (flatL_map' ?_ _); intro x; simp; done) | (simp [NL1L, NL1]; done)) ?_ | refine nO ?_ | refine nlo_dead ?_ | refine nlo_iter ?_ | refine nlo_smap (by first | (refine nF ?_; simp; done) | (refine nF (flatL_map' ?_ _); intro x; simp; done) | (simp [NL1L, NL1]; done)) ?_))⟩, (by repeat (first | exact subL_nil | refine subL_cons (by first | exact imp_of rfl | exact imp_seq _ _ _ | exact imp_of (congrArg i64 (by first | (rw [i64w]; unfold wrap64; omega) | omega | (simp; done)))) ?_)), (by repeat (first | exact nls_nil | refine nls_cons (by first | (refine nl_flat ?_; simp; done) | (show _ < _; first | decide | (simp; done)) | (refine ⟨?_, flatL_map' ?_ _⟩ <;> first | decide | (intro x; simp; done) | (simp; done)) | (refine ⟨?_, ?_⟩ <;> first | decide | (simp; done)) | (simp [NL, NL1L, NL1]; done)) ?_))⟩⟩
  ·have hge : l.length ≤ k := by have := of_decide_eq_false hi1; omega
   have hall : l.all wordOk = true := by have h1 := hk.2; rw [take_all' _ k hge] at h1; exact h1
   refine W_exit ?_
   refine Ws ?_
   refine W_region rfl ?_
   iterate 4 refine We tG rfl rfl rfl trivial ?_
   refine Wn ?_
   refine Wq ?_
   refine lP rfl ?_
   exact congrArg boo (by rw [right9, hall, Bool.true_and, Bool.eq_iff_iff, decide_eq_true_eq, decide_eq_true_eq]; omega)
def few9 (l : List VWord) (most : Int) : Bool := decide ((l.length : Int) ≤ most) && l.all (fun w => decide (w.name.length ≤ 60))
theorem ref_Few9 (l : List VWord) (most : Int) (hl : l.length ≤ 9223372036854775807) : PureC Tryz.prog 46 [sq cWord l, i64 most] (boo (few9 l most)) := by
 refine pW tG (rs := [.tmp 4]) Tryz.func46 rfl rfl rfl (by simp) (by simp) (fun B => ?_)
 refine Ws ?_
 refine W_region rfl ?_
 refine We tG rfl rfl rfl trivial ?_
 refine Wn ?_
 iterate 2 refine Ws ?_
 refine W_region rfl ?_
 iterate 4 refine We tG rfl rfl rfl trivial ?_
 refine Wn ?_
 refine Wi rfl (fun hi1 => ?_) (fun hi1 => ?_)
 ·have hno : ¬ (l.length : Int) ≤ most := by have := of_decide_eq_true hi1; omega
  refine Ws ?_
  refine W_region rfl ?_
  refine We tG rfl rfl rfl trivial ?_
  refine Wn ?_
  refine Wq ?_
  refine lP rfl ?_
  exact congrArg boo (by rw [few9, decide_eq_false hno]; rfl)
 ·have hyes : (l.length : Int) ≤ most := by have := of_decide_eq_false hi1; omega
  refine Wj ?_
  iterate 2 refine Ws ?_
  refine W_region rfl ?_
  refine We tG rfl rfl rfl trivial ?_
  refine Wn ?_
  refine Wl ?_
  show W _ _ _ _ _ _ _
  refine W_loopS (fun (k : Nat) => [(0, sq cWord l), (5, i64 k)]) (fun (k : Nat) => []) (fun (k : Nat) => []) (fun (k : Nat) => k ≤ l.length ∧ (l.take k).all (fun w => decide (w.name.length ≤ 60)) = true) (fun (k : Nat) => l.length - k) (0) (by first | exact trivial | omega | simp) [] ?_ ?_
  ·exact ⟨rfl, ⟨(by repeat (first | exact reBase_nil | refine rB (.inl rfl) ?_ | refine rB (.inr rfl) ?_)), (by repeat (first | exact reX_nil | refine rX rfl ?_ | refine rX (by refine congrArg (fun q => some (Ob.free q)) ?_; simp <;> omega) ?_)), (by decide), (by repeat (first | exact moved_nil | refine mC (.inl (Nat.le_of_ble_eq_true rfl)) ?_ | refine mC (.inr rfl) ?_)), (by repeat (first | exact nlo_nil | exact nO nlo_nil | refine nlo_cells (by first | (refine nF ?_; simp; done) | (refine nF (flatL_map' ?_ _); intro x; simp; done) | (simp [NL1L, NL1]; done)) ?_ | refine nO ?_ | refine nlo_dead ?_ | refine nlo_iter ?_ | refine nlo_smap (by first | (refine nF ?_; simp; done) | (refine nF (flatL_map' ?_ _); intro x; simp; done) | (simp [NL1L, NL1]; done)) ?_))⟩, (by repeat (first | exact subL_nil | refine subL_cons (by first | exact imp_of rfl | exact imp_seq _ _ _ | exact imp_of (congrArg i64 (by first | (rw [i64w]; unfold wrap64; omega) | omega | (simp; done)))) ?_)), (by repeat (first | exact nls_nil | refine nls_cons (by first | (refine nl_flat ?_; simp; done) | (show _ < _; first | decide | (simp; done)) | (refine ⟨?_, flatL_map' ?_ _⟩ <;> first | decide | (intro x; simp; done) | (simp; done)) | (refine ⟨?_, ?_⟩ <;> first | decide | (simp; done)) | (simp [NL, NL1L, NL1]; done)) ?_))⟩
  ·intro k hk
   iterate 2 refine Ws ?_
   refine W_region rfl ?_
   iterate 4 refine We tG rfl rfl rfl trivial ?_
   refine Wn ?_
   refine Wi rfl (fun hi2 => ?_) (fun hi2 => ?_)
   ·have hlt : k < l.length := by have := of_decide_eq_true hi2; omega
    refine Wj ?_
    refine Ws ?_
    refine Wl ?_
    refine Ws ?_
    refine W_region rfl ?_
    iterate 2 refine We tG rfl rfl rfl trivial ?_
    first | refine Wv tG rfl rfl rfl (by first | exact trivial | omega | (simp only [dnL] at *; omega) | (simp_all; done) | (simp_all; omega)) (iN cWord 3 (fun _ => rfl) default (by first | exact trivial | omega | (simp only [dnL] at *; omega) | (simp_all; done) | (simp_all; omega))) ?_ | refine Wv tG rfl rfl rfl (by first | exact trivial | omega | (simp only [dnL] at *; omega) | (simp_all; done) | (simp_all; omega)) (iR cWord 3 (fun _ => rfl) default (by first | exact trivial | omega | (simp only [dnL] at *; omega) | (simp_all; done) | (simp_all; omega))) ?_
    iterate 3 refine We tG rfl rfl rfl trivial ?_
    refine Wa 21 rfl (str_len _) ?_
    refine We tG rfl rfl rfl trivial ?_
    refine Wn ?_
    refine Wi rfl (fun hi3 => ?_) (fun hi3 => ?_)
    ·have hn : l.all (fun w => decide (w.name.length ≤ 60)) = false := all_no default hlt (decide_eq_false (by have := of_decide_eq_true hi3; omega))
     refine Ws ?_
     refine W_region rfl ?_
     refine We tG rfl rfl rfl trivial ?_
     refine Wn ?_
     refine Wq ?_
     refine lP rfl ?_
     exact congrArg boo (by rw [few9, hn, Bool.and_false])
    ·have hy : decide ((l.getD k default).name.length ≤ 60) = true := decide_eq_true (by have := of_decide_eq_false hi3; omega)
     refine Wj ?_
     refine W_region rfl ?_
     iterate 3 refine We tG rfl rfl rfl trivial ?_
     refine Wn ?_
     exact ⟨k + 1, [], (by exact ⟨by omega, all_snoc default hlt hk.2 hy⟩), (by omega), ⟨rfl, ⟨(by repeat (first | exact reBase_nil | refine rB (.inl rfl) ?_ | refine rB (.inr rfl) ?_)), (by repeat (first | exact reX_nil | refine rX rfl ?_ | refine rX (by refine congrArg (fun q => some (Ob.free q)) ?_; simp <;> omega) ?_)), (by decide), (by repeat (first | exact moved_nil | refine mC (.inl (Nat.le_of_ble_eq_true rfl)) ?_ | refine mC (.inr rfl) ?_)), (by repeat (first | exact nlo_nil | exact nO nlo_nil | refine nlo_cells (by first | (refine nF ?_; simp; done) | (refine nF (flatL_map' ?_ _); intro x; simp; done) | (simp [NL1L, NL1]; done)) ?_ | refine nO ?_ | refine nlo_dead ?_ | refine nlo_iter ?_ | refine nlo_smap (by first | (refine nF ?_; simp; done) | (refine nF (flatL_map' ?_ _); intro x; simp; done) | (simp [NL1L, NL1]; done)) ?_))⟩, (by repeat (first | exact subL_nil | refine subL_cons (by first | exact imp_of rfl | exact imp_seq _ _ _ | exact imp_of (congrArg i64 (by first | (rw [i64w]; unfold wrap64; omega) | omega | (simp; done)))) ?_)), (by repeat (first | exact nls_nil | refine nls_cons (by first | (refine nl_flat ?_; simp; done) | (show _ < _; first | decide | (simp; done)) | (refine ⟨?_, flatL_map' ?_ _⟩ <;> first | decide | (intro x; simp; done) | (simp; done)) | (refine ⟨?_, ?_⟩ <;> first | decide | (simp; done)) | (simp [NL, NL1L, NL1]; done)) ?_))⟩⟩
   ·have hge : l.length ≤ k := by have := of_decide_eq_false hi2; omega
    have hall : l.all (fun w => decide (w.name.length ≤ 60)) = true := by have h1 := hk.2; rw [take_all' _ k hge] at h1; exact h1
    refine W_exit ?_
    refine Ws ?_
    refine W_region rfl ?_
    refine We tG rfl rfl rfl trivial ?_
    refine Wn ?_
    refine Wq ?_
    refine lP rfl ?_
    exact congrArg boo (by rw [few9, hall, decide_eq_true hyes]; rfl)
def few10 (v : VVm) : Bool := few3 v.mem 8192 && (few9 v.dict 300 && (decide (v.d.length ≤ 300) && (decide (v.r.length ≤ 300) && (decide (v.f.length ≤ 70) && (decide (v.out.length ≤ 5000) && (decide (v.pic.b.length ≤ 200) && (decide (v.req.length ≤ 20) && decide (v.hand.length ≤ 70))))))))
structure VIn (v : VVm) : Prop where
 b : v.mem.b.length ≤ 9223372036854775807
 old : v.mem.old.length ≤ 9223372036854775807
 dict : v.dict.length ≤ 9223372036854775807
 pt : ∀ p ∈ v.mem.old, (p.old.length = 0 ∨ Fit64 p.place) ∧ p.old.length ≤ 9223372036854775807
theorem dec_nat {a : Nat} {b : Int} (n : Nat) (hb : b = n) : decide ((a : Int) ≤ b) = decide (a ≤ n) := by subst hb; rw [Bool.eq_iff_iff, decide_eq_true_eq, decide_eq_true_eq]; omega
theorem ref_Few10 (v : VVm) (h : VIn v) : PureC Tryz.prog 24 [eVm v] (boo (few10 v)) := by
 refine pW tG (rs := [.tmp 2]) Tryz.func24 rfl rfl rfl (by simp) (by simp) (fun B => ?_)
 refine Ws ?_
 refine W_region rfl ?_
 iterate 2 refine We tG rfl rfl rfl trivial ?_
 refine Wn ?_
 refine Ws ?_
 refine W_region rfl ?_
 iterate 2 refine We tG rfl rfl rfl trivial ?_
 refine Wc rfl rfl (dC rfl Tryz.func45 rfl rfl ((ref_Few3 v.mem 8192 h.b h.old) _)) ?_
 refine We tG rfl rfl rfl trivial ?_
 refine Wn ?_
 refine Ws ?_
 refine W_region rfl ?_
 iterate 2 refine We tG rfl rfl rfl trivial ?_
 refine Wc rfl rfl (dC rfl Tryz.func46 rfl rfl ((ref_Few9 v.dict 300 h.dict) _)) ?_
 refine We tG rfl rfl rfl trivial ?_
 refine Wn ?_
 refine Ws ?_
 refine W_region rfl ?_
 iterate 2 refine We tG rfl rfl rfl trivial ?_
 refine Wb 12 rfl (fun hg1 => ?_) (fun hg1 => ?_)
 ·refine We tG rfl rfl rfl trivial ?_
  iterate 2 refine We tG rfl rfl rfl trivial ?_
  refine Wb 15 rfl (fun hg2 => ?_) (fun hg2 => ?_)
  ·refine We tG rfl rfl rfl trivial ?_
   iterate 3 refine We tG rfl rfl rfl trivial ?_
   refine Wa 19 rfl (congrArg (fun z => PV.val (Value.bool z)) (dec_nat 300 rfl)) ?_
   iterate 2 refine We tG rfl rfl rfl trivial ?_
   refine Wb 21 rfl (fun hg3 => ?_) (fun hg3 => ?_)
   ·refine We tG rfl rfl rfl trivial ?_
    iterate 3 refine We tG rfl rfl rfl trivial ?_
    refine Wa 25 rfl (congrArg (fun z => PV.val (Value.bool z)) (dec_nat 300 rfl)) ?_
    iterate 2 refine We tG rfl rfl rfl trivial ?_
    refine Wb 27 rfl (fun hg4 => ?_) (fun hg4 => ?_)
    ·refine We tG rfl rfl rfl trivial ?_
     iterate 3 refine We tG rfl rfl rfl trivial ?_
     refine Wa 31 rfl (congrArg (fun z => PV.val (Value.bool z)) (dec_nat 70 rfl)) ?_
     iterate 2 refine We tG rfl rfl rfl trivial ?_
     refine Wb 33 rfl (fun hg5 => ?_) (fun hg5 => ?_)
     ·refine We tG rfl rfl rfl trivial ?_
      iterate 3 refine We tG rfl rfl rfl trivial ?_
      refine Wa 37 rfl (congrArg (fun z => PV.val (Value.bool z)) (dec_nat 5000 rfl)) ?_
      iterate 2 refine We tG rfl rfl rfl trivial ?_
      refine Wb 39 rfl (fun hg6 => ?_) (fun hg6 => ?_)
      ·refine We tG rfl rfl rfl trivial ?_
       iterate 4 refine We tG rfl rfl rfl trivial ?_
       refine Wa 44 rfl (congrArg (fun z => PV.val (Value.bool z)) (dec_nat 200 rfl)) ?_
       iterate 2 refine We tG rfl rfl rfl trivial ?_
       refine Wb 46 rfl (fun hg7 => ?_) (fun hg7 => ?_)
       ·refine We tG rfl rfl rfl trivial ?_
        iterate 3 refine We tG rfl rfl rfl trivial ?_
        refine Wa 50 rfl (congrArg (fun z => PV.val (Value.bool z)) (dec_nat 20 rfl)) ?_
        iterate 2 refine We tG rfl rfl rfl trivial ?_
        refine Wb 52 rfl (fun hg8 => ?_) (fun hg8 => ?_)
        ·refine We tG rfl rfl rfl trivial ?_
         iterate 3 refine We tG rfl rfl rfl trivial ?_
         refine Wa 56 rfl (congrArg (fun z => PV.val (Value.bool z)) (dec_nat 70 rfl)) ?_
         iterate 2 refine We tG rfl rfl rfl trivial ?_
         refine Wn ?_
         refine Wq ?_
         refine lP rfl ?_
         exact congrArg boo (by rw [few10]; simp only [*, Bool.true_and, Bool.false_and])
        ·refine Wk rfl rfl ?_
         iterate 3 refine Wk rfl rfl ?_
         iterate 2 refine We tG rfl rfl rfl trivial ?_
         refine Wn ?_
         refine Wq ?_
         refine lP rfl ?_
         exact congrArg boo (by rw [few10]; simp only [*, Bool.true_and, Bool.false_and])
       ·refine Wk rfl rfl ?_
        iterate 3 refine Wk rfl rfl ?_
        iterate 2 refine We tG rfl rfl rfl trivial ?_
        iterate 4 refine Wk rfl rfl ?_
        iterate 2 refine We tG rfl rfl rfl trivial ?_
        refine Wn ?_
        refine Wq ?_
        refine lP rfl ?_
        exact congrArg boo (by rw [few10]; simp only [*, Bool.true_and, Bool.false_and])
      ·refine Wk rfl rfl ?_
       iterate 4 refine Wk rfl rfl ?_
       iterate 2 refine We tG rfl rfl rfl trivial ?_
       iterate 4 refine Wk rfl rfl ?_
       iterate 2 refine We tG rfl rfl rfl trivial ?_
       iterate 4 refine Wk rfl rfl ?_
       iterate 2 refine We tG rfl rfl rfl trivial ?_
       refine Wn ?_
       refine Wq ?_
       refine lP rfl ?_
       exact congrArg boo (by rw [few10]; simp only [*, Bool.true_and, Bool.false_and])
     ·refine Wk rfl rfl ?_
      iterate 3 refine Wk rfl rfl ?_
      iterate 2 refine We tG rfl rfl rfl trivial ?_
      iterate 5 refine Wk rfl rfl ?_
      iterate 2 refine We tG rfl rfl rfl trivial ?_
      iterate 4 refine Wk rfl rfl ?_
      iterate 2 refine We tG rfl rfl rfl trivial ?_
      iterate 4 refine Wk rfl rfl ?_
      iterate 2 refine We tG rfl rfl rfl trivial ?_
      refine Wn ?_
      refine Wq ?_
      refine lP rfl ?_
      exact congrArg boo (by rw [few10]; simp only [*, Bool.true_and, Bool.false_and])
    ·refine Wk rfl rfl ?_
     iterate 3 refine Wk rfl rfl ?_
     iterate 2 refine We tG rfl rfl rfl trivial ?_
     iterate 4 refine Wk rfl rfl ?_
     iterate 2 refine We tG rfl rfl rfl trivial ?_
     iterate 5 refine Wk rfl rfl ?_
     iterate 2 refine We tG rfl rfl rfl trivial ?_
     iterate 4 refine Wk rfl rfl ?_
     iterate 2 refine We tG rfl rfl rfl trivial ?_
     iterate 4 refine Wk rfl rfl ?_
     iterate 2 refine We tG rfl rfl rfl trivial ?_
     refine Wn ?_
     refine Wq ?_
     refine lP rfl ?_
     exact congrArg boo (by rw [few10]; simp only [*, Bool.true_and, Bool.false_and])
   ·refine Wk rfl rfl ?_
    iterate 3 refine Wk rfl rfl ?_
    iterate 2 refine We tG rfl rfl rfl trivial ?_
    iterate 4 refine Wk rfl rfl ?_
    iterate 2 refine We tG rfl rfl rfl trivial ?_
    iterate 4 refine Wk rfl rfl ?_
    iterate 2 refine We tG rfl rfl rfl trivial ?_
    iterate 5 refine Wk rfl rfl ?_
    iterate 2 refine We tG rfl rfl rfl trivial ?_
    iterate 4 refine Wk rfl rfl ?_
    iterate 2 refine We tG rfl rfl rfl trivial ?_
    iterate 4 refine Wk rfl rfl ?_
    iterate 2 refine We tG rfl rfl rfl trivial ?_
    refine Wn ?_
    refine Wq ?_
    refine lP rfl ?_
    exact congrArg boo (by rw [few10]; simp only [*, Bool.true_and, Bool.false_and])
  ·refine Wk rfl rfl ?_
   iterate 3 refine Wk rfl rfl ?_
   iterate 2 refine We tG rfl rfl rfl trivial ?_
   iterate 4 refine Wk rfl rfl ?_
   iterate 2 refine We tG rfl rfl rfl trivial ?_
   iterate 4 refine Wk rfl rfl ?_
   iterate 2 refine We tG rfl rfl rfl trivial ?_
   iterate 4 refine Wk rfl rfl ?_
   iterate 2 refine We tG rfl rfl rfl trivial ?_
   iterate 5 refine Wk rfl rfl ?_
   iterate 2 refine We tG rfl rfl rfl trivial ?_
   iterate 4 refine Wk rfl rfl ?_
   iterate 2 refine We tG rfl rfl rfl trivial ?_
   iterate 4 refine Wk rfl rfl ?_
   iterate 2 refine We tG rfl rfl rfl trivial ?_
   refine Wn ?_
   refine Wq ?_
   refine lP rfl ?_
   exact congrArg boo (by rw [few10]; simp only [*, Bool.true_and, Bool.false_and])
 ·refine Wk rfl rfl ?_
  iterate 2 refine We tG rfl rfl rfl trivial ?_
  iterate 4 refine Wk rfl rfl ?_
  iterate 2 refine We tG rfl rfl rfl trivial ?_
  iterate 4 refine Wk rfl rfl ?_
  iterate 2 refine We tG rfl rfl rfl trivial ?_
  iterate 4 refine Wk rfl rfl ?_
  iterate 2 refine We tG rfl rfl rfl trivial ?_
  iterate 4 refine Wk rfl rfl ?_
  iterate 2 refine We tG rfl rfl rfl trivial ?_
  iterate 5 refine Wk rfl rfl ?_
  iterate 2 refine We tG rfl rfl rfl trivial ?_
  iterate 4 refine Wk rfl rfl ?_
  iterate 2 refine We tG rfl rfl rfl trivial ?_
  iterate 4 refine Wk rfl rfl ?_
  iterate 2 refine We tG rfl rfl rfl trivial ?_
  refine Wn ?_
  refine Wq ?_
  refine lP rfl ?_
  exact congrArg boo (by rw [few10]; simp only [*, Bool.true_and, Bool.false_and])
end Go.Proofs.YtphgdofmjpdhaaaGreat
namespace Go.Proofs.YtphgdofmjpdhaaaGreat
open Go.RowKit
set_option linter.unusedVariables false
set_option maxRecDepth 100000
set_option maxHeartbeats 4000000
def rightA (v : VVm) : Bool := decide (fitsV v.conf ∧ memRight v.mem = true ∧ right9 v.dict = true ∧ picRight v.pic ∧ (v.mem.b.length : Int) = v.conf.mem ∧ 1368 ≤ v.here ∧ v.here ≤ v.conf.mem)
def frameOk (f : VFrame) : Bool := decide (0 ≤ f.d ∧ f.d ≤ 256 ∧ 0 ≤ f.r ∧ f.r ≤ 256)
def handOk (h : VHand) : Bool := decide (0 ≤ h.fuel)
def rightC (v : VVm) : Bool := decide ((v.d.length : Int) ≤ v.conf.data ∧ (v.r.length : Int) ≤ v.conf.ret ∧ v.f.length ≤ 64 ∧ (v.dict.length : Int) ≤ v.conf.words ∧ (v.out.length : Int) ≤ v.conf.out ∧ v.req.length ≤ 16 ∧ 0 ≤ v.free ∧ v.free ≤ 64 ∧ 0 ≤ v.next ∧ v.next ≤ 4611686018427387904 ∧ v.hand.length ≤ 64)
def right10 (v : VVm) : Bool := rightA v && (v.f.all frameOk && (v.hand.all handOk && rightC v))
structure VIn2 (v : VVm) : Prop extends VIn v where
 f : v.f.length ≤ 9223372036854775807
 hand : v.hand.length ≤ 9223372036854775807
theorem ref_Right10 (v : VVm) (h : VIn2 v) : PureC Tryz.prog 19 [eVm v] (boo (right10 v)) := by
 have e1 := h.f
 have e2 := h.hand
 refine pW tG (rs := [.tmp 2]) Tryz.func19 rfl rfl rfl (by simp) (by simp) (fun B => ?_)
 refine Ws ?_
 refine W_region rfl ?_
 iterate 2 refine We tG rfl rfl rfl trivial ?_
 refine Wn ?_
 refine Ws ?_
 refine W_region rfl ?_
 iterate 2 refine We tG rfl rfl rfl trivial ?_
 refine Wc rfl rfl (dC rfl Tryz.func40 rfl rfl ((ref_Fits v.conf) _)) ?_
 refine We tG rfl rfl rfl trivial ?_
 refine Wn ?_
 refine Ws ?_
 refine W_region rfl ?_
 iterate 2 refine We tG rfl rfl rfl trivial ?_
 refine Wc rfl rfl (dC rfl Tryz.func41 rfl rfl ((ref_Right3 v.mem h.b h.old h.pt) _)) ?_
 refine We tG rfl rfl rfl trivial ?_
 refine Wn ?_
 refine Ws ?_
 refine W_region rfl ?_
 iterate 2 refine We tG rfl rfl rfl trivial ?_
 refine Wc rfl rfl (dC rfl Tryz.func42 rfl rfl ((ref_Right9 v.dict h.dict) _)) ?_
 refine We tG rfl rfl rfl trivial ?_
 refine Wn ?_
 refine Ws ?_
 refine W_region rfl ?_
 iterate 2 refine We tG rfl rfl rfl trivial ?_
 refine Wc rfl rfl (dC rfl Tryz.func43 rfl rfl ((ref_Right7 v.pic) _)) ?_
 refine We tG rfl rfl rfl trivial ?_
 refine Wn ?_
 iterate 2 refine Ws ?_
 refine W_region rfl ?_
 iterate 3 refine We tG rfl rfl rfl trivial ?_
 refine Wb 23 rfl (fun hg1 => ?_) (fun hg1 => ?_)
 ·have hbad : rightA v = false := decide_eq_false (fun q => of_decide_eq_false (not_t hg1) q.1)
  iterate 2 refine Wk rfl rfl ?_
  iterate 2 refine We tG rfl rfl rfl trivial ?_
  iterate 2 refine Wk rfl rfl ?_
  iterate 2 refine We tG rfl rfl rfl trivial ?_
  iterate 2 refine Wk rfl rfl ?_
  iterate 2 refine We tG rfl rfl rfl trivial ?_
  iterate 8 refine Wk rfl rfl ?_
  iterate 2 refine We tG rfl rfl rfl trivial ?_
  iterate 3 refine Wk rfl rfl ?_
  iterate 2 refine We tG rfl rfl rfl trivial ?_
  iterate 6 refine Wk rfl rfl ?_
  refine We tG rfl rfl rfl trivial ?_
  refine Wn ?_
  refine Wt rfl rfl ?_
  refine Ws ?_
  refine W_region rfl ?_
  refine We tG rfl rfl rfl trivial ?_
  refine Wn ?_
  refine Wq ?_
  refine lP rfl ?_
  exact congrArg boo (by rw [right10, hbad]; rfl)
 ·have h1 : fitsV v.conf := of_decide_eq_true (not_f hg1)
  iterate 4 refine We tG rfl rfl rfl trivial ?_
  refine Wb 27 rfl (fun hg2 => ?_) (fun hg2 => ?_)
  ·have hbad : rightA v = false := decide_eq_false (fun q => by have := not_t hg2; rw [q.2.1] at this; cases this)
   iterate 2 refine Wk rfl rfl ?_
   iterate 2 refine We tG rfl rfl rfl trivial ?_
   iterate 2 refine Wk rfl rfl ?_
   iterate 2 refine We tG rfl rfl rfl trivial ?_
   iterate 8 refine Wk rfl rfl ?_
   iterate 2 refine We tG rfl rfl rfl trivial ?_
   iterate 3 refine Wk rfl rfl ?_
   iterate 2 refine We tG rfl rfl rfl trivial ?_
   iterate 6 refine Wk rfl rfl ?_
   refine We tG rfl rfl rfl trivial ?_
   refine Wn ?_
   refine Wt rfl rfl ?_
   refine Ws ?_
   refine W_region rfl ?_
   refine We tG rfl rfl rfl trivial ?_
   refine Wn ?_
   refine Wq ?_
   refine lP rfl ?_
   exact congrArg boo (by rw [right10, hbad]; rfl)
  ·have h2 : memRight v.mem = true := not_f hg2
   iterate 4 refine We tG rfl rfl rfl trivial ?_
   refine Wb 31 rfl (fun hg3 => ?_) (fun hg3 => ?_)
   ·have hbad : rightA v = false := decide_eq_false (fun q => by have := not_t hg3; rw [q.2.2.1] at this; cases this)
    iterate 2 refine Wk rfl rfl ?_
    iterate 2 refine We tG rfl rfl rfl trivial ?_
    iterate 8 refine Wk rfl rfl ?_
    iterate 2 refine We tG rfl rfl rfl trivial ?_
    iterate 3 refine Wk rfl rfl ?_
    iterate 2 refine We tG rfl rfl rfl trivial ?_
    iterate 6 refine Wk rfl rfl ?_
    refine We tG rfl rfl rfl trivial ?_
    refine Wn ?_
    refine Wt rfl rfl ?_
    refine Ws ?_
    refine W_region rfl ?_
    refine We tG rfl rfl rfl trivial ?_
    refine Wn ?_
    refine Wq ?_
    refine lP rfl ?_
    exact congrArg boo (by rw [right10, hbad]; rfl)
   ·have h3 : right9 v.dict = true := not_f hg3
    iterate 4 refine We tG rfl rfl rfl trivial ?_
    refine Wb 35 rfl (fun hg4 => ?_) (fun hg4 => ?_)
    ·have hbad : rightA v = false := decide_eq_false (fun q => of_decide_eq_false (not_t hg4) q.2.2.2.1)
     iterate 8 refine Wk rfl rfl ?_
     iterate 2 refine We tG rfl rfl rfl trivial ?_
     iterate 3 refine Wk rfl rfl ?_
     iterate 2 refine We tG rfl rfl rfl trivial ?_
     iterate 6 refine Wk rfl rfl ?_
     refine We tG rfl rfl rfl trivial ?_
     refine Wn ?_
     refine Wt rfl rfl ?_
     refine Ws ?_
     refine W_region rfl ?_
     refine We tG rfl rfl rfl trivial ?_
     refine Wn ?_
     refine Wq ?_
     refine lP rfl ?_
     exact congrArg boo (by rw [right10, hbad]; rfl)
    ·have h4 : picRight v.pic := of_decide_eq_true (not_f hg4)
     iterate 10 refine We tG rfl rfl rfl trivial ?_
     refine Wb 45 rfl (fun hg5 => ?_) (fun hg5 => ?_)
     ·have hbad : rightA v = false := decide_eq_false (fun q => bne_iff_ne.1 hg5 q.2.2.2.2.1)
      iterate 3 refine Wk rfl rfl ?_
      iterate 2 refine We tG rfl rfl rfl trivial ?_
      iterate 6 refine Wk rfl rfl ?_
      refine We tG rfl rfl rfl trivial ?_
      refine Wn ?_
      refine Wt rfl rfl ?_
      refine Ws ?_
      refine W_region rfl ?_
      refine We tG rfl rfl rfl trivial ?_
      refine Wn ?_
      refine Wq ?_
      refine lP rfl ?_
      exact congrArg boo (by rw [right10, hbad]; rfl)
     ·have h5 : (v.mem.b.length : Int) = v.conf.mem := bne_eq_false_iff_eq.1 hg5
      iterate 5 refine We tG rfl rfl rfl trivial ?_
      refine Wb 50 rfl (fun hg6 => ?_) (fun hg6 => ?_)
      ·have hbad : rightA v = false := decide_eq_false (fun q => by have := of_decide_eq_true hg6; omega)
       iterate 6 refine Wk rfl rfl ?_
       refine We tG rfl rfl rfl trivial ?_
       refine Wn ?_
       refine Wt rfl rfl ?_
       refine Ws ?_
       refine W_region rfl ?_
       refine We tG rfl rfl rfl trivial ?_
       refine Wn ?_
       refine Wq ?_
       refine lP rfl ?_
       exact congrArg boo (by rw [right10, hbad]; rfl)
      ·have h6 := of_decide_eq_false hg6
       iterate 7 refine We tG rfl rfl rfl trivial ?_
       refine Wn ?_
       refine Wi rfl (fun hi1 => ?_) (fun hi1 => ?_)
       ·have hbad : rightA v = false := decide_eq_false (fun q => by have := of_decide_eq_true hi1; omega)
        refine Ws ?_
        refine W_region rfl ?_
        refine We tG rfl rfl rfl trivial ?_
        refine Wn ?_
        refine Wq ?_
        refine lP rfl ?_
        exact congrArg boo (by rw [right10, hbad]; rfl)
       ·have hA : rightA v = true := decide_eq_true ⟨h1, h2, h3, h4, h5, by omega, by have := of_decide_eq_false hi1; omega⟩
        refine Wj ?_
        iterate 2 refine Ws ?_
        refine W_region rfl ?_
        refine We tG rfl rfl rfl trivial ?_
        refine Wn ?_
        refine Wl ?_
        show W _ _ _ _ _ _ _
        refine W_loopS (fun (k : Nat) => [(1, .ptr 0 0), (7, i64 k)]) (fun (k : Nat) => [.cells (cVm v) 36]) (fun (k : Nat) => []) (fun (k : Nat) => k ≤ v.f.length ∧ (v.f.take k).all frameOk = true) (fun (k : Nat) => v.f.length - k) (0) (by first | exact trivial | omega | simp) [] ?_ ?_
        ·exact ⟨rfl, ⟨(by repeat (first | exact reBase_nil | refine rB (.inl rfl) ?_ | refine rB (.inr rfl) ?_)), (by repeat (first | exact reX_nil | refine rX rfl ?_ | refine rX (by refine congrArg (fun q => some (Ob.free q)) ?_; simp <;> omega) ?_)), (by decide), (by repeat (first | exact moved_nil | refine mC (.inl (Nat.le_of_ble_eq_true rfl)) ?_ | refine mC (.inr rfl) ?_)), (by repeat (first | exact nlo_nil | exact nO nlo_nil | refine nlo_cells (by first | (refine nF ?_; simp; done) | (refine nF (flatL_map' ?_ _); intro x; simp; done) | (simp [NL1L, NL1]; done)) ?_ | refine nO ?_ | refine nlo_dead ?_ | refine nlo_iter ?_ | refine nlo_smap (by first | (refine nF ?_; simp; done) | (refine nF (flatL_map' ?_ _); intro x; simp; done) | (simp [NL1L, NL1]; done)) ?_))⟩, (by repeat (first | exact subL_nil | refine subL_cons (by first | exact imp_of rfl | exact imp_seq _ _ _ | exact imp_of (congrArg i64 (by first | (rw [i64w]; unfold wrap64; omega) | omega | (simp; done)))) ?_)), (by repeat (first | exact nls_nil | refine nls_cons (by first | (refine nl_flat ?_; simp; done) | (show _ < _; first | decide | (simp; done)) | (refine ⟨?_, flatL_map' ?_ _⟩ <;> first | decide | (intro x; simp; done) | (simp; done)) | (refine ⟨?_, ?_⟩ <;> first | decide | (simp; done)) | (simp [NL, NL1L, NL1]; done)) ?_))⟩
        ·intro k hk
         iterate 2 refine Ws ?_
         refine W_region rfl ?_
         iterate 5 refine We tG rfl rfl rfl trivial ?_
         refine Wn ?_
         refine Wi rfl (fun hi2 => ?_) (fun hi2 => ?_)
         ·have hlt : k < v.f.length := by have := of_decide_eq_true hi2; omega
          refine Wj ?_
          refine Ws ?_
          refine Wl ?_
          refine Ws ?_
          refine W_region rfl ?_
          iterate 3 refine We tG rfl rfl rfl trivial ?_
          first | refine Wv tG rfl rfl rfl (by first | exact trivial | omega | (simp only [dnL] at *; omega) | (simp_all; done) | (simp_all; omega)) (iN cFrame 3 (fun _ => rfl) default (by first | exact trivial | omega | (simp only [dnL] at *; omega) | (simp_all; done) | (simp_all; omega))) ?_ | refine Wv tG rfl rfl rfl (by first | exact trivial | omega | (simp only [dnL] at *; omega) | (simp_all; done) | (simp_all; omega)) (iR cFrame 3 (fun _ => rfl) default (by first | exact trivial | omega | (simp only [dnL] at *; omega) | (simp_all; done) | (simp_all; omega))) ?_
          iterate 4 refine We tG rfl rfl rfl trivial ?_
          refine Wb 72 rfl (fun hg7 => ?_) (fun hg7 => ?_)
          ·have hn : v.f.all frameOk = false := all_no default hlt (decide_eq_false (fun q => by have := of_decide_eq_true hg7; omega))
           iterate 7 refine Wk rfl rfl ?_
           iterate 2 refine We tG rfl rfl rfl trivial ?_
           iterate 7 refine Wk rfl rfl ?_
           iterate 2 refine We tG rfl rfl rfl trivial ?_
           iterate 7 refine Wk rfl rfl ?_
           refine We tG rfl rfl rfl trivial ?_
           refine Wn ?_
           refine Wt rfl rfl ?_
           refine Ws ?_
           refine W_region rfl ?_
           refine We tG rfl rfl rfl trivial ?_
           refine Wn ?_
           refine Wq ?_
           refine lP rfl ?_
           exact congrArg boo (by rw [right10, hA, hn]; rfl)
          ·have q1 := of_decide_eq_false hg7
           iterate 3 refine We tG rfl rfl rfl trivial ?_
           first | refine Wv tG rfl rfl rfl (by first | exact trivial | omega | (simp only [dnL] at *; omega) | (simp_all; done) | (simp_all; omega)) (iN cFrame 3 (fun _ => rfl) default (by first | exact trivial | omega | (simp only [dnL] at *; omega) | (simp_all; done) | (simp_all; omega))) ?_ | refine Wv tG rfl rfl rfl (by first | exact trivial | omega | (simp only [dnL] at *; omega) | (simp_all; done) | (simp_all; omega)) (iR cFrame 3 (fun _ => rfl) default (by first | exact trivial | omega | (simp only [dnL] at *; omega) | (simp_all; done) | (simp_all; omega))) ?_
           iterate 5 refine We tG rfl rfl rfl trivial ?_
           refine Wb 81 rfl (fun hg8 => ?_) (fun hg8 => ?_)
           ·have hn : v.f.all frameOk = false := all_no default hlt (decide_eq_false (fun q => by have := of_decide_eq_true hg8; omega))
            iterate 7 refine Wk rfl rfl ?_
            iterate 2 refine We tG rfl rfl rfl trivial ?_
            iterate 7 refine Wk rfl rfl ?_
            refine We tG rfl rfl rfl trivial ?_
            refine Wn ?_
            refine Wt rfl rfl ?_
            refine Ws ?_
            refine W_region rfl ?_
            refine We tG rfl rfl rfl trivial ?_
            refine Wn ?_
            refine Wq ?_
            refine lP rfl ?_
            exact congrArg boo (by rw [right10, hA, hn]; rfl)
           ·have q2 := of_decide_eq_false hg8
            iterate 3 refine We tG rfl rfl rfl trivial ?_
            first | refine Wv tG rfl rfl rfl (by first | exact trivial | omega | (simp only [dnL] at *; omega) | (simp_all; done) | (simp_all; omega)) (iN cFrame 3 (fun _ => rfl) default (by first | exact trivial | omega | (simp only [dnL] at *; omega) | (simp_all; done) | (simp_all; omega))) ?_ | refine Wv tG rfl rfl rfl (by first | exact trivial | omega | (simp only [dnL] at *; omega) | (simp_all; done) | (simp_all; omega)) (iR cFrame 3 (fun _ => rfl) default (by first | exact trivial | omega | (simp only [dnL] at *; omega) | (simp_all; done) | (simp_all; omega))) ?_
            iterate 5 refine We tG rfl rfl rfl trivial ?_
            refine Wb 90 rfl (fun hg9 => ?_) (fun hg9 => ?_)
            ·have hn : v.f.all frameOk = false := all_no default hlt (decide_eq_false (fun q => by have := of_decide_eq_true hg9; omega))
             iterate 7 refine Wk rfl rfl ?_
             refine We tG rfl rfl rfl trivial ?_
             refine Wn ?_
             refine Wt rfl rfl ?_
             refine Ws ?_
             refine W_region rfl ?_
             refine We tG rfl rfl rfl trivial ?_
             refine Wn ?_
             refine Wq ?_
             refine lP rfl ?_
             exact congrArg boo (by rw [right10, hA, hn]; rfl)
            ·have q3 := of_decide_eq_false hg9
             iterate 3 refine We tG rfl rfl rfl trivial ?_
             first | refine Wv tG rfl rfl rfl (by first | exact trivial | omega | (simp only [dnL] at *; omega) | (simp_all; done) | (simp_all; omega)) (iN cFrame 3 (fun _ => rfl) default (by first | exact trivial | omega | (simp only [dnL] at *; omega) | (simp_all; done) | (simp_all; omega))) ?_ | refine Wv tG rfl rfl rfl (by first | exact trivial | omega | (simp only [dnL] at *; omega) | (simp_all; done) | (simp_all; omega)) (iR cFrame 3 (fun _ => rfl) default (by first | exact trivial | omega | (simp only [dnL] at *; omega) | (simp_all; done) | (simp_all; omega))) ?_
             iterate 4 refine We tG rfl rfl rfl trivial ?_
             refine Wn ?_
             refine Wi rfl (fun hi3 => ?_) (fun hi3 => ?_)
             ·have hn : v.f.all frameOk = false := all_no default hlt (decide_eq_false (fun q => by have := of_decide_eq_true hi3; omega))
              refine Ws ?_
              refine W_region rfl ?_
              refine We tG rfl rfl rfl trivial ?_
              refine Wn ?_
              refine Wq ?_
              refine lP rfl ?_
              exact congrArg boo (by rw [right10, hA, hn]; rfl)
             ·have hy : frameOk (v.f.getD k default) = true := decide_eq_true ⟨by omega, by omega, by omega, by have := of_decide_eq_false hi3; omega⟩
              refine Wj ?_
              refine W_region rfl ?_
              iterate 3 refine We tG rfl rfl rfl trivial ?_
              refine Wn ?_
              exact ⟨k + 1, [], (by exact ⟨by omega, all_snoc default hlt hk.2 hy⟩), (by omega), ⟨rfl, ⟨(by repeat (first | exact reBase_nil | refine rB (.inl rfl) ?_ | refine rB (.inr rfl) ?_)), (by repeat (first | exact reX_nil | refine rX rfl ?_ | refine rX (by refine congrArg (fun q => some (Ob.free q)) ?_; simp <;> omega) ?_)), (by decide), (by repeat (first | exact moved_nil | refine mC (.inl (Nat.le_of_ble_eq_true rfl)) ?_ | refine mC (.inr rfl) ?_)), (by repeat (first | exact nlo_nil | exact nO nlo_nil | refine nlo_cells (by first | (refine nF ?_; simp; done) | (refine nF (flatL_map' ?_ _); intro x; simp; done) | (simp [NL1L, NL1]; done)) ?_ | refine nO ?_ | refine nlo_dead ?_ | refine nlo_iter ?_ | refine nlo_smap (by first | (refine nF ?_; simp; done) | (refine nF (flatL_map' ?_ _); intro x; simp; done) | (simp [NL1L, NL1]; done)) ?_))⟩, (by repeat (first | exact subL_nil | refine subL_cons (by first | exact imp_of rfl | exact imp_seq _ _ _ | exact imp_of (congrArg i64 (by first | (rw [i64w]; unfold wrap64; omega) | omega | (simp; done)))) ?_)), (by repeat (first | exact nls_nil | refine nls_cons (by first | (refine nl_flat ?_; simp; done) | (show _ < _; first | decide | (simp; done)) | (refine ⟨?_, flatL_map' ?_ _⟩ <;> first | decide | (intro x; simp; done) | (simp; done)) | (refine ⟨?_, ?_⟩ <;> first | decide | (simp; done)) | (simp [NL, NL1L, NL1]; done)) ?_))⟩⟩
         ·have hge : v.f.length ≤ k := by have := of_decide_eq_false hi2; omega
          have hF : v.f.all frameOk = true := by have h1 := hk.2; rw [take_all' _ k hge] at h1; exact h1
          refine W_exit ?_
          iterate 2 refine Ws ?_
          refine W_region rfl ?_
          refine We tG rfl rfl rfl trivial ?_
          refine Wn ?_
          refine Wl ?_
          show W _ _ _ _ _ _ _
          refine W_loopS (fun (j : Nat) => [(1, .ptr 0 0), (8, i64 j)]) (fun (j : Nat) => [.cells (cVm v) 36]) (fun (j : Nat) => []) (fun (j : Nat) => j ≤ v.hand.length ∧ (v.hand.take j).all handOk = true) (fun (j : Nat) => v.hand.length - j) (0) (by first | exact trivial | omega | simp) [] ?_ ?_
          ·exact ⟨rfl, ⟨(by repeat (first | exact reBase_nil | refine rB (.inl rfl) ?_ | refine rB (.inr rfl) ?_)), (by repeat (first | exact reX_nil | refine rX rfl ?_ | refine rX (by refine congrArg (fun q => some (Ob.free q)) ?_; simp <;> omega) ?_)), (by decide), (by repeat (first | exact moved_nil | refine mC (.inl (Nat.le_of_ble_eq_true rfl)) ?_ | refine mC (.inr rfl) ?_)), (by repeat (first | exact nlo_nil | exact nO nlo_nil | refine nlo_cells (by first | (refine nF ?_; simp; done) | (refine nF (flatL_map' ?_ _); intro x; simp; done) | (simp [NL1L, NL1]; done)) ?_ | refine nO ?_ | refine nlo_dead ?_ | refine nlo_iter ?_ | refine nlo_smap (by first | (refine nF ?_; simp; done) | (refine nF (flatL_map' ?_ _); intro x; simp; done) | (simp [NL1L, NL1]; done)) ?_))⟩, (by repeat (first | exact subL_nil | refine subL_cons (by first | exact imp_of rfl | exact imp_seq _ _ _ | exact imp_of (congrArg i64 (by first | (rw [i64w]; unfold wrap64; omega) | omega | (simp; done)))) ?_)), (by repeat (first | exact nls_nil | refine nls_cons (by first | (refine nl_flat ?_; simp; done) | (show _ < _; first | decide | (simp; done)) | (refine ⟨?_, flatL_map' ?_ _⟩ <;> first | decide | (intro x; simp; done) | (simp; done)) | (refine ⟨?_, ?_⟩ <;> first | decide | (simp; done)) | (simp [NL, NL1L, NL1]; done)) ?_))⟩
          ·intro j hj
           iterate 2 refine Ws ?_
           refine W_region rfl ?_
           iterate 5 refine We tG rfl rfl rfl trivial ?_
           refine Wn ?_
           refine Wi rfl (fun hi4 => ?_) (fun hi4 => ?_)
           ·have hlt : j < v.hand.length := by have := of_decide_eq_true hi4; omega
            refine Wj ?_
            refine Ws ?_
            refine Wl ?_
            refine Ws ?_
            refine W_region rfl ?_
            iterate 3 refine We tG rfl rfl rfl trivial ?_
            first | refine Wv tG rfl rfl rfl (by first | exact trivial | omega | (simp only [dnL] at *; omega) | (simp_all; done) | (simp_all; omega)) (iN cHand 4 (fun _ => rfl) default (by first | exact trivial | omega | (simp only [dnL] at *; omega) | (simp_all; done) | (simp_all; omega))) ?_ | refine Wv tG rfl rfl rfl (by first | exact trivial | omega | (simp only [dnL] at *; omega) | (simp_all; done) | (simp_all; omega)) (iR cHand 4 (fun _ => rfl) default (by first | exact trivial | omega | (simp only [dnL] at *; omega) | (simp_all; done) | (simp_all; omega))) ?_
            iterate 3 refine We tG rfl rfl rfl trivial ?_
            refine Wn ?_
            refine Wi rfl (fun hi5 => ?_) (fun hi5 => ?_)
            ·have hn : v.hand.all handOk = false := all_no default hlt (decide_eq_false (fun q => by have := of_decide_eq_true hi5; omega))
             refine Ws ?_
             refine W_region rfl ?_
             refine We tG rfl rfl rfl trivial ?_
             refine Wn ?_
             refine Wq ?_
             refine lP rfl ?_
             exact congrArg boo (by rw [right10, hA, hF, hn]; rfl)
            ·have hy : handOk (v.hand.getD j default) = true := decide_eq_true (by have := of_decide_eq_false hi5; omega)
             refine Wj ?_
             refine W_region rfl ?_
             iterate 3 refine We tG rfl rfl rfl trivial ?_
             refine Wn ?_
             exact ⟨j + 1, [], (by exact ⟨by omega, all_snoc default hlt hj.2 hy⟩), (by omega), ⟨rfl, ⟨(by repeat (first | exact reBase_nil | refine rB (.inl rfl) ?_ | refine rB (.inr rfl) ?_)), (by repeat (first | exact reX_nil | refine rX rfl ?_ | refine rX (by refine congrArg (fun q => some (Ob.free q)) ?_; simp <;> omega) ?_)), (by decide), (by repeat (first | exact moved_nil | refine mC (.inl (Nat.le_of_ble_eq_true rfl)) ?_ | refine mC (.inr rfl) ?_)), (by repeat (first | exact nlo_nil | exact nO nlo_nil | refine nlo_cells (by first | (refine nF ?_; simp; done) | (refine nF (flatL_map' ?_ _); intro x; simp; done) | (simp [NL1L, NL1]; done)) ?_ | refine nO ?_ | refine nlo_dead ?_ | refine nlo_iter ?_ | refine nlo_smap (by first | (refine nF ?_; simp; done) | (refine nF (flatL_map' ?_ _); intro x; simp; done) | (simp [NL1L, NL1]; done)) ?_))⟩, (by repeat (first | exact subL_nil | refine subL_cons (by first | exact imp_of rfl | exact imp_seq _ _ _ | exact imp_of (congrArg i64 (by first | (rw [i64w]; unfold wrap64; omega) | omega | (simp; done)))) ?_)), (by repeat (first | exact nls_nil | refine nls_cons (by first | (refine nl_flat ?_; simp; done) | (show _ < _; first | decide | (simp; done)) | (refine ⟨?_, flatL_map' ?_ _⟩ <;> first | decide | (intro x; simp; done) | (simp; done)) | (refine ⟨?_, ?_⟩ <;> first | decide | (simp; done)) | (simp [NL, NL1L, NL1]; done)) ?_))⟩⟩
           ·have hge : v.hand.length ≤ j := by have := of_decide_eq_false hi4; omega
            have hH : v.hand.all handOk = true := by have h1 := hj.2; rw [take_all' _ j hge] at h1; exact h1
            have hR : right10 v = rightC v := by rw [right10, hA, hF, hH]; rfl
            clear hA hF hH h1 h2 h3 h4 hk hj h
            refine W_exit ?_
            refine Ws ?_
            refine W_region rfl ?_
            iterate 8 refine We tG rfl rfl rfl trivial ?_
            refine Wb 120 rfl (fun hg10 => ?_) (fun hg10 => ?_)
            ·refine We tG rfl rfl rfl trivial ?_
             iterate 8 refine We tG rfl rfl rfl trivial ?_
             refine Wb 129 rfl (fun hg11 => ?_) (fun hg11 => ?_)
             ·refine We tG rfl rfl rfl trivial ?_
              iterate 5 refine We tG rfl rfl rfl trivial ?_
              refine Wb 135 rfl (fun hg12 => ?_) (fun hg12 => ?_)
              ·refine We tG rfl rfl rfl trivial ?_
               iterate 8 refine We tG rfl rfl rfl trivial ?_
               refine Wb 144 rfl (fun hg13 => ?_) (fun hg13 => ?_)
               ·refine We tG rfl rfl rfl trivial ?_
                iterate 8 refine We tG rfl rfl rfl trivial ?_
                refine Wb 153 rfl (fun hg14 => ?_) (fun hg14 => ?_)
                ·refine We tG rfl rfl rfl trivial ?_
                 iterate 5 refine We tG rfl rfl rfl trivial ?_
                 refine Wb 159 rfl (fun hg15 => ?_) (fun hg15 => ?_)
                 ·refine We tG rfl rfl rfl trivial ?_
                  iterate 4 refine We tG rfl rfl rfl trivial ?_
                  refine Wb 164 rfl (fun hg16 => ?_) (fun hg16 => ?_)
                  ·refine We tG rfl rfl rfl trivial ?_
                   iterate 4 refine We tG rfl rfl rfl trivial ?_
                   refine Wb 169 rfl (fun hg17 => ?_) (fun hg17 => ?_)
                   ·refine We tG rfl rfl rfl trivial ?_
                    iterate 4 refine We tG rfl rfl rfl trivial ?_
                    refine Wb 174 rfl (fun hg18 => ?_) (fun hg18 => ?_)
                    ·refine We tG rfl rfl rfl trivial ?_
                     iterate 4 refine We tG rfl rfl rfl trivial ?_
                     refine Wb 179 rfl (fun hg19 => ?_) (fun hg19 => ?_)
                     ·refine We tG rfl rfl rfl trivial ?_
                      iterate 5 refine We tG rfl rfl rfl trivial ?_
                      refine Wn ?_
                      refine Wq ?_
                      refine lP rfl ?_
                      refine congrArg boo ?_; rw [hR]; unfold rightC; rw [Bool.eq_iff_iff]; (try simp only [dnL] at *); omega
                     ·refine Wk rfl rfl ?_
                      iterate 3 refine Wk rfl rfl ?_
                      iterate 2 refine We tG rfl rfl rfl trivial ?_
                      refine Wn ?_
                      refine Wq ?_
                      refine lP rfl ?_
                      refine congrArg boo ?_; rw [hR]; unfold rightC; rw [Bool.eq_iff_iff]; (try simp only [dnL] at *); omega
                    ·refine Wk rfl rfl ?_
                     iterate 2 refine Wk rfl rfl ?_
                     iterate 2 refine We tG rfl rfl rfl trivial ?_
                     iterate 4 refine Wk rfl rfl ?_
                     iterate 2 refine We tG rfl rfl rfl trivial ?_
                     refine Wn ?_
                     refine Wq ?_
                     refine lP rfl ?_
                     refine congrArg boo ?_; rw [hR]; unfold rightC; rw [Bool.eq_iff_iff]; (try simp only [dnL] at *); omega
                   ·refine Wk rfl rfl ?_
                    iterate 2 refine Wk rfl rfl ?_
                    iterate 2 refine We tG rfl rfl rfl trivial ?_
                    iterate 3 refine Wk rfl rfl ?_
                    iterate 2 refine We tG rfl rfl rfl trivial ?_
                    iterate 4 refine Wk rfl rfl ?_
                    iterate 2 refine We tG rfl rfl rfl trivial ?_
                    refine Wn ?_
                    refine Wq ?_
                    refine lP rfl ?_
                    refine congrArg boo ?_; rw [hR]; unfold rightC; rw [Bool.eq_iff_iff]; (try simp only [dnL] at *); omega
                  ·refine Wk rfl rfl ?_
                   iterate 2 refine Wk rfl rfl ?_
                   iterate 2 refine We tG rfl rfl rfl trivial ?_
                   iterate 3 refine Wk rfl rfl ?_
                   iterate 2 refine We tG rfl rfl rfl trivial ?_
                   iterate 3 refine Wk rfl rfl ?_
                   iterate 2 refine We tG rfl rfl rfl trivial ?_
                   iterate 4 refine Wk rfl rfl ?_
                   iterate 2 refine We tG rfl rfl rfl trivial ?_
                   refine Wn ?_
                   refine Wq ?_
                   refine lP rfl ?_
                   refine congrArg boo ?_; rw [hR]; unfold rightC; rw [Bool.eq_iff_iff]; (try simp only [dnL] at *); omega
                 ·refine Wk rfl rfl ?_
                  iterate 2 refine Wk rfl rfl ?_
                  iterate 2 refine We tG rfl rfl rfl trivial ?_
                  iterate 3 refine Wk rfl rfl ?_
                  iterate 2 refine We tG rfl rfl rfl trivial ?_
                  iterate 3 refine Wk rfl rfl ?_
                  iterate 2 refine We tG rfl rfl rfl trivial ?_
                  iterate 3 refine Wk rfl rfl ?_
                  iterate 2 refine We tG rfl rfl rfl trivial ?_
                  iterate 4 refine Wk rfl rfl ?_
                  iterate 2 refine We tG rfl rfl rfl trivial ?_
                  refine Wn ?_
                  refine Wq ?_
                  refine lP rfl ?_
                  refine congrArg boo ?_; rw [hR]; unfold rightC; rw [Bool.eq_iff_iff]; (try simp only [dnL] at *); omega
                ·refine Wk rfl rfl ?_
                 iterate 3 refine Wk rfl rfl ?_
                 iterate 2 refine We tG rfl rfl rfl trivial ?_
                 iterate 3 refine Wk rfl rfl ?_
                 iterate 2 refine We tG rfl rfl rfl trivial ?_
                 iterate 3 refine Wk rfl rfl ?_
                 iterate 2 refine We tG rfl rfl rfl trivial ?_
                 iterate 3 refine Wk rfl rfl ?_
                 iterate 2 refine We tG rfl rfl rfl trivial ?_
                 iterate 3 refine Wk rfl rfl ?_
                 iterate 2 refine We tG rfl rfl rfl trivial ?_
                 iterate 4 refine Wk rfl rfl ?_
                 iterate 2 refine We tG rfl rfl rfl trivial ?_
                 refine Wn ?_
                 refine Wq ?_
                 refine lP rfl ?_
                 refine congrArg boo ?_; rw [hR]; unfold rightC; rw [Bool.eq_iff_iff]; (try simp only [dnL] at *); omega
               ·refine Wk rfl rfl ?_
                iterate 6 refine Wk rfl rfl ?_
                iterate 2 refine We tG rfl rfl rfl trivial ?_
                iterate 4 refine Wk rfl rfl ?_
                iterate 2 refine We tG rfl rfl rfl trivial ?_
                iterate 3 refine Wk rfl rfl ?_
                iterate 2 refine We tG rfl rfl rfl trivial ?_
                iterate 3 refine Wk rfl rfl ?_
                iterate 2 refine We tG rfl rfl rfl trivial ?_
                iterate 3 refine Wk rfl rfl ?_
                iterate 2 refine We tG rfl rfl rfl trivial ?_
                iterate 3 refine Wk rfl rfl ?_
                iterate 2 refine We tG rfl rfl rfl trivial ?_
                iterate 4 refine Wk rfl rfl ?_
                iterate 2 refine We tG rfl rfl rfl trivial ?_
                refine Wn ?_
                refine Wq ?_
                refine lP rfl ?_
                refine congrArg boo ?_; rw [hR]; unfold rightC; rw [Bool.eq_iff_iff]; (try simp only [dnL] at *); omega
              ·refine Wk rfl rfl ?_
               iterate 6 refine Wk rfl rfl ?_
               iterate 2 refine We tG rfl rfl rfl trivial ?_
               iterate 7 refine Wk rfl rfl ?_
               iterate 2 refine We tG rfl rfl rfl trivial ?_
               iterate 4 refine Wk rfl rfl ?_
               iterate 2 refine We tG rfl rfl rfl trivial ?_
               iterate 3 refine Wk rfl rfl ?_
               iterate 2 refine We tG rfl rfl rfl trivial ?_
               iterate 3 refine Wk rfl rfl ?_
               iterate 2 refine We tG rfl rfl rfl trivial ?_
               iterate 3 refine Wk rfl rfl ?_
               iterate 2 refine We tG rfl rfl rfl trivial ?_
               iterate 3 refine Wk rfl rfl ?_
               iterate 2 refine We tG rfl rfl rfl trivial ?_
               iterate 4 refine Wk rfl rfl ?_
               iterate 2 refine We tG rfl rfl rfl trivial ?_
               refine Wn ?_
               refine Wq ?_
               refine lP rfl ?_
               refine congrArg boo ?_; rw [hR]; unfold rightC; rw [Bool.eq_iff_iff]; (try simp only [dnL] at *); omega
             ·refine Wk rfl rfl ?_
              iterate 3 refine Wk rfl rfl ?_
              iterate 2 refine We tG rfl rfl rfl trivial ?_
              iterate 7 refine Wk rfl rfl ?_
              iterate 2 refine We tG rfl rfl rfl trivial ?_
              iterate 7 refine Wk rfl rfl ?_
              iterate 2 refine We tG rfl rfl rfl trivial ?_
              iterate 4 refine Wk rfl rfl ?_
              iterate 2 refine We tG rfl rfl rfl trivial ?_
              iterate 3 refine Wk rfl rfl ?_
              iterate 2 refine We tG rfl rfl rfl trivial ?_
              iterate 3 refine Wk rfl rfl ?_
              iterate 2 refine We tG rfl rfl rfl trivial ?_
              iterate 3 refine Wk rfl rfl ?_
              iterate 2 refine We tG rfl rfl rfl trivial ?_
              iterate 3 refine Wk rfl rfl ?_
              iterate 2 refine We tG rfl rfl rfl trivial ?_
              iterate 4 refine Wk rfl rfl ?_
              iterate 2 refine We tG rfl rfl rfl trivial ?_
              refine Wn ?_
              refine Wq ?_
              refine lP rfl ?_
              refine congrArg boo ?_; rw [hR]; unfold rightC; rw [Bool.eq_iff_iff]; (try simp only [dnL] at *); omega
            ·refine Wk rfl rfl ?_
             iterate 6 refine Wk rfl rfl ?_
             iterate 2 refine We tG rfl rfl rfl trivial ?_
             iterate 4 refine Wk rfl rfl ?_
             iterate 2 refine We tG rfl rfl rfl trivial ?_
             iterate 7 refine Wk rfl rfl ?_
             iterate 2 refine We tG rfl rfl rfl trivial ?_
             iterate 7 refine Wk rfl rfl ?_
             iterate 2 refine We tG rfl rfl rfl trivial ?_
             iterate 4 refine Wk rfl rfl ?_
             iterate 2 refine We tG rfl rfl rfl trivial ?_
             iterate 3 refine Wk rfl rfl ?_
             iterate 2 refine We tG rfl rfl rfl trivial ?_
             iterate 3 refine Wk rfl rfl ?_
             iterate 2 refine We tG rfl rfl rfl trivial ?_
             iterate 3 refine Wk rfl rfl ?_
             iterate 2 refine We tG rfl rfl rfl trivial ?_
             iterate 3 refine Wk rfl rfl ?_
             iterate 2 refine We tG rfl rfl rfl trivial ?_
             iterate 4 refine Wk rfl rfl ?_
             iterate 2 refine We tG rfl rfl rfl trivial ?_
             refine Wn ?_
             refine Wq ?_
             refine lP rfl ?_
             refine congrArg boo ?_; rw [hR]; unfold rightC; rw [Bool.eq_iff_iff]; (try simp only [dnL] at *); omega
def may10 (v : VVm) : Bool := few10 v && right10 v
theorem ref_May10 (v : VVm) (h : VIn2 v) : PureC Tryz.prog 13 [eVm v] (boo (may10 v)) := by
 refine pW tG (rs := [.tmp 2]) Tryz.func13 rfl rfl rfl (by simp) (by simp) (fun B => ?_)
 refine Ws ?_
 refine W_region rfl ?_
 iterate 2 refine We tG rfl rfl rfl trivial ?_
 refine Wn ?_
 refine Ws ?_
 refine W_region rfl ?_
 refine We tG rfl rfl rfl trivial ?_
 refine Wc rfl rfl (dC rfl Tryz.func24 rfl rfl ((ref_Few10 v h.toVIn) _)) ?_
 refine We tG rfl rfl rfl trivial ?_
 refine Wn ?_
 refine Ws ?_
 refine W_region rfl ?_
 iterate 2 refine We tG rfl rfl rfl trivial ?_
 refine Wb 7 rfl (fun hg1 => ?_) (fun hg1 => ?_)
 ·refine We tG rfl rfl rfl trivial ?_
  refine Wc rfl rfl (dC rfl Tryz.func19 rfl rfl ((ref_Right10 v h) _)) ?_
  iterate 2 refine We tG rfl rfl rfl trivial ?_
  refine Wn ?_
  refine Wq ?_
  refine lP rfl ?_
  exact congrArg boo (by rw [may10]; simp only [*, Bool.true_and, Bool.false_and])
 ·refine Wk rfl rfl ?_
  refine Wk rfl rfl ?_
  iterate 2 refine We tG rfl rfl rfl trivial ?_
  refine Wn ?_
  refine Wq ?_
  refine lP rfl ?_
  exact congrArg boo (by rw [may10]; simp only [*, Bool.true_and, Bool.false_and])
end Go.Proofs.YtphgdofmjpdhaaaGreat
namespace Go.Proofs.YtphgdofmjpdhaaaGreat
open Go.RowKit
set_option linter.unusedVariables false
set_option maxRecDepth 100000
theorem rep_new_bytes {B : Nat → Nat → Prop} {H : List Ob} {σ : Nat → Option Nat} {w w' : World} (s : Sim B H σ w) (g : Grows w w') {xs : List Int} {b c : Nat} (hb : w.heap.size ≤ b) (hl : xs.length ≤ c) (hc : ∀ i, i < xs.length → w'.cell? ⟨b, i, none⟩ = some (.int .u8 (xs.getD i 0))) :
  Rep (cx B H σ w') (.seq xs.length (xs.map byteP) .any) (.slice (some ⟨b, 0, none⟩) xs.length c) := by
 unfold Rep
 refine ⟨_, c, xs.map (Value.int .u8), rfl, hl, (fun h => by cases h), ?_, fun a ha => ?_, trivial⟩
 ·clear hc hl
  induction xs with
  | nil => exact repL_nil.2 rfl
  | cons x l ih => exact repL_cons.2 ⟨rep_val _ _, ih⟩
 ·cases ha
  refine .inl ⟨rfl, fun j u hj => ⟨?_, ?_⟩⟩
  ·have hjl : j < xs.length := by have := lt_of_get hj; simpa using this
   show w'.cell? ⟨b, 0 + j, none⟩ = some u
   rw [Nat.zero_add, hc j hjl]
   rw [List.getElem?_map, List.getElem?_eq_getElem hjl] at hj
   simp only [Option.map_some, Option.some.injEq] at hj
   rw [← hj]; simp [List.getD, hjl]
  ·rintro (h | ⟨i, oi, h1, h2, h3⟩)
   ·have := s.base _ _ h; dsimp only at this; omega
   ·have hl : oi.live = true := by cases oi <;> first | rfl | cases h3
    have := (s.holds i oi h1).lt hl h2
    simp only [cx] at this; omega
theorem b8_rng (u : Nat) : ∀ x ∈ bytes8 u, 0 ≤ x ∧ x < 256 := by
 intro x hx
 simp only [bytes8, List.mem_cons, List.not_mem_nil, or_false] at hx
 omega
def putC (n : Int) : List UInt8 := (bytes8 (U n)).map fun x => UInt8.ofNat x.toNat
theorem putC_len (n : Int) : (putC n).length = 8 := rfl
theorem putC_row (n : Int) : PV.seq 8 ((bytes8 (U n)).map byteP) .any = sq cByte (putC n) := by
 unfold sq putC
 rw [cByte_map, List.map_map, List.map_map]
 have : ∀ x ∈ bytes8 (U n), byteP x = (byteP ∘ (fun b : UInt8 => (b.toNat : Int)) ∘ fun x => UInt8.ofNat x.toNat) x := by
  intro x hx
  have := b8_rng (U n) x hx
  simp only [Function.comp]
  rw [UInt8.toNat_ofNat']
  congr 1
  omega
 rw [List.map_congr_left this]
 rfl
theorem put_of_gives {f : FuncId} (n : Int) (h : ∀ w, Calls Tryz.prog f #[.int .i64 n] w (GivesBytes (bytes8 (U n)) w)) : PureC Tryz.prog f [i64 n] (sq cByte (putC n)) := by
 rw [← putC_row]
 intro H B σ w vs s hv
 have := repL_vals (l := [.int .i64 n]) hv
 subst this
 refine Calls.mono (h w) ?_
 rintro e w' ⟨b, c, rfl, hb, hl, hc, hbel⟩
 have g := Grows.of_below hbel
 obtain ⟨s', st⟩ := grow_sim s g
 exact ⟨_, σ, rfl, rep_new_bytes s g hb hl hc, s', st⟩
theorem cell_put8 (n : Int) : PureC Tryz.prog 221 [i64 n] (sq cByte (putC n)) := put_of_gives n (cell_Put n)
def laidB (l : List UInt8) (k : Nat) (b : List UInt8) : List UInt8 := l.take k ++ b ++ l.drop (k + b.length)
theorem laidB_len {l b : List UInt8} {k : Nat} (h : k + b.length ≤ l.length) : (laidB l k b).length = l.length := by simp [laidB]; omega
theorem splice_all {xs ys : List PV} (h : ys.length = xs.length) : splice xs 0 ys = ys := by simp [splice, h]
theorem cB_take (l : List UInt8) (k : Nat) : (l.flatMap cByte).take k = (l.take k).flatMap cByte := by
 have := flatMap_take cByte 1 (fun _ => rfl) k l
 rwa [Nat.mul_one] at this
theorem cB_drop (l : List UInt8) (k : Nat) : (l.flatMap cByte).drop k = (l.drop k).flatMap cByte := by
 have := flatMap_drop cByte 1 (fun _ => rfl) k l
 rwa [Nat.mul_one] at this
theorem cB_len (l : List UInt8) : (l.flatMap cByte).length = l.length := by rw [flatMap_len cByte 1 (fun _ => rfl), Nat.mul_one]
theorem laid_flat (l b : List UInt8) (k : Nat) : splice (l.flatMap cByte) k (b.flatMap cByte) = (laidB l k b).flatMap cByte := by
 unfold splice laidB
 rw [cB_take, cB_len, cB_drop, List.flatMap_append, List.flatMap_append]
theorem laid_copy {l b : List UInt8} {k c : Nat} (h : k + b.length ≤ l.length) (hc : c = if l.length = k then 0 else 0 + k * 1) : splice (l.flatMap cByte) c ((b.flatMap cByte).take (min b.length (l.length - k) * 1)) = (laidB l k b).flatMap cByte := by
 rw [Nat.min_eq_left (by omega), Nat.mul_one, List.take_of_length_le (by rw [cB_len]; exact Nat.le_refl _)]
 rw [← laid_flat]
 split at hc
 ·have : b = [] := List.eq_nil_of_length_eq_zero (by omega)
  subst this
  subst hc
  simp [splice]
 ·rw [hc]; congr 1; omega
theorem laid_zero {l : List UInt8} {d : TD} (hs : d.size = 1) (hz : d.zero.length = 1) {e : TypeId} : [Ob.cells (l.flatMap cByte) e] = [Ob.cells (splice (zerosPV (l.length : Int).toNat d) 0 (List.take (min l.length (l.length : Int).toNat * d.size) (List.flatMap cByte l))) e] := by
 rw [Int.toNat_natCast, Nat.min_self, hs, Nat.mul_one, List.take_of_length_le (by rw [cB_len]; exact Nat.le_refl _), splice_all (by rw [zerosPV_len _ _ (by rw [hs, hz]), cB_len, hs, Nat.mul_one])]
theorem laid_sq {l b : List UInt8} {k : Nat} (h : k + b.length ≤ l.length) : PV.seq (l.length : Int).toNat (((laidB l k b).flatMap cByte).take (laidB l k b).length) .any = sq cByte (laidB l k b) := by
 rw [cB_take, List.take_length, Int.toNat_natCast]
 unfold sq
 rw [laidB_len h]
theorem mem_laid (l : List UInt8) (at_ : Int) (b : List UInt8) (hl : l.length ≤ 1000000) (h0 : 0 ≤ at_) (h1 : at_ + b.length ≤ l.length) : PureC Tryz.prog 242 [sq cByte l, i64 at_, sq cByte b] (sq cByte (laidB l at_.toNat b)) := by
 refine pW tG (rs := [.tmp 6]) Tryz.func242 rfl rfl rfl (by simp) (by simp) (fun B => ?_)
 refine Ws ?_
 refine W_region rfl ?_
 refine We tG rfl rfl rfl trivial ?_
 refine Wn ?_
 refine Ws ?_
 refine W_region rfl ?_
 iterate 2 refine We tG rfl rfl rfl trivial ?_
 refine We tG rfl rfl rfl (by first | exact trivial | omega | (simp only [dnL] at *; omega) | (simp_all; done) | (simp_all; omega)) ?_
 refine We tG rfl rfl rfl trivial ?_
 refine Wn ?_
 refine Ws ?_
 refine W_region rfl ?_
 iterate 2 refine We tG rfl rfl rfl trivial ?_
 refine Wd rfl rfl (does_copy (lO tG rfl) rfl (lO tG rfl) rfl rfl rfl rfl (flatMap_len _ 1 (fun _ => rfl) _) (okC_flat _ (fun _ => rfl) _) (by rw [zerosPV_len _ _ rfl]; simp)) ?_
 refine WO_ob (H' := [.cells (l.flatMap cByte) 5]) (laid_zero rfl rfl) ?_
 refine Wn ?_
 refine Ws ?_
 refine W_region rfl ?_
 iterate 2 refine We tG rfl rfl rfl trivial ?_
 refine We tG rfl rfl rfl (by first | exact trivial | omega | (simp only [dnL] at *; omega) | (simp_all; done) | (simp_all; omega)) ?_
 refine We tG rfl rfl rfl trivial ?_
 refine Wd rfl rfl (does_copy (lO tG rfl) rfl (lO tG rfl) rfl rfl rfl rfl (flatMap_len _ 1 (fun _ => rfl) _) (okC_flat _ (fun _ => rfl) _) (by rw [cB_len]; dsimp only; split <;> omega)) ?_
 refine WO_ob (H' := [.cells ((laidB l at_.toNat b).flatMap cByte) 5]) (congrArg (fun z => [Ob.cells z 5]) (laid_copy (by omega) rfl).symm) ?_
 refine Wn ?_
 refine Ws ?_
 refine W_region rfl ?_
 refine We tG rfl rfl rfl trivial ?_
 refine Wm 19 rfl (imp_arr_arw (Nat.le_refl _)) ?_
 refine WO_freeze 19 0 _ (laidB l at_.toNat b).length rfl rfl (by rw [cB_len]; exact Nat.le_refl _) ?_
 refine Wa 19 rfl (laid_sq (by omega)) ?_
 refine We tG rfl rfl rfl trivial ?_
 refine Wn ?_
 refine Wq ?_
 refine lP rfl ?_
 first | rfl | (simp_all; done) | (simp_all; omega)
end Go.Proofs.YtphgdofmjpdhaaaGreat
namespace Go.Proofs.YtphgdofmjpdhaaaGreat
open Go.RowKit
set_option linter.unusedVariables false
set_option maxRecDepth 100000
structure MemOk (m : VMem) : Prop where
 b : m.b.length ≤ 1000000
 old : m.old.length ≤ 1000000
def memWrite (m : VMem) (at_ : Int) (b : List UInt8) : VMem × Int :=
 if memThere m at_ b.length then (if b = [] then (m, 0) else (⟨laidB m.b at_.toNat b, m.old ++ [⟨at_, (m.b.drop at_.toNat).take b.length⟩]⟩, 0)) else (m, -9)
def tMem (r : VMem × Int) : PV := tup2 (eMem r.1) (i64 r.2)
@[simp] theorem flat_tMem (r : VMem × Int) : Flat (tMem r) := by simp [tMem]
theorem fitN {n : Nat} (h : n ≤ 1000000) : Fit64 n := by unfold Fit64; omega
theorem there_in {m : VMem} {at_ : Int} {n : Nat} (h : memThere m at_ n = true) (h0 : n ≠ 0) : 0 ≤ at_ ∧ at_ + n ≤ m.b.length := by
 unfold memThere at h
 simp only [decide_eq_true_eq] at h
 omega
theorem wrap_in {x : Int} (h0 : 0 ≤ x) (h1 : x ≤ 1000000) : IntKind.i64.wrap x = x := by rw [i64w]; unfold wrap64; omega
theorem sub_row {l : List UInt8} {a b : Nat} : (l.take b).drop a = (l.drop a).take (b - a) := by rw [List.drop_take]
theorem cut_row {l : List UInt8} {x : Int} {n : Nat} (h0 : 0 ≤ x) (h : IntKind.i64.wrap (x + n) = x + n) : sq cByte ((l.take (IntKind.i64.wrap (x + n)).toNat).drop x.toNat) = sq cByte ((l.drop x.toNat).take n) := by
 rw [h, sub_row]; congr 2; omega
theorem memWrite_no {m : VMem} {at_ : Int} {b : List UInt8} (h : memThere m at_ b.length = false) : memWrite m at_ b = (m, -9) := by unfold memWrite; rw [h]; rfl
theorem memWrite_nil {m : VMem} {at_ : Int} {b : List UInt8} (h : memThere m at_ b.length = true) (h0 : b.length = 0) : memWrite m at_ b = (m, 0) := by unfold memWrite; rw [h, if_pos rfl, if_pos (List.eq_nil_of_length_eq_zero h0)]
theorem memWrite_yes {m : VMem} {at_ : Int} {b : List UInt8} (h : memThere m at_ b.length = true) (h0 : b.length ≠ 0) : memWrite m at_ b = (⟨laidB m.b at_.toNat b, m.old ++ [⟨at_, (m.b.drop at_.toNat).take b.length⟩]⟩, 0) := by
 unfold memWrite; rw [h, if_pos rfl, if_neg (fun e => h0 (by rw [e]; rfl))]
theorem mem_Write (m : VMem) (at_ : Int) (b : List UInt8) (hm : MemOk m) (ha : Fit64 at_) (hb : b.length ≤ 1000000) : PureC Tryz.prog 162 [eMem m, i64 at_, sq cByte b] (tMem (memWrite m at_ b)) := by
 have hm1 := hm.b
 have hm2 := hm.old
 refine pW tG (rs := [.cell 6 27, .tmp 7]) Tryz.func162 rfl rfl rfl (by simp) (by simp) (fun B => ?_)
 refine Ws ?_
 refine W_region rfl ?_
 iterate 3 refine We tG rfl rfl rfl trivial ?_
 refine Wn ?_
 iterate 2 refine Ws ?_
 refine W_region rfl ?_
 iterate 4 refine We tG rfl rfl rfl trivial ?_
 refine Wc rfl rfl (dC rfl Tryz.func219 rfl rfl ((mem_there m at_ b.length (by omega) ha (fitN hb)) _)) ?_
 refine We tG rfl rfl rfl trivial ?_
 refine Wn ?_
 refine Wi rfl (fun hi1 => ?_) (fun hi1 => ?_)
 ·rw [memWrite_no (by simpa using hi1)]
  refine Ws ?_
  refine W_region rfl ?_
  iterate 3 refine We tG rfl rfl rfl trivial ?_
  refine Wn ?_
  refine Wq ?_
  refine lP rfl ?_
  rfl
 ·have ht : memThere m at_ b.length = true := by simpa using hi1
  refine Wj ?_
  iterate 2 refine Ws ?_
  refine W_region rfl ?_
  iterate 3 refine We tG rfl rfl rfl trivial ?_
  refine Wn ?_
  refine Wi rfl (fun hi2 => ?_) (fun hi2 => ?_)
  ·rw [memWrite_nil ht (by simpa using hi2)]
   refine Ws ?_
   refine W_region rfl ?_
   iterate 3 refine We tG rfl rfl rfl trivial ?_
   refine Wn ?_
   refine Wq ?_
   refine lP rfl ?_
   rfl
  ·have hne : b.length ≠ 0 := by simpa using hi2
   obtain ⟨k0, k1⟩ := there_in ht hne
   have k2 : IntKind.i64.wrap (at_ + b.length) = at_ + b.length := wrap_in (by omega) (by omega)
   refine Wj ?_
   refine Ws ?_
   refine W_drawU [0, 1, 0, 0, 0, 1, 0, 0, 0, 0, 0, 0, 0, 0, 0, 0, 0, 3] [0, 1, 2, 3, 4, 5, 6, 7, 8, 9, 10, 11, 12, 13, 14, 15, 16, 17] mG rfl (by kernel_rfl) ?_
   refine Xe tG rfl rfl rfl rfl (fun _ => rfl) trivial ?_
   refine Xf tG rfl rfl rfl rfl (fun _ => rfl) trivial ?_
   refine Xc rfl rfl rfl rfl (fun _ => dC rfl Tryz.func241 rfl rfl ((clip_patches m.old (by omega)) _)) ?_
   refine Xe tG rfl rfl rfl rfl (fun _ => rfl) trivial ?_
   refine Xe tG rfl rfl rfl rfl (fun _ => rfl) trivial ?_
   refine Xf tG rfl rfl rfl rfl (fun _ => rfl) trivial ?_
   refine Xe tG rfl rfl rfl rfl (fun _ => rfl) trivial ?_
   refine Xe tG rfl rfl rfl rfl (fun _ => rfl) trivial ?_
   refine Xe tG rfl rfl rfl rfl (fun _ => rfl) trivial ?_
   refine Xe tG rfl rfl rfl rfl (fun _ => rfl) trivial ?_
   refine Xe tG rfl rfl rfl rfl (fun _ => rfl) trivial ?_
   refine Xe tG rfl rfl rfl rfl (fun _ => rfl) (by rw [k2]; omega) ?_
   refine Xa 30 rfl (sq_slice cByte 1 (fun _ => rfl) (by rw [k2]; omega)) ?_
   refine Xc rfl rfl rfl rfl (fun _ => dC rfl Tryz.func235 rfl rfl ((bytes_Clone _ (by simp; omega)) _)) ?_
   refine Xa 31 rfl (cut_row k0 k2) ?_
   refine Xe tG rfl rfl rfl rfl (fun _ => rfl) trivial ?_
   refine Xe tG rfl rfl rfl rfl (fun _ => rfl) trivial ?_
   refine Xa 33 rfl ((show PV.seq 1 _ .clip = .seq (List.length [(⟨at_, (m.b.drop at_.toNat).take b.length⟩ : VPatch)]) (List.flatMap cPatch [(⟨at_, (m.b.drop at_.toNat).take b.length⟩ : VPatch)]) .clip from rfl)) ?_
   refine WU_does0 rfl rfl rfl rfl (fun _ => does_append_drawn (lO tG rfl) rfl (lO tG rfl) (lO tG rfl) rfl rfl (by first | exact ⟨_, rfl⟩ | rfl) (by first | exact ⟨rfl, rfl, flatMap_len _ 2 (fun _ => rfl) _, okC_flat _ (fun _ => rfl) _⟩ | exact ⟨rfl, rfl, by simp, by simp [okC]⟩ | exact ⟨rfl, rfl, rfl⟩) (by first | exact flatMap_len _ 2 (fun _ => rfl) _ | rfl | simp) (by first | (dsimp only; omega) | (first | exact trivial | omega | (simp only [dnL] at *; omega) | (simp_all; done) | (simp_all; omega))) (by first | (dsimp only; omega) | (first | exact trivial | omega | (simp only [dnL] at *; omega) | (simp_all; done) | (simp_all; omega))) (by first | exact flatL_app (flatL_map' (fun x => by simp) _) (flatL_map' (fun x => by simp) _) | (simp [FlatL, Flat]; done))) ?_
   first | refine Xa 34 rfl (sq_append cPatch) ?_ | refine Xa 34 rfl (sq_snoc cPatch _) ?_ | refine Xa 34 rfl (sq_one cPatch _) ?_ | refine Xa 34 rfl (sq_none cPatch) ?_
   refine Xe tG rfl rfl rfl rfl (fun _ => rfl) trivial ?_
   refine WU_ev3 tG rfl rfl rfl rfl rfl trivial ?_
   refine WU_nil ?_
   refine Ws ?_
   refine W_region rfl ?_
   iterate 4 refine We tG rfl rfl rfl trivial ?_
   refine Wc rfl rfl (dC rfl Tryz.func242 rfl rfl ((mem_laid _ _ _ hm1 k0 k1) _)) ?_
   iterate 2 refine We tG rfl rfl rfl trivial ?_
   refine Wn ?_
   refine Ws ?_
   refine W_region rfl ?_
   iterate 3 refine We tG rfl rfl rfl trivial ?_
   refine Wn ?_
   refine Wq ?_
   refine lP rfl ?_
   rw [memWrite_yes ht hne]; rfl
end Go.Proofs.YtphgdofmjpdhaaaGreat
