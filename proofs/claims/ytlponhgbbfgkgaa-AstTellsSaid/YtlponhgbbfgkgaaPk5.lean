import Derived.Test.YtlponhgbbfgkgaaPk4
set_option linter.unusedVariables false
set_option linter.unusedSimpArgs false
namespace Go.Proofs.Ytlponhgbbfgkgaa
open Go.RowKit
set_option maxRecDepth 100000
set_option maxHeartbeats 8000000
def idxB (l : List Bool) (s : Bool) : Nat → Nat → Int
 | 0, _ => -1
 | m + 1, k => if s = l.getD k false then (k : Int) else idxB l s m (k + 1)
theorem idxB_ge (l : List Bool) (s : Bool) : ∀ m k, (0 ≤ idxB l s m k) ↔ ∃ j, j < m ∧ s = l.getD (k + j) false
 | 0, k => by unfold idxB; exact ⟨fun h => by omega, fun ⟨j, h, _⟩ => by omega⟩
 | m + 1, k => by
  unfold idxB
  by_cases h : s = l.getD k false
  ·rw [if_pos h]; exact ⟨fun _ => ⟨0, by omega, h⟩, fun _ => by omega⟩
  ·rw [if_neg h, idxB_ge l s m (k + 1)]
   constructor
   ·rintro ⟨j, h1, h2⟩; exact ⟨j + 1, by omega, by rw [h2]; congr 1; omega⟩
   ·rintro ⟨j, h1, h2⟩
    match j, h1, h2 with
    | 0, _, h2 => exact absurd h2 h
    | j + 1, h1, h2 => exact ⟨j, by omega, by rw [h2]; congr 1; omega⟩
theorem idxB_mem (l : List Bool) (s : Bool) : decide (idxB l s l.length 0 ≥ 0) = decide (s ∈ l) := by
 rw [Bool.eq_iff_iff, decide_eq_true_eq, decide_eq_true_eq]
 refine (idxB_ge l s l.length 0).trans ⟨?_, fun h => ?_⟩
 ·rintro ⟨j, h1, rfl⟩
  rw [Nat.zero_add, List.getD_eq_getElem?_getD, List.getElem?_eq_getElem h1]
  exact List.getElem_mem _
 ·obtain ⟨j, h1, h2⟩ := List.getElem_of_mem h
  exact ⟨j, h1, by rw [Nat.zero_add, List.getD_eq_getElem?_getD, List.getElem?_eq_getElem h1]; exact h2.symm⟩
theorem idxB_step {l : List Bool} {s : Bool} {k : Nat} (hk : k < l.length) (h : ¬ s = l.getD k false) : idxB l s (l.length - k) k = idxB l s (l.length - (k + 1)) (k + 1) := by
 rw [show l.length - k = (l.length - (k + 1)) + 1 by omega]
 show (if s = l.getD k false then _ else _) = _
 rw [if_neg h]
theorem idxB_hit {l : List Bool} {s : Bool} {k : Nat} (hk : k < l.length) (h : s = l.getD k false) : idxB l s (l.length - k) k = (k : Int) := by
 rw [show l.length - k = (l.length - (k + 1)) + 1 by omega]
 show (if s = l.getD k false then _ else _) = _
 rw [if_pos h]
theorem bool_Index (l : List Bool) (s : Bool) (hl : l.length ≤ 1000000) : PureC Try.prog 71 [sq cBool l, boo s] (i64 (idxB l s l.length 0)) := by
 refine pW tG (rs := [.tmp 4]) Try.func71 rfl rfl rfl (by simp) (by simp) (fun B => ?_)
 refine zu1 ?_
 refine Ws ?_
 refine zu3 ?_
 refine Wl ?_
 show W _ _ _ _ _ _ _
 refine W_loopS (fun (k : Nat) => [(0, sq cBool l), (1, boo s), (4, i64 0), (7, i64 (l.length : Int)), (8, i64 (k : Int))]) (fun (k : Nat) => []) (fun (k : Nat) => []) (fun (k : Nat) => k ≤ l.length ∧ idxB l s l.length 0 = idxB l s (l.length - k) k) (fun (k : Nat) => l.length - k) (0) (by exact ⟨Nat.zero_le _, rfl⟩) [] ?_ ?_
 ·exact fitT
 ·intro k hk
  refine zu1 ?_
  refine Ws ?_
  refine Wi rfl (fun hi1 => ?_) (fun hi1 => ?_)
  ·have hlt : k < l.length := by have := oT hi1; omega
   refine Wj ?_
   refine Ws ?_
   refine Wl ?_
   refine zu2 ?_
   refine zp3 ?_
   refine Wv tG rfl rfl rfl (by omega) (iN cBool 1 (fun _ => rfl) false (by omega)) ?_
   refine zs2 ?_
   refine Wi rfl (fun hi2 => ?_) (fun hi2 => ?_)
   ·have q : s = l.getD k false := by simpa using hi2
    refine zu2 ?_
    refine zR ?_
    rw [hk.2, idxB_hit hlt q]; rfl
   ·have q : ¬ s = l.getD k false := by simpa using hi2
    refine Wj ?_
    refine W_region rfl ?_
    refine zs2 ?_
    exact ⟨k + 1, [], (by exact ⟨by omega, hk.2.trans (idxB_step hlt q)⟩), (by omega), fitT⟩
  ·have hge : l.length - k = 0 := by have := oF hi1; omega
   refine W_exit ?_
   refine zu1 ?_
   refine zR ?_
   rw [hk.2, hge]; rfl
theorem bool_Contains (l : List Bool) (s : Bool) (hl : l.length ≤ 1000000) : PureC Try.prog 44 [sq cBool l, boo s] (boo (decide (s ∈ l))) := by
 refine pW tG (rs := [.tmp 4]) Try.func44 rfl rfl rfl (by simp) (by simp) (fun B => ?_)
 refine zu1 ?_
 refine zp2 ?_
 refine zc rfl Try.func71 ((bool_Index l s hl) _) ?_
 refine zs2 ?_
 refine zR ?_
 exact congrArg boo (idxB_mem l s)
theorem all_not (l : List Bool) : (!decide (false ∈ l)) = l.all id := by
 induction l with
 | nil => rfl
 | cons b l ih => cases b <;> simp_all
theorem ast_all (l : List Bool) (hl : l.length ≤ 1000000) : PureC Try.prog 27 [sq cBool l] (boo (l.all id)) := by
 refine pW tG (rs := [.tmp 2]) Try.func27 rfl rfl rfl (by simp) (by simp) (fun B => ?_)
 refine zu1 ?_
 refine zp1 ?_
 refine zc rfl Try.func44 ((bool_Contains l false hl) _) ?_
 refine zs2 ?_
 refine zR ?_
 exact congrArg boo (all_not l)
def bareN (x : VNode) : Bool := x.a.isEmpty && x.b.isEmpty
theorem may_12 {x : VNode} {o l : Int} (h : x.kind = 1 ∨ x.kind = 2) : mayN x o l = bareN x := by rw [mayN_parts, if_pos h]; rfl
theorem may_9 {x : VNode} {o l : Int} (h : x.kind = 9) : mayN x o l = (bareN x && (decide (x.n = 0) && decide (0 < l))) := by rw [mayN_parts, if_neg (by omega), if_pos h]; rfl
theorem may_10 {x : VNode} {o l : Int} (h : x.kind = 10) : mayN x o l = (bareN x && (decide (x.n = 0) && decide (l = 0))) := by rw [mayN_parts, if_neg (by omega), if_neg (by omega), if_pos h]; rfl
theorem may_11 {x : VNode} {o l : Int} (h : x.kind = 11) : mayN x o l = (bareN x && decide (x.n = 0)) := by rw [mayN_parts, if_neg (by omega), if_neg (by omega), if_neg (by omega), if_pos h]; rfl
theorem may_deep {x : VNode} {o l : Int} (h1 : ¬ x.kind = 1) (h2 : ¬ x.kind = 2) (h9 : ¬ x.kind = 9) (h10 : ¬ x.kind = 10) (h11 : ¬ x.kind = 11) (h : 16 ≤ o) : mayN x o l = false := by
 rw [mayN_parts, if_neg (by omega), if_neg h9, if_neg h10, if_neg h11, if_pos h]
theorem may_in {x : VNode} {o l : Int} (h1 : ¬ x.kind = 1) (h2 : ¬ x.kind = 2) (h9 : ¬ x.kind = 9) (h10 : ¬ x.kind = 10) (h11 : ¬ x.kind = 11) (h : ¬ 16 ≤ o) : mayN x o l = (flagN x.kind x.n x.b && (mayL x.a (o + 1) (if x.kind = 7 ∨ x.kind = 8 then l + 1 else l) && mayL x.b (o + 1) (if x.kind = 7 ∨ x.kind = 8 then l + 1 else l))) := by
 rw [mayN_parts, if_neg (by omega), if_neg h9, if_neg h10, if_neg h11, if_neg h]
theorem flag_none {k n : Int} {b : List VNode} (h3 : ¬ k = 3) (h4 : ¬ k = 4) (h5 : ¬ k = 5) (h6 : ¬ k = 6) (h7 : ¬ k = 7) (h8 : ¬ k = 8) : flagN k n b = false := by
 unfold flagN; rw [if_neg h3, if_neg (by omega), if_neg h6, if_neg (by omega)]
theorem empty_len (l : List VNode) : l.isEmpty = ((l.length : Int) == 0) := by cases l <;> simp; omega
def MayAt (l : List VNode) : Prop := ∀ o lp : Int, 0 ≤ lp → lp ≤ o → o ≤ 16 → PureC Try.prog 23 [sq cNode l, i64 o, i64 lp] (boo (mayL l o lp))
theorem one_c (x : VNode) (ha : MayAt x.a) (hb : MayAt x.b) (o lp : Int) (h0 : 0 ≤ lp) (h1 : lp ≤ o) (h2 : o ≤ 16) : PureC Try.prog 43 [eNode x, i64 o, i64 lp] (boo (mayN x o lp)) := by
 have w1 : IntKind.i64.wrap (o + 1) = o + 1 := i64_ok2 (by omega) (by omega)
 have w2 : IntKind.i64.wrap (lp + 1) = lp + 1 := i64_ok2 (by omega) (by omega)
 refine pW tG (rs := [.tmp 6]) Try.func43 rfl rfl rfl (by simp) (by simp) (fun B => ?_)
 refine zu2 ?_
 refine W_meet [(1, i64 o), (2, i64 lp), (3, .ptr 0 0), (7, boo (bareN x))] [.cells (cNode x) 62] [] ?_ ?_
 ·refine W_region rfl ?_
  refine zy5 ?_
  refine Wb 14 rfl (fun hg1 => ?_) (fun hg1 => ?_)
  ·refine zy5 ?_
   refine zs1 ?_
   exact ⟨[], (fitT (sub := by repeat (first | exact subL_nil | refine subL_cons (by first | exact imp_of rfl | exact imp_of (congrArg boo (by unfold bareN; rw [empty_len, empty_len]; simp_all))) ?_)))⟩
  ·refine z6 ?_
   iterate 3 refine z6 ?_
   refine zs2 ?_
   exact ⟨[], (fitT (sub := by repeat (first | exact subL_nil | refine subL_cons (by first | exact imp_of rfl | exact imp_of (congrArg boo (by unfold bareN; rw [empty_len, empty_len]; simp_all))) ?_)))⟩
 ·refine Ws ?_
  refine zu2 ?_
  refine Wl ?_
  refine Ws ?_
  refine zu2 ?_
  refine Wi rfl (fun hi1 => ?_) (fun hi1 => ?_)
  ·have k1 : x.kind = 1 := by simpa using hi1
   refine Wj ?_
   refine Wt rfl hi1 ?_
   refine zu2 ?_
   refine zR ?_
   exact congrArg boo (may_12 (.inl k1)).symm
  ·have k1 : ¬ x.kind = 1 := by simpa using hi1
   refine W_region rfl ?_
   refine zs2 ?_
   refine Wi rfl (fun hi2 => ?_) (fun hi2 => ?_)
   ·have k2 : x.kind = 2 := by simpa using hi2
    refine zu2 ?_
    refine zR ?_
    exact congrArg boo (may_12 (.inr k2)).symm
   ·have k2 : ¬ x.kind = 2 := by simpa using hi2
    refine zu2 ?_
    refine Wi rfl (fun hi3 => ?_) (fun hi3 => ?_)
    ·have k9 : x.kind = 9 := by simpa using hi3
     refine zp5 ?_
     refine zy2 ?_
     refine Wa 34 rfl (bsL cBool [_, _, _] rfl rfl) ?_
     refine zc rfl Try.func27 ((ast_all [bareN x, x.n == 0, decide (lp > 0)] (by simp)) _) ?_
     refine zs1 ?_
     refine zR ?_
     exact congrArg boo (by rw [may_9 k9]; simp; rfl)
    ·have k9 : ¬ x.kind = 9 := by simpa using hi3
     refine zu2 ?_
     refine Wi rfl (fun hi4 => ?_) (fun hi4 => ?_)
     ·have k10 : x.kind = 10 := by simpa using hi4
      refine zp5 ?_
      refine zy2 ?_
      refine Wa 44 rfl (bsL cBool [_, _, _] rfl rfl) ?_
      refine zc rfl Try.func27 ((ast_all [bareN x, x.n == 0, lp == 0] (by simp)) _) ?_
      refine zs1 ?_
      refine zR ?_
      exact congrArg boo (by rw [may_10 k10]; simp; rfl)
     ·have k10 : ¬ x.kind = 10 := by simpa using hi4
      refine zu2 ?_
      refine Wi rfl (fun hi5 => ?_) (fun hi5 => ?_)
      ·have k11 : x.kind = 11 := by simpa using hi5
       refine zp5 ?_
       refine Wa 52 rfl (bsL cBool [_, _] rfl rfl) ?_
       refine zc rfl Try.func27 ((ast_all [bareN x, x.n == 0] (by simp)) _) ?_
       refine zs1 ?_
       refine zR ?_
       exact congrArg boo (by rw [may_11 k11]; simp; rfl)
      ·have k11 : ¬ x.kind = 11 := by simpa using hi5
       refine Wj ?_
       refine Ws ?_
       refine zu2 ?_
       refine Wi rfl (fun hi6 => ?_) (fun hi6 => ?_)
       ·have q6 : 16 ≤ o := oT hi6
        refine zu1 ?_
        refine zR ?_
        exact congrArg boo (may_deep k1 k2 k9 k10 k11 q6).symm
       ·have q6 : ¬ 16 ≤ o := oF hi6
        refine Wj ?_
        refine zu2 ?_
        refine zu4 ?_
        refine W_meet [(1, i64 o), (3, .ptr 0 0), (8, i64 (if x.kind = 7 ∨ x.kind = 8 then lp + 1 else lp)), (9, boo (flagN x.kind x.n x.b))] [.cells (cNode x) 62] [] ?_ ?_
        ·refine zu2 ?_
         refine Wl ?_
         refine zu2 ?_
         refine Wi rfl (fun hi7 => ?_) (fun hi7 => ?_)
         ·have k3 : x.kind = 3 := by simpa using hi7
          refine W_region rfl ?_
          refine zy4 ?_
          refine Wb 67 rfl (fun hg2 => ?_) (fun hg2 => ?_)
          ·refine z6 ?_
           iterate 8 refine z6 ?_
           refine zs2 ?_
           exact ⟨[], (fitT (sub := by repeat (first | exact subL_nil | refine subL_cons (by first | exact imp_of rfl | exact imp_of (congrArg i64 (by rw [if_neg (by omega)])) | exact imp_of (congrArg boo (by unfold flagN; rw [empty_len]; simp_all <;> rfl))) ?_)))⟩
          ·refine zy4 ?_
           refine Wb 71 rfl (fun hg3 => ?_) (fun hg3 => ?_)
           ·refine zy5 ?_
            refine zs2 ?_
            exact ⟨[], (fitT (sub := by repeat (first | exact subL_nil | refine subL_cons (by first | exact imp_of rfl | exact imp_of (congrArg i64 (by rw [if_neg (by omega)])) | exact imp_of (congrArg boo (by unfold flagN; rw [empty_len]; simp_all <;> rfl))) ?_)))⟩
           ·refine z6 ?_
            iterate 3 refine z6 ?_
            refine zs3 ?_
            exact ⟨[], (fitT (sub := by repeat (first | exact subL_nil | refine subL_cons (by first | exact imp_of rfl | exact imp_of (congrArg i64 (by rw [if_neg (by omega)])) | exact imp_of (congrArg boo (by unfold flagN; rw [empty_len]; simp_all <;> rfl))) ?_)))⟩
         ·have k3 : ¬ x.kind = 3 := by simpa using hi7
          refine Ws ?_
          refine zu2 ?_
          refine Wi rfl (fun hi8 => ?_) (fun hi8 => ?_)
          ·have k4 : x.kind = 4 := by simpa using hi8
           refine Wj ?_
           refine Wt rfl hi8 ?_
           refine W_region rfl ?_
           refine zy2 ?_
           refine Wb 82 rfl (fun hg4 => ?_) (fun hg4 => ?_)
           ·refine zy5 ?_
            refine zs1 ?_
            exact ⟨[], (fitT (sub := by repeat (first | exact subL_nil | refine subL_cons (by first | exact imp_of rfl | exact imp_of (congrArg i64 (by rw [if_neg (by omega)])) | exact imp_of (congrArg boo (by unfold flagN; rw [empty_len]; simp_all <;> rfl))) ?_)))⟩
           ·refine z6 ?_
            iterate 3 refine z6 ?_
            refine zs2 ?_
            exact ⟨[], (fitT (sub := by repeat (first | exact subL_nil | refine subL_cons (by first | exact imp_of rfl | exact imp_of (congrArg i64 (by rw [if_neg (by omega)])) | exact imp_of (congrArg boo (by unfold flagN; rw [empty_len]; simp_all <;> rfl))) ?_)))⟩
          ·have k4 : ¬ x.kind = 4 := by simpa using hi8
           refine W_region rfl ?_
           refine zs2 ?_
           refine Wi rfl (fun hi9 => ?_) (fun hi9 => ?_)
           ·have k5 : x.kind = 5 := by simpa using hi9
            refine W_region rfl ?_
            refine zy2 ?_
            refine Wb 82 rfl (fun hg4 => ?_) (fun hg4 => ?_)
            ·refine zy5 ?_
             refine zs1 ?_
             exact ⟨[], (fitT (sub := by repeat (first | exact subL_nil | refine subL_cons (by first | exact imp_of rfl | exact imp_of (congrArg i64 (by rw [if_neg (by omega)])) | exact imp_of (congrArg boo (by unfold flagN; rw [empty_len]; simp_all <;> rfl))) ?_)))⟩
            ·refine z6 ?_
             iterate 3 refine z6 ?_
             refine zs2 ?_
             exact ⟨[], (fitT (sub := by repeat (first | exact subL_nil | refine subL_cons (by first | exact imp_of rfl | exact imp_of (congrArg i64 (by rw [if_neg (by omega)])) | exact imp_of (congrArg boo (by unfold flagN; rw [empty_len]; simp_all <;> rfl))) ?_)))⟩
           ·have k5 : ¬ x.kind = 5 := by simpa using hi9
            refine zu2 ?_
            refine Wi rfl (fun hi10 => ?_) (fun hi10 => ?_)
            ·have k6 : x.kind = 6 := by simpa using hi10
             refine Wj ?_
             exact ⟨[], (fitT (sub := by repeat (first | exact subL_nil | refine subL_cons (by first | exact imp_of rfl | exact imp_of (congrArg i64 (by rw [if_neg (by omega)])) | exact imp_of (congrArg boo (by unfold flagN; rw [empty_len]; simp_all <;> rfl))) ?_)))⟩
            ·have k6 : ¬ x.kind = 6 := by simpa using hi10
             refine Ws ?_
             refine zu2 ?_
             refine Wi rfl (fun hi11 => ?_) (fun hi11 => ?_)
             ·have k7 : x.kind = 7 := by simpa using hi11
              refine Wj ?_
              refine Wt rfl hi11 ?_
              refine zu3 ?_
              refine W_region rfl ?_
              refine zy4 ?_
              refine Wb 98 rfl (fun hg5 => ?_) (fun hg5 => ?_)
              ·refine z6 ?_
               iterate 2 refine z6 ?_
               refine zy5 ?_
               refine zs3 ?_
               exact ⟨[], (fitT (sub := by repeat (first | exact subL_nil | refine subL_cons (by first | exact imp_of rfl | exact imp_of (congrArg i64 (by rw [if_pos (by omega)]; exact w2)) | exact imp_of (congrArg boo (by unfold flagN; rw [empty_len]; simp_all <;> rfl))) ?_)))⟩
              ·refine zy5 ?_
               refine Wb 103 rfl (fun hg6 => ?_) (fun hg6 => ?_)
               ·refine zy5 ?_
                refine zs1 ?_
                exact ⟨[], (fitT (sub := by repeat (first | exact subL_nil | refine subL_cons (by first | exact imp_of rfl | exact imp_of (congrArg i64 (by rw [if_pos (by omega)]; exact w2)) | exact imp_of (congrArg boo (by unfold flagN; rw [empty_len]; simp_all <;> rfl))) ?_)))⟩
               ·refine z6 ?_
                iterate 3 refine z6 ?_
                refine zs2 ?_
                exact ⟨[], (fitT (sub := by repeat (first | exact subL_nil | refine subL_cons (by first | exact imp_of rfl | exact imp_of (congrArg i64 (by rw [if_pos (by omega)]; exact w2)) | exact imp_of (congrArg boo (by unfold flagN; rw [empty_len]; simp_all <;> rfl))) ?_)))⟩
             ·have k7 : ¬ x.kind = 7 := by simpa using hi11
              refine W_region rfl ?_
              refine zs2 ?_
              refine Wi rfl (fun hi12 => ?_) (fun hi12 => ?_)
              ·have k8 : x.kind = 8 := by simpa using hi12
               refine zu3 ?_
               refine W_region rfl ?_
               refine zy4 ?_
               refine Wb 98 rfl (fun hg5 => ?_) (fun hg5 => ?_)
               ·refine z6 ?_
                iterate 2 refine z6 ?_
                refine zy5 ?_
                refine zs3 ?_
                exact ⟨[], (fitT (sub := by repeat (first | exact subL_nil | refine subL_cons (by first | exact imp_of rfl | exact imp_of (congrArg i64 (by rw [if_pos (by omega)]; exact w2)) | exact imp_of (congrArg boo (by unfold flagN; rw [empty_len]; simp_all <;> rfl))) ?_)))⟩
               ·refine zy5 ?_
                refine Wb 103 rfl (fun hg6 => ?_) (fun hg6 => ?_)
                ·refine zy5 ?_
                 refine zs1 ?_
                 exact ⟨[], (fitT (sub := by repeat (first | exact subL_nil | refine subL_cons (by first | exact imp_of rfl | exact imp_of (congrArg i64 (by rw [if_pos (by omega)]; exact w2)) | exact imp_of (congrArg boo (by unfold flagN; rw [empty_len]; simp_all <;> rfl))) ?_)))⟩
                ·refine z6 ?_
                 iterate 3 refine z6 ?_
                 refine zs2 ?_
                 exact ⟨[], (fitT (sub := by repeat (first | exact subL_nil | refine subL_cons (by first | exact imp_of rfl | exact imp_of (congrArg i64 (by rw [if_pos (by omega)]; exact w2)) | exact imp_of (congrArg boo (by unfold flagN; rw [empty_len]; simp_all <;> rfl))) ?_)))⟩
              ·have k8 : ¬ x.kind = 8 := by simpa using hi12
               refine zu1 ?_
               refine zR ?_
               exact congrArg boo (by rw [may_in k1 k2 k9 k10 k11 q6, flag_none k3 k4 k5 k6 k7 k8]; rfl)
        ·refine zp2 ?_
         refine Wb 110 rfl (fun hg7 => ?_) (fun hg7 => ?_)
         ·refine zy2 ?_
          refine Wa 112 rfl (sqN_eq x.a) ?_
          refine zy2 ?_
          refine Wa 114 rfl (congrArg (fun z => PV.val (Value.int .i64 z)) w1) ?_
          refine z1 ?_
          refine zc rfl Try.func23 ((ha (o + 1) _ (by split <;> omega) (by split <;> omega) (by omega)) _) ?_
          refine zy2 ?_
          refine Wb 118 rfl (fun hg8 => ?_) (fun hg8 => ?_)
          ·refine zy2 ?_
           refine Wa 120 rfl (sqN_eq x.b) ?_
           refine zy2 ?_
           refine Wa 122 rfl (congrArg (fun z => PV.val (Value.int .i64 z)) w1) ?_
           refine z1 ?_
           refine zc rfl Try.func23 ((hb (o + 1) _ (by split <;> omega) (by split <;> omega) (by omega)) _) ?_
           refine zs2 ?_
           refine zR ?_
           exact congrArg boo (by rw [may_in k1 k2 k9 k10 k11 q6]; simp_all <;> rfl)
          ·refine z6 ?_
           iterate 5 refine z6 ?_
           refine zs2 ?_
           refine zR ?_
           exact congrArg boo (by rw [may_in k1 k2 k9 k10 k11 q6]; simp_all <;> rfl)
         ·refine z6 ?_
          iterate 5 refine z6 ?_
          refine zy2 ?_
          iterate 6 refine z6 ?_
          refine zs2 ?_
          refine zR ?_
          exact congrArg boo (by rw [may_in k1 k2 k9 k10 k11 q6]; simp_all <;> rfl)
theorem mayL_get {l : List VNode} {k : Nat} {o lp : Int} (hk : k < l.length) : mayL (l.take (k + 1)) o lp = (mayL (l.take k) o lp && mayN (l.getD k default) o lp) := by
 rw [take_snoc' l k default hk, mayL_app, mayL_one]
theorem mayL_no {l : List VNode} {k : Nat} {o lp : Int} (hk : k < l.length) (h : mayN (l.getD k default) o lp = false) : mayL l o lp = false := by
 have e : l = l.take (k + 1) ++ l.drop (k + 1) := (List.take_append_drop _ _).symm
 rw [e, mayL_app, mayL_get hk, h]; simp
theorem node_sz {l : List VNode} {k : Nat} (hk : k < l.length) : szL (l.getD k default).a < szL l ∧ szL (l.getD k default).b < szL l := by
 have h := sz_get hk
 rw [sz_parts] at h
 omega
theorem may_c : ∀ (n : Nat) (l : List VNode), szL l < n → okL l → MayAt l := by
 intro n
 induction n with
 | zero => intro l h; omega
 | succ n ih =>
  intro l hn hok o lp h0 h1 h2
  have hl := ok_len hok
  refine pW tG (rs := [.tmp 6]) Try.func23 rfl rfl rfl (by simp) (by simp) (fun B => ?_)
  refine zu1 ?_
  refine Ws ?_
  refine zu3 ?_
  refine Wl ?_
  show W _ _ _ _ _ _ _
  refine W_loopS (fun (k : Nat) => [(1, i64 o), (2, i64 lp), (9, sq cNode l), (10, i64 (l.length : Int)), (11, i64 (k : Int))]) (fun (k : Nat) => []) (fun (k : Nat) => []) (fun (k : Nat) => k ≤ l.length ∧ mayL (l.take k) o lp = true) (fun (k : Nat) => l.length - k) (0) (by exact ⟨Nat.zero_le _, by rw [List.take_zero, mayL]⟩) [] ?_ ?_
  ·exact fitT
  ·intro k hk
   refine zu1 ?_
   refine Ws ?_
   refine Wi rfl (fun hi1 => ?_) (fun hi1 => ?_)
   ·have hlt : k < l.length := by have := oT hi1; omega
    have hz := node_sz hlt
    have hq := ok_get hok hlt
    refine Wj ?_
    refine Ws ?_
    refine Wl ?_
    refine z8 ?_
    refine Wv tG rfl rfl rfl (by omega) (iN cNode 4 (fun _ => rfl) default (by omega)) ?_
    refine zs3 ?_
    refine zp3 ?_
    refine zc rfl Try.func43 ((one_c (l.getD k default) (ih _ (by omega) hq.1) (ih _ (by omega) hq.2) o lp h0 h1 h2) _) ?_
    refine zs1 ?_
    refine Wi rfl (fun hi2 => ?_) (fun hi2 => ?_)
    ·have q : mayN (l.getD k default) o lp = false := by simpa using hi2
     refine zu1 ?_
     refine zR ?_
     exact congrArg boo (mayL_no hlt q).symm
    ·have q : mayN (l.getD k default) o lp = true := by simpa using hi2
     refine Wj ?_
     refine W_region rfl ?_
     refine zs2 ?_
     exact ⟨k + 1, [], (by exact ⟨by omega, by rw [mayL_get hlt, hk.2, q]; rfl⟩), (by omega), fitT⟩
   ·have hge : l.length ≤ k := by have := oF hi1; omega
    refine W_exit ?_
    refine zu1 ?_
    refine zR ?_
    exact congrArg boo (by have h3 := hk.2; rw [take_all' l k hge] at h3; exact h3.symm)
theorem ast_May (l : List VNode) (h : okL l) : PureC Try.prog 12 [sq cNode l] (boo (mayL l 0 0)) := by
 refine pW tG (rs := [.tmp 2]) Try.func12 rfl rfl rfl (by simp) (by simp) (fun B => ?_)
 refine zu1 ?_
 refine zp1 ?_
 refine zc rfl Try.func23 ((may_c _ l (Nat.lt_succ_self _) h 0 0 (Int.le_refl _) (Int.le_refl _) (by decide)) _) ?_
 refine zs1 ?_
 refine zR ?_
 rfl
theorem same1_d (x y : VNode) (ha : PureC Try.prog 14 [sq cNode x.a, sq cNode y.a] (boo (sameL x.a y.a))) (hb : PureC Try.prog 14 [sq cNode x.b, sq cNode y.b] (boo (sameL x.b y.b))) : PureC Try.prog 26 [eNode x, eNode y] (boo (sameN x y)) := by
 refine pW tG (rs := [.tmp 4]) Try.func26 rfl rfl rfl (by simp) (by simp) (fun B => ?_)
 refine zu3 ?_
 refine Ws ?_
 refine W_drawU [0, 1, 0, 1, 0, 0, 1, 0, 1, 0, 0, 1, 0, 1, 0, 0, 1, 0, 1, 0, 0, 0, 0] [0, 1, 2, 3, 4, 5, 6, 7, 8, 9, 10, 11, 12, 13, 14, 15, 16, 17, 18, 19, 20, 21, 22] mG rfl (by kernel_rfl) ?_
 refine z3 ?_
 refine z5 ?_
 refine z3 ?_
 refine z5 ?_
 iterate 2 refine z3 ?_
 refine z5 ?_
 refine z3 ?_
 refine z5 ?_
 iterate 2 refine z3 ?_
 refine z5 ?_
 refine Xa 16 rfl (sqN_eq x.a) ?_
 refine z3 ?_
 refine z5 ?_
 refine Xa 18 rfl (sqN_eq y.a) ?_
 refine Xc rfl rfl rfl rfl (fun _ => dC rfl Try.func14 rfl rfl ((ha) _)) ?_
 refine z3 ?_
 refine z5 ?_
 refine Xa 21 rfl (sqN_eq x.b) ?_
 refine z3 ?_
 refine z5 ?_
 refine Xa 23 rfl (sqN_eq y.b) ?_
 refine Xc rfl rfl rfl rfl (fun _ => dC rfl Try.func14 rfl rfl ((hb) _)) ?_
 refine z3 ?_
 refine Xa 25 rfl (bsL cBool [_, _, _, _] rfl rfl) ?_
 refine Xc rfl rfl rfl rfl (fun _ => dC rfl Try.func27 rfl rfl ((ast_all [x.kind == y.kind, x.n == y.n, sameL x.a y.a, sameL x.b y.b] (by simp)) _)) ?_
 refine z3 ?_
 refine WU_nil ?_
 refine zR ?_
 exact congrArg boo (by rw [sameN_parts, Bool.and_assoc]; simp; rfl)
theorem same_no {a b : List VNode} {k : Nat} (hk : k < a.length) (h : sameN (a.getD k default) (b.getD k default) = false) : sameL a b = false := by
 cases e : sameL a b with
 | false => rfl
 | true => have := sameL_get e hk; rw [h] at this; cases this
theorem eq_nodes (a b : List VNode) (ha : a.length ≤ 9223372036854775807) (hb : b.length ≤ 9223372036854775807) (hs : ∀ k, k < a.length → k < b.length → PureC Try.prog 26 [eNode (a.getD k default), eNode (b.getD k default)] (boo (sameN (a.getD k default) (b.getD k default)))) :
  PureC Try.prog 25 [sq cNode a, sq cNode b, .fn (.func 26) [] []] (boo (sameL a b)) := by
 refine pW tG (rs := [.tmp 6]) Try.func25 rfl rfl rfl (by (simp [Flat, FlatL]; done)) (by (simp; done)) (fun B => ?_)
 refine zu1 ?_
 refine Ws ?_
 refine zu5 ?_
 refine Wi rfl (fun hi1 => ?_) (fun hi1 => ?_)
 ·have hne : sameL a b = false := by
   cases e : sameL a b with
   | false => rfl
   | true => have := sameL_len e; rw [this] at hi1; simp at hi1
  refine zu1 ?_
  refine zR ?_
  exact congrArg boo hne.symm
 ·have hl : a.length = b.length := by (try simp only [dnL] at *); omega
  refine Wj ?_
  refine Ws ?_
  refine zu3 ?_
  refine Wl ?_
  show W _ _ _ _ _ _ _
  refine W_loopS (fun (k : Nat) => [(1, sq cNode b), (2, .fn (.func 26) [] []), (15, sq cNode a), (16, i64 a.length), (17, i64 k)]) (fun (k : Nat) => []) (fun (k : Nat) => []) (fun (k : Nat) => k ≤ a.length ∧ ∀ j, j < k → sameN (a.getD j default) (b.getD j default) = true) (fun (k : Nat) => a.length - k) (0) (by exact ⟨Nat.zero_le _, fun j hj => absurd hj (Nat.not_lt_zero _)⟩) [] ?_ ?_
  ·exact fitT
  ·intro k hk
   refine zu1 ?_
   refine Ws ?_
   refine Wi rfl (fun hi2 => ?_) (fun hi2 => ?_)
   ·have hlt : k < a.length := by have := oT hi2; omega
    refine Wj ?_
    refine Ws ?_
    refine Wl ?_
    refine zp1 ?_
    refine Wv tG rfl rfl rfl (by omega) (iN cNode 4 (fun _ => rfl) default (by omega)) ?_
    refine zs4 ?_
    refine zp2 ?_
    refine Wv tG rfl rfl rfl (by omega) (iN cNode 4 (fun _ => rfl) default (by omega)) ?_
    refine zs3 ?_
    refine zp3 ?_
    refine Wc rfl rfl (doesCWv rfl rfl Try.func26 rfl rfl ((hs k hlt (by omega)) _)) ?_
    refine zs1 ?_
    refine Wi rfl (fun hi3 => ?_) (fun hi3 => ?_)
    ·have q : sameN (a.getD k default) (b.getD k default) = false := by simpa using hi3
     refine zu1 ?_
     refine zR ?_
     exact congrArg boo (same_no hlt q).symm
    ·have q : sameN (a.getD k default) (b.getD k default) = true := by simpa using hi3
     refine Wj ?_
     refine W_region rfl ?_
     refine zs2 ?_
     exact ⟨k + 1, [], (by exact ⟨by omega, fun j hj => by rcases Nat.lt_succ_iff_lt_or_eq.1 hj with h | h; exact hk.2 j h; rw [h]; exact q⟩), (by omega), fitT⟩
   ·have hge : a.length ≤ k := by have := oF hi2; omega
    refine W_exit ?_
    refine zu1 ?_
    refine zR ?_
    exact congrArg boo (sameL_all hl (fun j hj => hk.2 j (by omega))).symm
theorem same_c : ∀ (n : Nat) (a : List VNode), szL a < n → okL a → ∀ b : List VNode, okL b → PureC Try.prog 14 [sq cNode a, sq cNode b] (boo (sameL a b)) := by
 intro n
 induction n with
 | zero => intro a h; omega
 | succ n ih =>
  intro a hn hN b hb
  have he := eq_nodes a b (ok_len hN) (ok_len hb) (fun k h1 h2 => by
   have q1 := node_sz h1
   have q2 := ok_get hN h1
   have q3 := ok_get hb h2
   exact same1_d _ _ (ih _ (by omega) q2.1 _ q3.1) (ih _ (by omega) q2.2 _ q3.2))
  refine pW tG (rs := [.tmp 4]) Try.func14 rfl rfl rfl (by simp) (by simp) (fun B => ?_)
  refine zu1 ?_
  refine zp2 ?_
  refine zc rfl Try.func25 ((he) _) ?_
  refine zs1 ?_
  refine zR ?_
  rfl
theorem ast_Same (a b : List VNode) (ha : okL a) (hb : okL b) : PureC Try.prog 14 [sq cNode a, sq cNode b] (boo (sameL a b)) := same_c _ a (Nat.lt_succ_self _) ha b hb
end Go.Proofs.Ytlponhgbbfgkgaa
namespace Go.Proofs.Ytlponhgbbfgkgaa
open Go.RowKit
set_option maxRecDepth 100000
set_option maxHeartbeats 8000000
def MayD (x : VNode) : Prop := ∀ o lp : Int, 0 ≤ lp → lp ≤ o → o ≤ 16 → PureC Try.prog 24 [eNode x, i64 o, i64 lp] (boo (mayN x o lp))
theorem may_in2 {x : VNode} {o l l' : Int} (hf : flagN x.kind x.n x.b = true) (hl : l' = if x.kind = 7 ∨ x.kind = 8 then l + 1 else l) (h : ¬ 16 ≤ o) : mayN x o l = (mayL x.a (o + 1) l' && mayL x.b (o + 1) l') := by
 have h1 : ¬ x.kind = 1 := fun q => by rw [q] at hf; cases hf
 have h2 : ¬ x.kind = 2 := fun q => by rw [q] at hf; cases hf
 have h9 : ¬ x.kind = 9 := fun q => by rw [q] at hf; cases hf
 have h10 : ¬ x.kind = 10 := fun q => by rw [q] at hf; cases hf
 have h11 : ¬ x.kind = 11 := fun q => by rw [q] at hf; cases hf
 rw [may_in h1 h2 h9 h10 h11 h, hf, ← hl, Bool.true_and]
theorem may_y (x : VNode) (ha : ∀ k, k < x.a.length → MayD (x.a.getD k default)) (hb : ∀ k, k < x.b.length → MayD (x.b.getD k default)) (hla : x.a.length ≤ 9223372036854775807) (hlb : x.b.length ≤ 9223372036854775807)
  (o lp : Int) (h0 : 0 ≤ lp) (h1 : lp ≤ o) (h2 : o ≤ 16) (hf : flagN x.kind x.n x.b = true) : PureC Try.prog 24 [eNode x, i64 o, i64 lp] (boo (mayN x o lp)) := by
 have w1 : IntKind.i64.wrap (o + 1) = o + 1 := i64_ok2 (by omega) (by omega)
 have w2 : IntKind.i64.wrap (lp + 1) = lp + 1 := i64_ok2 (by omega) (by omega)
 obtain ⟨l', hl'⟩ : ∃ l', l' = if x.kind = 7 ∨ x.kind = 8 then lp + 1 else lp := ⟨_, rfl⟩
 have b1 : 0 ≤ l' ∧ l' ≤ o + 1 := by rw [hl']; split <;> omega
 have n1 : ¬ x.kind = 1 := fun q => by rw [q] at hf; cases hf
 have n2 : ¬ x.kind = 2 := fun q => by rw [q] at hf; cases hf
 have n9 : ¬ x.kind = 9 := fun q => by rw [q] at hf; cases hf
 have n10 : ¬ x.kind = 10 := fun q => by rw [q] at hf; cases hf
 have n11 : ¬ x.kind = 11 := fun q => by rw [q] at hf; cases hf
 refine pW tG (rs := [.tmp 6]) Try.func24 rfl rfl rfl (by simp) (by simp) (fun B => ?_)
 refine zu2 ?_
 refine W_meet [(1, i64 o), (2, i64 lp), (3, .ptr 0 0), (7, boo (bareN x))] [.cells (cNode x) 62] [] ?_ ?_
 ·refine W_region rfl ?_
  refine zy5 ?_
  refine Wb 16 rfl (fun hg1 => ?_) (fun hg1 => ?_)
  ·refine zy5 ?_
   refine zs1 ?_
   exact ⟨[], (fitT (sub := by repeat (first | exact subL_nil | refine subL_cons (by first | exact imp_of rfl | exact imp_of (congrArg boo (by unfold bareN; rw [empty_len, empty_len, hg1]; rfl))) ?_)))⟩
  ·refine z6 ?_
   iterate 3 refine z6 ?_
   refine zs2 ?_
   exact ⟨[], (fitT (sub := by repeat (first | exact subL_nil | refine subL_cons (by first | exact imp_of rfl | exact imp_of (congrArg boo (by unfold bareN; rw [empty_len, empty_len, hg1]; rfl))) ?_)))⟩
 ·refine W_meet [(1, i64 o), (2, i64 l'), (3, .ptr 0 0)] [.cells (cNode x) 62] [] ?_ ?_
  ·refine zu2 ?_
   refine Wl ?_
   refine Ws ?_
   refine zu2 ?_
   refine Wf rfl (by simpa using n1) ?_
   refine W_region rfl ?_
   refine zs2 ?_
   refine Wf rfl (by simpa using n2) ?_
   refine zu2 ?_
   refine Wf rfl (by simpa using n9) ?_
   refine zu2 ?_
   refine Wf rfl (by simpa using n10) ?_
   refine zu2 ?_
   refine Wf rfl (by simpa using n11) ?_
   refine zu2 ?_
   refine Wi rfl (fun hi6 => ?_) (fun hi6 => ?_)
   ·have k3 : x.kind = 3 := by simpa using hi6
    refine zp4 ?_
    refine Wb 65 rfl (fun hg2 => ?_) (fun hg2 => ?_)
    ·refine zy4 ?_
     refine Wb 69 rfl (fun hg3 => ?_) (fun hg3 => ?_)
     ·refine z6 ?_
      iterate 3 refine z6 ?_
      refine zs2 ?_
      refine Wt rfl rfl ?_
      refine zu1 ?_
      refine zR ?_
      (exfalso; simp_all [flagN]; done)
     ·refine zy5 ?_
      refine zs1 ?_
      refine Wi rfl (fun hi7 => ?_) (fun hi7 => ?_)
      ·refine zu1 ?_
       refine zR ?_
       (exfalso; simp_all [flagN]; done)
      ·refine Wj ?_
       exact ⟨[], (fitT (sub := by repeat (first | exact subL_nil | refine subL_cons (by first | exact imp_of rfl | exact imp_of (congrArg i64 (by rw [hl']; (rw [if_neg (by omega)])))) ?_)))⟩
    ·refine z6 ?_
     iterate 8 refine z6 ?_
     refine zs1 ?_
     refine Wf rfl rfl ?_
     refine Wj ?_
     exact ⟨[], (fitT (sub := by repeat (first | exact subL_nil | refine subL_cons (by first | exact imp_of rfl | exact imp_of (congrArg i64 (by rw [hl']; (rw [if_neg (by omega)])))) ?_)))⟩
   ·have k3 : ¬ x.kind = 3 := by simpa using hi6
    refine Ws ?_
    refine zu2 ?_
    refine Wi rfl (fun hi8 => ?_) (fun hi8 => ?_)
    ·have k4 : x.kind = 4 := by simpa using hi8
     refine Wj ?_
     refine Wt rfl hi8 ?_
     refine zp4 ?_
     refine Wb 82 rfl (fun hg4 => ?_) (fun hg4 => ?_)
     ·refine z6 ?_
      iterate 3 refine z6 ?_
      refine zs1 ?_
      refine Wt rfl rfl ?_
      refine zu1 ?_
      refine zR ?_
      (exfalso; simp_all [flagN]; done)
     ·refine zs5 ?_
      refine Wi rfl (fun hi9 => ?_) (fun hi9 => ?_)
      ·refine zu1 ?_
       refine zR ?_
       (exfalso; simp_all [flagN]; done)
      ·refine Wj ?_
       exact ⟨[], (fitT (sub := by repeat (first | exact subL_nil | refine subL_cons (by first | exact imp_of rfl | exact imp_of (congrArg i64 (by rw [hl']; (rw [if_neg (by omega)])))) ?_)))⟩
    ·have k4 : ¬ x.kind = 4 := by simpa using hi8
     refine W_region rfl ?_
     refine zs2 ?_
     refine Wi rfl (fun hi10 => ?_) (fun hi10 => ?_)
     ·have k5 : x.kind = 5 := by simpa using hi10
      refine zp4 ?_
      refine Wb 82 rfl (fun hg4 => ?_) (fun hg4 => ?_)
      ·refine z6 ?_
       iterate 3 refine z6 ?_
       refine zs1 ?_
       refine Wt rfl rfl ?_
       refine zu1 ?_
       refine zR ?_
       (exfalso; simp_all [flagN]; done)
      ·refine zs5 ?_
       refine Wi rfl (fun hi9 => ?_) (fun hi9 => ?_)
       ·refine zu1 ?_
        refine zR ?_
        (exfalso; simp_all [flagN]; done)
       ·refine Wj ?_
        exact ⟨[], (fitT (sub := by repeat (first | exact subL_nil | refine subL_cons (by first | exact imp_of rfl | exact imp_of (congrArg i64 (by rw [hl']; (rw [if_neg (by omega)])))) ?_)))⟩
     ·have k5 : ¬ x.kind = 5 := by simpa using hi10
      refine zu2 ?_
      refine Wi rfl (fun hi11 => ?_) (fun hi11 => ?_)
      ·have k6 : x.kind = 6 := by simpa using hi11
       refine zu3 ?_
       refine Wi rfl (fun hi12 => ?_) (fun hi12 => ?_)
       ·refine zu1 ?_
        refine zR ?_
        (exfalso; simp_all [flagN]; done)
       ·refine Wj ?_
        exact ⟨[], (fitT (sub := by repeat (first | exact subL_nil | refine subL_cons (by first | exact imp_of rfl | exact imp_of (congrArg i64 (by rw [hl']; (rw [if_neg (by omega)])))) ?_)))⟩
      ·have k6 : ¬ x.kind = 6 := by simpa using hi11
       refine Ws ?_
       refine zu2 ?_
       refine Wi rfl (fun hi13 => ?_) (fun hi13 => ?_)
       ·have k7 : x.kind = 7 := by simpa using hi13
        refine Wj ?_
        refine Wt rfl hi13 ?_
        refine Ws ?_
        refine zp4 ?_
        refine Wb 99 rfl (fun hg5 => ?_) (fun hg5 => ?_)
        ·refine zy5 ?_
         refine Wb 104 rfl (fun hg6 => ?_) (fun hg6 => ?_)
         ·refine z6 ?_
          iterate 3 refine z6 ?_
          refine zs1 ?_
          refine Wt rfl rfl ?_
          refine zu1 ?_
          refine zR ?_
          (exfalso; simp_all [flagN]; done)
         ·refine zs5 ?_
          refine Wi rfl (fun hi14 => ?_) (fun hi14 => ?_)
          ·refine zu1 ?_
           refine zR ?_
           (exfalso; simp_all [flagN]; done)
          ·refine Wj ?_
           refine W_region rfl ?_
           refine zs3 ?_
           exact ⟨[], (fitT (sub := by repeat (first | exact subL_nil | refine subL_cons (by first | exact imp_of rfl | exact imp_of (congrArg i64 (by rw [hl']; ((rw [if_pos (by omega)]; exact w2))))) ?_)))⟩
        ·refine z6 ?_
         iterate 2 refine z6 ?_
         refine zy5 ?_
         refine zs2 ?_
         refine Wi rfl (fun hi14 => ?_) (fun hi14 => ?_)
         ·refine zu1 ?_
          refine zR ?_
          (exfalso; simp_all [flagN]; done)
         ·refine Wj ?_
          refine W_region rfl ?_
          refine zs3 ?_
          exact ⟨[], (fitT (sub := by repeat (first | exact subL_nil | refine subL_cons (by first | exact imp_of rfl | exact imp_of (congrArg i64 (by rw [hl']; ((rw [if_pos (by omega)]; exact w2))))) ?_)))⟩
       ·have k7 : ¬ x.kind = 7 := by simpa using hi13
        refine W_region rfl ?_
        refine zs2 ?_
        refine Wi rfl (fun hi15 => ?_) (fun hi15 => ?_)
        ·have k8 : x.kind = 8 := by simpa using hi15
         refine Ws ?_
         refine zp4 ?_
         refine Wb 99 rfl (fun hg5 => ?_) (fun hg5 => ?_)
         ·refine zy5 ?_
          refine Wb 104 rfl (fun hg6 => ?_) (fun hg6 => ?_)
          ·refine z6 ?_
           iterate 3 refine z6 ?_
           refine zs1 ?_
           refine Wt rfl rfl ?_
           refine zu1 ?_
           refine zR ?_
           (exfalso; simp_all [flagN]; done)
          ·refine zs5 ?_
           refine Wi rfl (fun hi14 => ?_) (fun hi14 => ?_)
           ·refine zu1 ?_
            refine zR ?_
            (exfalso; simp_all [flagN]; done)
           ·refine Wj ?_
            refine W_region rfl ?_
            refine zs3 ?_
            exact ⟨[], (fitT (sub := by repeat (first | exact subL_nil | refine subL_cons (by first | exact imp_of rfl | exact imp_of (congrArg i64 (by rw [hl']; ((rw [if_pos (by omega)]; exact w2))))) ?_)))⟩
         ·refine z6 ?_
          iterate 2 refine z6 ?_
          refine zy5 ?_
          refine zs2 ?_
          refine Wi rfl (fun hi14 => ?_) (fun hi14 => ?_)
          ·refine zu1 ?_
           refine zR ?_
           (exfalso; simp_all [flagN]; done)
          ·refine Wj ?_
           refine W_region rfl ?_
           refine zs3 ?_
           exact ⟨[], (fitT (sub := by repeat (first | exact subL_nil | refine subL_cons (by first | exact imp_of rfl | exact imp_of (congrArg i64 (by rw [hl']; ((rw [if_pos (by omega)]; exact w2))))) ?_)))⟩
        ·have k8 : ¬ x.kind = 8 := by simpa using hi15
         refine zu1 ?_
         refine zR ?_
         (exfalso; simp_all [flagN]; done)
  ·refine Ws ?_
   refine zu2 ?_
   refine Wi rfl (fun hi16 => ?_) (fun hi16 => ?_)
   ·have q6 : 16 ≤ o := oT hi16
    refine zu1 ?_
    refine zR ?_
    exact congrArg boo (may_deep n1 n2 n9 n10 n11 q6).symm
   ·have q6 : ¬ 16 ≤ o := oF hi16
    have eM := may_in2 hf hl' q6
    refine Wj ?_
    refine Ws ?_
    refine zu1 ?_
    refine Wl ?_
    show W _ _ _ _ _ _ _
    refine W_loopS (fun (k : Nat) => [(1, i64 o), (2, i64 l'), (3, .ptr 0 0), (8, i64 k)]) (fun (k : Nat) => [.cells (cNode x) 62]) (fun (k : Nat) => []) (fun (k : Nat) => k ≤ x.a.length ∧ mayL (x.a.take k) (o + 1) l' = true) (fun (k : Nat) => x.a.length - k) (0) (by exact ⟨Nat.zero_le _, by rw [List.take_zero, mayL]⟩) [] ?_ ?_
    ·exact fitT
    ·intro k hk
     refine Ws ?_
     refine zp3 ?_
     refine Wa 116 rfl (sqN_eq x.a) ?_
     refine zs2 ?_
     refine Wi rfl (fun hi17 => ?_) (fun hi17 => ?_)
     ·have hlt : k < x.a.length := by have := oT hi17; omega
      refine Wj ?_
      refine Ws ?_
      refine Wl ?_
      refine zp2 ?_
      refine Wa 122 rfl (sqN_eq x.a) ?_
      refine z1 ?_
      refine Wv tG rfl rfl rfl (by omega) (iN cNode 4 (fun _ => rfl) default (by omega)) ?_
      refine zy3 ?_
      refine Wa 127 rfl (congrArg (fun z => PV.val (Value.int .i64 z)) w1) ?_
      refine z1 ?_
      refine zc rfl Try.func24 ((ha k hlt (o + 1) l' b1.1 b1.2 (by omega)) _) ?_
      refine zs1 ?_
      refine zu2 ?_
      refine Wi rfl (fun hi18 => ?_) (fun hi18 => ?_)
      ·have q : mayN (x.a.getD k default) (o + 1) l' = false := by simpa using hi18
       refine zu1 ?_
       refine zR ?_
       exact congrArg boo (by rw [eM, mayL_no hlt q]; simp)
      ·have q : mayN (x.a.getD k default) (o + 1) l' = true := by simpa using hi18
       refine Wj ?_
       refine W_region rfl ?_
       refine zs3 ?_
       exact ⟨k + 1, [], (by exact ⟨by omega, by rw [mayL_get hlt, hk.2, q]; rfl⟩), (by omega), fitT⟩
     ·have hge : x.a.length ≤ k := by have := oF hi17; omega
      have hA : mayL x.a (o + 1) l' = true := by have h3 := hk.2; rw [take_all' x.a k hge] at h3; exact h3
      refine W_exit ?_
      refine Ws ?_
      refine zu1 ?_
      refine Wl ?_
      show W _ _ _ _ _ _ _
      refine W_loopS (fun (j : Nat) => [(1, i64 o), (2, i64 l'), (3, .ptr 0 0), (10, i64 j)]) (fun (j : Nat) => [.cells (cNode x) 62]) (fun (j : Nat) => []) (fun (j : Nat) => j ≤ x.b.length ∧ mayL (x.b.take j) (o + 1) l' = true) (fun (j : Nat) => x.b.length - j) (0) (by exact ⟨Nat.zero_le _, by rw [List.take_zero, mayL]⟩) [] ?_ ?_
      ·exact fitT
      ·intro j hj
       refine Ws ?_
       refine zp3 ?_
       refine Wa 134 rfl (sqN_eq x.b) ?_
       refine zs2 ?_
       refine Wi rfl (fun hi19 => ?_) (fun hi19 => ?_)
       ·have hlt : j < x.b.length := by have := oT hi19; omega
        refine Wj ?_
        refine Ws ?_
        refine Wl ?_
        refine zp2 ?_
        refine Wa 140 rfl (sqN_eq x.b) ?_
        refine z1 ?_
        refine Wv tG rfl rfl rfl (by omega) (iN cNode 4 (fun _ => rfl) default (by omega)) ?_
        refine zy3 ?_
        refine Wa 145 rfl (congrArg (fun z => PV.val (Value.int .i64 z)) w1) ?_
        refine z1 ?_
        refine zc rfl Try.func24 ((hb j hlt (o + 1) l' b1.1 b1.2 (by omega)) _) ?_
        refine zs1 ?_
        refine zu2 ?_
        refine Wi rfl (fun hi20 => ?_) (fun hi20 => ?_)
        ·have q : mayN (x.b.getD j default) (o + 1) l' = false := by simpa using hi20
         refine zu1 ?_
         refine zR ?_
         exact congrArg boo (by rw [eM, mayL_no hlt q]; simp)
        ·have q : mayN (x.b.getD j default) (o + 1) l' = true := by simpa using hi20
         refine Wj ?_
         refine W_region rfl ?_
         refine zs3 ?_
         exact ⟨j + 1, [], (by exact ⟨by omega, by rw [mayL_get hlt, hj.2, q]; rfl⟩), (by omega), fitT⟩
       ·have hge : x.b.length ≤ j := by have := oF hi19; omega
        have hB : mayL x.b (o + 1) l' = true := by have h3 := hj.2; rw [take_all' x.b j hge] at h3; exact h3
        refine W_exit ?_
        refine zu1 ?_
        refine zR ?_
        exact congrArg boo (by rw [eM, hA, hB]; rfl)
theorem nil_of {l : List VNode} (h : decide ((l.length : Int) > 0) = false) : l = [] := by
 cases l with
 | nil => rfl
 | cons a l => have := oF h; rw [List.length_cons] at this; omega
theorem fl_z {k n : Int} {b : List VNode} (hn : n = 0) (hb : b = []) (hk : k = 3 ∨ k = 4 ∨ k = 5 ∨ k = 7 ∨ k = 8) : flagN k n b = true := by
 subst hn hb; rcases hk with rfl | rfl | rfl | rfl | rfl <;> rfl
theorem fl_1 {k n : Int} {b : List VNode} (hn : n = 1) (hb : b = []) (hk : k = 7 ∨ k = 8) : flagN k n b = true := by
 subst hn hb; rcases hk with rfl | rfl <;> rfl
theorem may_none {x : VNode} {o l : Int} (h1 : ¬ x.kind = 1) (h2 : ¬ x.kind = 2) (h9 : ¬ x.kind = 9) (h10 : ¬ x.kind = 10) (h11 : ¬ x.kind = 11) (hf : ¬ flagN x.kind x.n x.b = true) : mayN x o l = false := by
 by_cases h : 16 ≤ o
 ·exact may_deep h1 h2 h9 h10 h11 h
 ·rw [may_in h1 h2 h9 h10 h11 h, show flagN x.kind x.n x.b = false by simpa using hf]; rfl
theorem may_x (x : VNode) (o lp : Int) (h0 : 0 ≤ lp) (h1 : lp ≤ o) (h2 : o ≤ 16) (hf : ¬ flagN x.kind x.n x.b = true) : PureC Try.prog 24 [eNode x, i64 o, i64 lp] (boo (mayN x o lp)) := by
 refine pW tG (rs := [.tmp 6]) Try.func24 rfl rfl rfl (by simp) (by simp) (fun B => ?_)
 refine zu2 ?_
 refine W_meet [(1, i64 o), (2, i64 lp), (3, .ptr 0 0), (7, boo (bareN x))] [.cells (cNode x) 62] [] ?_ ?_
 ·refine W_region rfl ?_
  refine zy5 ?_
  refine Wb 16 rfl (fun hg1 => ?_) (fun hg1 => ?_)
  ·refine zy5 ?_
   refine zs1 ?_
   exact ⟨[], (fitT (sub := by repeat (first | exact subL_nil | refine subL_cons (by first | exact imp_of rfl | exact imp_of (congrArg boo (by unfold bareN; rw [empty_len, empty_len, hg1]; rfl))) ?_)))⟩
  ·refine z6 ?_
   iterate 3 refine z6 ?_
   refine zs2 ?_
   exact ⟨[], (fitT (sub := by repeat (first | exact subL_nil | refine subL_cons (by first | exact imp_of rfl | exact imp_of (congrArg boo (by unfold bareN; rw [empty_len, empty_len, hg1]; rfl))) ?_)))⟩
 ·refine Ws ?_
  refine zu2 ?_
  refine Wl ?_
  refine Ws ?_
  refine zu2 ?_
  refine Wi rfl (fun hi1 => ?_) (fun hi1 => ?_)
  ·have k1 : x.kind = 1 := by simpa using hi1
   refine Wj ?_
   refine Wt rfl hi1 ?_
   refine zu2 ?_
   refine zR ?_
   exact congrArg boo (may_12 (.inl k1)).symm
  ·have k1 : ¬ x.kind = 1 := by simpa using hi1
   refine W_region rfl ?_
   refine zs2 ?_
   refine Wi rfl (fun hi2 => ?_) (fun hi2 => ?_)
   ·have k2 : x.kind = 2 := by simpa using hi2
    refine zu2 ?_
    refine zR ?_
    exact congrArg boo (may_12 (.inr k2)).symm
   ·have k2 : ¬ x.kind = 2 := by simpa using hi2
    refine zu2 ?_
    refine Wi rfl (fun hi3 => ?_) (fun hi3 => ?_)
    ·have k9 : x.kind = 9 := by simpa using hi3
     refine zp2 ?_
     refine Wb 31 rfl (fun hg2 => ?_) (fun hg2 => ?_)
     ·refine zy5 ?_
      refine Wb 36 rfl (fun hg3 => ?_) (fun hg3 => ?_)
      ·refine zs4 ?_
       refine zR ?_
       exact congrArg boo (by rw [may_9 k9]; simp_all <;> rfl)
      ·refine z6 ?_
       refine z6 ?_
       refine zs2 ?_
       refine zR ?_
       exact congrArg boo (by rw [may_9 k9]; simp_all <;> rfl)
     ·refine z6 ?_
      iterate 2 refine z6 ?_
      refine zy2 ?_
      iterate 2 refine z6 ?_
      refine zs2 ?_
      refine zR ?_
      exact congrArg boo (by rw [may_9 k9]; simp_all <;> rfl)
    ·have k9 : ¬ x.kind = 9 := by simpa using hi3
     refine zu2 ?_
     refine Wi rfl (fun hi4 => ?_) (fun hi4 => ?_)
     ·have k10 : x.kind = 10 := by simpa using hi4
      refine zp2 ?_
      refine Wb 43 rfl (fun hg4 => ?_) (fun hg4 => ?_)
      ·refine zy5 ?_
       refine Wb 48 rfl (fun hg5 => ?_) (fun hg5 => ?_)
       ·refine zs4 ?_
        refine zR ?_
        exact congrArg boo (by rw [may_10 k10]; simp_all <;> rfl)
       ·refine z6 ?_
        refine z6 ?_
        refine zs2 ?_
        refine zR ?_
        exact congrArg boo (by rw [may_10 k10]; simp_all <;> rfl)
      ·refine z6 ?_
       iterate 2 refine z6 ?_
       refine zy2 ?_
       iterate 2 refine z6 ?_
       refine zs2 ?_
       refine zR ?_
       exact congrArg boo (by rw [may_10 k10]; simp_all <;> rfl)
     ·have k10 : ¬ x.kind = 10 := by simpa using hi4
      refine zu2 ?_
      refine Wi rfl (fun hi5 => ?_) (fun hi5 => ?_)
      ·have k11 : x.kind = 11 := by simpa using hi5
       refine zp2 ?_
       refine Wb 55 rfl (fun hg6 => ?_) (fun hg6 => ?_)
       ·refine zs5 ?_
        refine zR ?_
        exact congrArg boo (by rw [may_11 k11]; simp_all <;> rfl)
       ·refine z6 ?_
        iterate 2 refine z6 ?_
        refine zs2 ?_
        refine zR ?_
        exact congrArg boo (by rw [may_11 k11]; simp_all <;> rfl)
      ·have k11 : ¬ x.kind = 11 := by simpa using hi5
       refine zu2 ?_
       refine Wi rfl (fun hi6 => ?_) (fun hi6 => ?_)
       ·have k3 : x.kind = 3 := by simpa using hi6
        refine zp4 ?_
        refine WO_true 65 rfl (by exact bne_iff_ne.2 (fun q => hf (by rw [k3, q]; rfl))) ?_
        refine zy4 ?_
        refine Wb 69 rfl (fun hg8 => ?_) (fun hg8 => ?_)
        ·refine z6 ?_
         iterate 3 refine z6 ?_
         refine zs2 ?_
         refine Wt rfl rfl ?_
         refine zu1 ?_
         refine zR ?_
         exact congrArg boo (may_none k1 k2 k9 k10 k11 hf).symm
        ·refine zy5 ?_
         refine zs1 ?_
         refine Wi rfl (fun hi7 => ?_) (fun hi7 => ?_)
         ·refine zu1 ?_
          refine zR ?_
          exact congrArg boo (may_none k1 k2 k9 k10 k11 hf).symm
         ·exact (hf (fl_z (by simpa using hg8) (nil_of hi7) (by omega))).elim
       ·have k3 : ¬ x.kind = 3 := by simpa using hi6
        refine Ws ?_
        refine zu2 ?_
        refine Wi rfl (fun hi8 => ?_) (fun hi8 => ?_)
        ·have k4 : x.kind = 4 := by simpa using hi8
         refine Wj ?_
         refine Wt rfl hi8 ?_
         refine zp4 ?_
         refine Wb 82 rfl (fun hg9 => ?_) (fun hg9 => ?_)
         ·refine z6 ?_
          iterate 3 refine z6 ?_
          refine zs1 ?_
          refine Wt rfl rfl ?_
          refine zu1 ?_
          refine zR ?_
          exact congrArg boo (may_none k1 k2 k9 k10 k11 hf).symm
         ·refine zs5 ?_
          refine Wi rfl (fun hi9 => ?_) (fun hi9 => ?_)
          ·refine zu1 ?_
           refine zR ?_
           exact congrArg boo (may_none k1 k2 k9 k10 k11 hf).symm
          ·exact (hf (fl_z (by simpa using hg9) (nil_of hi9) (by omega))).elim
        ·have k4 : ¬ x.kind = 4 := by simpa using hi8
         refine W_region rfl ?_
         refine zs2 ?_
         refine Wi rfl (fun hi10 => ?_) (fun hi10 => ?_)
         ·have k5 : x.kind = 5 := by simpa using hi10
          refine zp4 ?_
          refine Wb 82 rfl (fun hg9 => ?_) (fun hg9 => ?_)
          ·refine z6 ?_
           iterate 3 refine z6 ?_
           refine zs1 ?_
           refine Wt rfl rfl ?_
           refine zu1 ?_
           refine zR ?_
           exact congrArg boo (may_none k1 k2 k9 k10 k11 hf).symm
          ·refine zs5 ?_
           refine Wi rfl (fun hi9 => ?_) (fun hi9 => ?_)
           ·refine zu1 ?_
            refine zR ?_
            exact congrArg boo (may_none k1 k2 k9 k10 k11 hf).symm
           ·exact (hf (fl_z (by simpa using hg9) (nil_of hi9) (by omega))).elim
         ·have k5 : ¬ x.kind = 5 := by simpa using hi10
          refine zu2 ?_
          refine Wi rfl (fun hi11 => ?_) (fun hi11 => ?_)
          ·have k6 : x.kind = 6 := by simpa using hi11
           refine zu3 ?_
           refine Wt rfl (by exact bne_iff_ne.2 (fun q => hf (by rw [k6, q]; rfl))) ?_
           refine zu1 ?_
           refine zR ?_
           exact congrArg boo (may_none k1 k2 k9 k10 k11 hf).symm
          ·have k6 : ¬ x.kind = 6 := by simpa using hi11
           refine Ws ?_
           refine zu2 ?_
           refine Wi rfl (fun hi13 => ?_) (fun hi13 => ?_)
           ·have k7 : x.kind = 7 := by simpa using hi13
            refine Wj ?_
            refine Wt rfl hi13 ?_
            refine Ws ?_
            refine zp4 ?_
            refine Wb 99 rfl (fun hg10 => ?_) (fun hg10 => ?_)
            ·refine zy5 ?_
             refine Wb 104 rfl (fun hg11 => ?_) (fun hg11 => ?_)
             ·refine z6 ?_
              iterate 3 refine z6 ?_
              refine zs1 ?_
              refine Wt rfl rfl ?_
              refine zu1 ?_
              refine zR ?_
              exact congrArg boo (may_none k1 k2 k9 k10 k11 hf).symm
             ·refine zs5 ?_
              refine Wi rfl (fun hi14 => ?_) (fun hi14 => ?_)
              ·refine zu1 ?_
               refine zR ?_
               exact congrArg boo (may_none k1 k2 k9 k10 k11 hf).symm
              ·exact (hf (fl_1 (by simpa using hg11) (nil_of hi14) (by omega))).elim
            ·refine z6 ?_
             iterate 2 refine z6 ?_
             refine zy5 ?_
             refine zs2 ?_
             refine Wi rfl (fun hi14 => ?_) (fun hi14 => ?_)
             ·refine zu1 ?_
              refine zR ?_
              exact congrArg boo (may_none k1 k2 k9 k10 k11 hf).symm
             ·exact (hf (fl_z (by simpa using hg10) (nil_of hi14) (by omega))).elim
           ·have k7 : ¬ x.kind = 7 := by simpa using hi13
            refine W_region rfl ?_
            refine zs2 ?_
            refine Wi rfl (fun hi15 => ?_) (fun hi15 => ?_)
            ·have k8 : x.kind = 8 := by simpa using hi15
             refine Ws ?_
             refine zp4 ?_
             refine Wb 99 rfl (fun hg10 => ?_) (fun hg10 => ?_)
             ·refine zy5 ?_
              refine Wb 104 rfl (fun hg11 => ?_) (fun hg11 => ?_)
              ·refine z6 ?_
               iterate 3 refine z6 ?_
               refine zs1 ?_
               refine Wt rfl rfl ?_
               refine zu1 ?_
               refine zR ?_
               exact congrArg boo (may_none k1 k2 k9 k10 k11 hf).symm
              ·refine zs5 ?_
               refine Wi rfl (fun hi14 => ?_) (fun hi14 => ?_)
               ·refine zu1 ?_
                refine zR ?_
                exact congrArg boo (may_none k1 k2 k9 k10 k11 hf).symm
               ·exact (hf (fl_1 (by simpa using hg11) (nil_of hi14) (by omega))).elim
             ·refine z6 ?_
              iterate 2 refine z6 ?_
              refine zy5 ?_
              refine zs2 ?_
              refine Wi rfl (fun hi14 => ?_) (fun hi14 => ?_)
              ·refine zu1 ?_
               refine zR ?_
               exact congrArg boo (may_none k1 k2 k9 k10 k11 hf).symm
              ·exact (hf (fl_z (by simpa using hg10) (nil_of hi14) (by omega))).elim
            ·have k8 : ¬ x.kind = 8 := by simpa using hi15
             refine zu1 ?_
             refine zR ?_
             exact congrArg boo (may_none k1 k2 k9 k10 k11 hf).symm
theorem ok_getN {l : List VNode} {k : Nat} (h : okL l) (hk : k < l.length) : okN (l.getD k default) := ok_mem h (by rw [List.getD_eq_getElem?_getD, List.getElem?_eq_getElem hk]; exact List.getElem_mem _)
theorem mayD_c : ∀ (n : Nat) (x : VNode), szN x < n → okN x → MayD x := by
 intro n
 induction n with
 | zero => intro x h; omega
 | succ n ih =>
  intro x hx hn o lp h0 h1 h2
  rw [sz_parts] at hx
  have hq : okL x.a ∧ okL x.b := by cases x; rw [okN] at hn; exact hn
  by_cases hf : flagN x.kind x.n x.b = true
  ·exact may_y x (fun k hk => ih _ (by have := sz_get hk; omega) (ok_getN hq.1 hk)) (fun k hk => ih _ (by have := sz_get hk; omega) (ok_getN hq.2 hk)) (ok_len hq.1) (ok_len hq.2) o lp h0 h1 h2 hf
  ·exact may_x x o lp h0 h1 h2 hf
theorem ref_May (l : List VNode) (h : okL l) : PureC Try.prog 13 [sq cNode l] (boo (mayL l 0 0)) := by
 have hl := ok_len h
 refine pW tG (rs := [.tmp 2]) Try.func13 rfl rfl rfl (by simp) (by simp) (fun B => ?_)
 refine zu1 ?_
 refine Ws ?_
 refine zu1 ?_
 refine Wl ?_
 show W _ _ _ _ _ _ _
 refine W_loopS (fun (k : Nat) => [(0, sq cNode l), (3, i64 k)]) (fun (k : Nat) => []) (fun (k : Nat) => []) (fun (k : Nat) => k ≤ l.length ∧ mayL (l.take k) 0 0 = true) (fun (k : Nat) => l.length - k) (0) (by exact ⟨Nat.zero_le _, by rw [List.take_zero, mayL]⟩) [] ?_ ?_
 ·exact fitT
 ·intro k hk
  refine Ws ?_
  refine zu4 ?_
  refine Wi rfl (fun hi1 => ?_) (fun hi1 => ?_)
  ·have hlt : k < l.length := by have := oT hi1; omega
   refine Wj ?_
   refine Ws ?_
   refine Wl ?_
   refine zp2 ?_
   refine Wv tG rfl rfl rfl (by omega) (iN cNode 4 (fun _ => rfl) default (by omega)) ?_
   refine z1 ?_
   refine zc rfl Try.func24 ((mayD_c _ (l.getD k default) (Nat.lt_succ_self _) (ok_getN h hlt) 0 0 (by omega) (by omega) (by omega)) _) ?_
   refine zs1 ?_
   refine zu2 ?_
   refine Wi rfl (fun hi2 => ?_) (fun hi2 => ?_)
   ·have q : mayN (l.getD k default) 0 0 = false := by simpa using hi2
    refine zu1 ?_
    refine zR ?_
    exact congrArg boo (mayL_no hlt q).symm
   ·have q : mayN (l.getD k default) 0 0 = true := by simpa using hi2
    refine Wj ?_
    refine W_region rfl ?_
    refine zs3 ?_
    exact ⟨k + 1, [], (by exact ⟨by omega, by rw [mayL_get hlt, hk.2, q]; rfl⟩), (by omega), fitT⟩
  ·have hge : l.length ≤ k := by have := oF hi1; omega
   refine W_exit ?_
   refine zu1 ?_
   refine zR ?_
   exact congrArg boo (by have h3 := hk.2; rw [take_all' l k hge] at h3; exact h3.symm)
theorem sameD_c : ∀ (n : Nat) (a : List VNode), szL a < n → okL a → ∀ b : List VNode, okL b → PureC Try.prog 11 [sq cNode a, sq cNode b] (boo (sameL a b)) := by
 intro n
 induction n with
 | zero => intro a h; omega
 | succ n ih =>
  intro a hn hN b hb
  have hla := ok_len hN
  have hlb := ok_len hb
  refine pW tG (rs := [.tmp 4]) Try.func11 rfl rfl rfl (by simp) (by simp) (fun B => ?_)
  refine zu1 ?_
  refine Ws ?_
  refine zu5 ?_
  refine Wi rfl (fun hi1 => ?_) (fun hi1 => ?_)
  ·have hne : sameL a b = false := by
    cases e : sameL a b with
    | false => rfl
    | true => have := sameL_len e; rw [this] at hi1; simp at hi1
   refine zu1 ?_
   refine zR ?_
   exact congrArg boo hne.symm
  ·have hl : a.length = b.length := by (try simp only [dnL] at *); omega
   refine Wj ?_
   refine Ws ?_
   refine zu1 ?_
   refine Wl ?_
   show W _ _ _ _ _ _ _
   refine W_loopS (fun (k : Nat) => [(0, sq cNode a), (1, sq cNode b), (5, i64 k)]) (fun (k : Nat) => []) (fun (k : Nat) => []) (fun (k : Nat) => k ≤ a.length ∧ ∀ j, j < k → sameN (a.getD j default) (b.getD j default) = true) (fun (k : Nat) => a.length - k) (0) (by exact ⟨Nat.zero_le _, fun j hj => absurd hj (Nat.not_lt_zero _)⟩) [] ?_ ?_
   ·exact fitT
   ·intro k hk
    refine Ws ?_
    refine zu4 ?_
    refine Wi rfl (fun hi2 => ?_) (fun hi2 => ?_)
    ·have hlt : k < a.length := by have := oT hi2; omega
     have hlt2 : k < b.length := by omega
     have q1 := node_sz hlt
     have q2 := ok_get hN hlt
     have q3 := ok_get hb hlt2
     have eN := sameN_parts (a.getD k default) (b.getD k default)
     refine Wj ?_
     refine Ws ?_
     refine Wl ?_
     iterate 2 refine Ws ?_
     refine W_drawU [0, 0, 0, 0, 1, 0, 0, 0, 0, 1, 0, 0, 0, 0, 0, 0, 1, 0, 0, 0, 0, 1, 0, 0] [0, 1, 2, 3, 4, 5, 6, 7, 8, 9, 10, 11, 12, 13, 14, 15, 16, 17, 18, 19, 20, 21, 22, 23] mG rfl (by kernel_rfl) ?_
     iterate 2 refine z3 ?_
     refine Xi tG rfl rfl rfl rfl (fun _ => rfl) (by omega) (iN cNode 4 (fun _ => rfl) default (by omega)) ?_
     refine z3 ?_
     refine z5 ?_
     iterate 2 refine z3 ?_
     refine Xi tG rfl rfl rfl rfl (fun _ => rfl) (by omega) (iN cNode 4 (fun _ => rfl) default (by omega)) ?_
     refine z3 ?_
     refine z5 ?_
     iterate 2 refine z3 ?_
     refine WU_split 30 rfl (fun hg1 => ?_) (fun hg1 => ?_)
     ·refine z7 ?_
      iterate 10 refine z7 ?_
      refine z3 ?_
      refine WU_nil ?_
      refine Wt rfl rfl ?_
      refine zu1 ?_
      refine zR ?_
      exact congrArg boo (same_no hlt (by rw [eN]; simp_all)).symm
     ·refine z3 ?_
      refine z3 ?_
      refine Xi tG rfl rfl rfl rfl (fun _ => rfl) (by omega) (iN cNode 4 (fun _ => rfl) default (by omega)) ?_
      refine z3 ?_
      refine z5 ?_
      iterate 2 refine z3 ?_
      refine Xi tG rfl rfl rfl rfl (fun _ => rfl) (by omega) (iN cNode 4 (fun _ => rfl) default (by omega)) ?_
      refine z3 ?_
      refine z5 ?_
      iterate 2 refine z3 ?_
      refine WU_nil ?_
      refine Wi rfl (fun hi3 => ?_) (fun hi3 => ?_)
      ·refine zu1 ?_
       refine zR ?_
       exact congrArg boo (same_no hlt (by rw [eN]; simp_all)).symm
      ·refine Wj ?_
       refine Ws ?_
       refine W_drawU [0, 0, 0, 0, 1, 0, 0, 0, 0, 1, 0, 0] [0, 1, 2, 3, 4, 5, 6, 7, 8, 9, 10, 11] mG rfl (by kernel_rfl) ?_
       iterate 2 refine z3 ?_
       refine Xi tG rfl rfl rfl rfl (fun _ => rfl) (by omega) (iN cNode 4 (fun _ => rfl) default (by omega)) ?_
       refine z3 ?_
       refine z5 ?_
       refine Xa 47 rfl (sqN_eq (a.getD k default).a) ?_
       iterate 2 refine z3 ?_
       refine Xi tG rfl rfl rfl rfl (fun _ => rfl) (by omega) (iN cNode 4 (fun _ => rfl) default (by omega)) ?_
       refine z3 ?_
       refine z5 ?_
       refine Xa 52 rfl (sqN_eq (b.getD k default).a) ?_
       refine Xc rfl rfl rfl rfl (fun _ => dC rfl Try.func11 rfl rfl ((ih (a.getD k default).a (by omega) q2.1 (b.getD k default).a q3.1) _)) ?_
       refine z3 ?_
       refine WU_nil ?_
       refine Ws ?_
       refine W_drawU [0, 0, 0, 0, 1, 0, 0, 0, 0, 1, 0, 0] [0, 1, 2, 3, 4, 5, 6, 7, 8, 9, 10, 11] mG rfl (by kernel_rfl) ?_
       iterate 2 refine z3 ?_
       refine Xi tG rfl rfl rfl rfl (fun _ => rfl) (by omega) (iN cNode 4 (fun _ => rfl) default (by omega)) ?_
       refine z3 ?_
       refine z5 ?_
       refine Xa 58 rfl (sqN_eq (a.getD k default).b) ?_
       iterate 2 refine z3 ?_
       refine Xi tG rfl rfl rfl rfl (fun _ => rfl) (by omega) (iN cNode 4 (fun _ => rfl) default (by omega)) ?_
       refine z3 ?_
       refine z5 ?_
       refine Xa 63 rfl (sqN_eq (b.getD k default).b) ?_
       refine Xc rfl rfl rfl rfl (fun _ => dC rfl Try.func11 rfl rfl ((ih (a.getD k default).b (by omega) q2.2 (b.getD k default).b q3.2) _)) ?_
       refine z3 ?_
       refine WU_nil ?_
       refine zp3 ?_
       refine Wb 67 rfl (fun hg2 => ?_) (fun hg2 => ?_)
       ·refine z6 ?_
        refine z6 ?_
        refine zs1 ?_
        refine Wt rfl rfl ?_
        refine zu1 ?_
        refine zR ?_
        exact congrArg boo (same_no hlt (by rw [eN]; simp_all)).symm
       ·refine zs3 ?_
        refine Wi rfl (fun hi4 => ?_) (fun hi4 => ?_)
        ·refine zu1 ?_
         refine zR ?_
         exact congrArg boo (same_no hlt (by rw [eN]; simp_all)).symm
        ·refine Wj ?_
         refine W_region rfl ?_
         refine zs3 ?_
         exact ⟨k + 1, [], (by exact ⟨by omega, fun j hj => by rcases Nat.lt_succ_iff_lt_or_eq.1 hj with h | h; exact hk.2 j h; rw [h, eN]; simp_all⟩), (by omega), fitT⟩
    ·have hge : a.length ≤ k := by have := oF hi2; omega
     refine W_exit ?_
     refine zu1 ?_
     refine zR ?_
     exact congrArg boo (sameL_all hl (fun j hj => hk.2 j (by omega))).symm
theorem ref_Same16 (a b : List VNode) (ha : okL a) (hb : okL b) : PureC Try.prog 11 [sq cNode a, sq cNode b] (boo (sameL a b)) := sameD_c _ a (Nat.lt_succ_self _) ha b hb
end Go.Proofs.Ytlponhgbbfgkgaa
namespace Go.Proofs.Ytlponhgbbfgkgaa
open Go.RowKit
set_option maxRecDepth 100000
set_option maxHeartbeats 8000000
def cPl (v : VVm) (ws : List Str) (s : DSt) : List PV := cVm v ++ [sq cStr ws, i64 (atN ws s.rest), i64 s.bad]
@[simp] theorem flat_cPl (v : VVm) (ws : List Str) (s : DSt) : FlatL (cPl v ws s) := by simp [cPl, cVm]
theorem pl_fail (v : VVm) (ws : List Str) (s : DSt) (e : Int) : ∀ (H : List Ob) (i : Nat), H[i]? = some (.cells (cPl v ws s) 71) → HC Try.prog 40 (.ptr i 0 :: [i64 e]) H (.tup []) (H.set i (.cells (cPl v ws (s.fail e)) 71)) := by
 refine mut_of_W tG (rs := []) Try.func40 rfl rfl rfl (by simp) (by simp) (by simp) (by simp) (fun B => ?_)
 refine zu5 ?_
 refine Wi rfl (fun hi1 => ?_) (fun hi1 => ?_)
 ·have h0 : s.bad = 0 := by simpa using hi1
  refine W_region rfl ?_
  refine zs5 ?_
  refine leafMn rfl rfl ?_ ?_
  ·rfl
  ·(rw [dfail0 h0]; rfl)
 ·have h0 : s.bad ≠ 0 := by simpa using hi1
  refine Wj ?_
  refine leafMn rfl rfl ?_ ?_
  ·rfl
  ·(rw [dfail1 h0]; rfl)
def specialS (k : Int) : Str := if 300 ≤ k ∧ k < 337 then specials.getD (k - 300).toNat [] else []
theorem ref_special16 (k : Int) (hk : Fit64 k) : PureC Try.prog 68 [i64 k] (str (specialS k)) := by
 have hsl := specials_len
 unfold Fit64 at hk
 have w0 : IntKind.i64.wrap (300 + (specials.length : Int)) = 337 := by rw [hsl]; rfl
 refine pW tG (rs := [.tmp 2]) Try.func68 rfl rfl rfl (by simp) (by simp) (fun B => ?_)
 refine zu1 ?_
 refine z8 ?_
 refine zc rfl Try.func46 ((ref_Specials) _) ?_
 refine zs1 ?_
 refine Ws ?_
 refine zp3 ?_
 refine Wb 7 rfl (fun hg1 => ?_) (fun hg1 => ?_)
 ·refine zy5 ?_
  refine zs1 ?_
  refine Wi rfl (fun hi1 => ?_) (fun hi1 => ?_)
  ·have hq : 300 ≤ k ∧ k < 337 := by (try simp only [dnL] at *); omega
   have w4 : IntKind.i64.wrap (k - 300) = ((k - 300).toNat : Int) := by rw [i64_ok2 (by omega) (by omega)]; omega
   have hlt : (k - 300).toNat < specials.length := by rw [hsl]; omega
   refine zp3 ?_
   refine Wa 16 rfl (congrArg (fun z => PV.val (Value.int .i64 z)) w4) ?_
   refine Wv tG rfl rfl rfl (by omega) (iN cStr 1 (fun _ => rfl) [] (by omega)) ?_
   refine zs2 ?_
   refine zR ?_
   (unfold specialS; rw [if_pos hq]; rfl)
  ·refine Wj ?_
   refine zu1 ?_
   refine zR ?_
   (unfold specialS; rw [if_neg (by (try simp only [dnL] at *); omega)]; rfl)
 ·refine z6 ?_
  iterate 4 refine z6 ?_
  refine zs1 ?_
  refine Wf rfl rfl ?_
  refine Wj ?_
  refine zu1 ?_
  refine zR ?_
  (unfold specialS; rw [if_neg (by (try simp only [dnL] at *); omega)]; rfl)
theorem ref_in16 (l : List Str) (s : Str) (hl : l.length ≤ 1000000) : PureC Try.prog 39 [sq cStr l, str s] (boo (decide (s ∈ l))) := by
 refine pW tG (rs := [.tmp 4]) Try.func39 rfl rfl rfl (by simp) (by simp) (fun B => ?_)
 refine zu1 ?_
 refine Ws ?_
 refine zu1 ?_
 refine Wl ?_
 show W _ _ _ _ _ _ _
 refine W_loopS (fun (k : Nat) => [(0, sq cStr l), (1, str s), (5, i64 k)]) (fun (k : Nat) => []) (fun (k : Nat) => []) (fun (k : Nat) => k ≤ l.length ∧ s ∉ l.take k) (fun (k : Nat) => l.length - k) (0) (by exact ⟨Nat.zero_le _, by simp⟩) [] ?_ ?_
 ·exact fitT
 ·intro k hk
  refine Ws ?_
  refine zu4 ?_
  refine Wi rfl (fun hi1 => ?_) (fun hi1 => ?_)
  ·have hlt : k < l.length := by have := oT hi1; omega
   refine Wj ?_
   refine Ws ?_
   refine Wl ?_
   refine zp2 ?_
   refine Wv tG rfl rfl rfl (by omega) (iN cStr 1 (fun _ => rfl) [] (by omega)) ?_
   refine zy3 ?_
   refine zq 17 ?_
   refine Wn ?_
   refine Wi rfl (fun hi2 => ?_) (fun hi2 => ?_)
   ·have he : l.getD k [] = s := oT hi2
    refine zu1 ?_
    refine zR ?_
    exact congrArg boo (Eq.symm (decide_eq_true (by rw [← he, List.getD_eq_getElem?_getD, List.getElem?_eq_getElem hlt]; exact List.getElem_mem hlt)))
   ·have he : ¬ l.getD k [] = s := oF hi2
    refine Wj ?_
    refine W_region rfl ?_
    refine zs3 ?_
    exact ⟨k + 1, [], (by exact ⟨hlt, by rw [List.take_succ_eq_append_getElem hlt, List.mem_append, List.mem_singleton]; rintro (h | h); exact hk.2 h; exact he (by rw [List.getD_eq_getElem?_getD, List.getElem?_eq_getElem hlt]; exact h.symm)⟩), (by omega), fitT⟩
  ·have hge : l.length ≤ k := by have := oF hi1; omega
   refine W_exit ?_
   refine zu1 ?_
   refine zR ?_
   exact congrArg boo (Eq.symm (decide_eq_false (by have := hk.2; rwa [List.take_of_length_le hge] at this)))
end Go.Proofs.Ytlponhgbbfgkgaa
namespace Go.Proofs.Ytlponhgbbfgkgaa
open Go.RowKit
set_option maxRecDepth 100000
set_option maxHeartbeats 8000000
theorem ref_Base11 (v : VVm) (hm : v.mem.b.length ≤ 140737488355328) : PureC Try.prog 66 [eVm v] (i64 (memFetch v.mem 0).1) := by
 refine pW tG (rs := [.tmp 2]) Try.func66 rfl rfl rfl (by simp) (by simp) (fun B => ?_)
 refine zu2 ?_
 refine zp2 ?_
 refine zc rfl Try.func92 ((ref_Fetch v.mem 0 hm fit0) _) ?_
 refine zs5 ?_
 refine zu2 ?_
 refine zR ?_
 rfl
theorem kind_all (v : VVm) (xt : Int) : kindOk (vmKind v xt).1 := by
 unfold vmKind
 split
 ·split
  ·assumption
  ·unfold kindOk; omega
 ·unfold kindOk; omega
theorem kind_fit (v : VVm) (xt : Int) : Fit64 (vmKind v xt).1 := by
 have := kind_all v xt
 unfold kindOk at this
 unfold Fit64
 omega
theorem dfail_0 (s : DSt) : s.fail 0 = s := by
 unfold DSt.fail
 split
 ·cases s; simp_all
 ·rfl
def plainK (k l f : Int) : Prop := ¬ (f % 2 = 1 ∨ (k < 23 ∧ k ≠ 14 ∧ ¬ (k = 15 ∧ 1 ≤ l) ∧ ¬ (k = 16 ∧ 2 ≤ l)))
instance (k l f : Int) : Decidable (plainK k l f) := by unfold plainK; infer_instance
def wdS (v : VVm) (w : Str) (l : Int) (s : DSt) : DSt × VNode × Str :=
 if (findS v.dict w).2.2 = false then (if (parseS w (memFetch v.mem 0).1).2 = true then s else s.fail (-13), .mk 1 (parseS w (memFetch v.mem 0).1).1 [] [], [])
 else if specialS (vmKind v (findS v.dict w).1.xt).1 ≠ [] then (s.fail (vmKind v (findS v.dict w).1.xt).2, .mk 0 0 [] [], specialS (vmKind v (findS v.dict w).1.xt).1)
 else (if plainK (vmKind v (findS v.dict w).1.xt).1 l (findS v.dict w).1.flags then s.fail (vmKind v (findS v.dict w).1.xt).2 else (s.fail (vmKind v (findS v.dict w).1.xt).2).fail (-32), .mk 2 (findS v.dict w).1.xt [] [], [])
theorem special_in {k : Int} (h : 300 ≤ k) (hk : kindOk k) : specialS k = specials.getD (k - 300).toNat [] ∧ specialS k ≠ [] := by
 unfold kindOk at hk
 have e : specialS k = specials.getD (k - 300).toNat [] := by unfold specialS; rw [if_pos (by omega)]
 exact ⟨e, by rw [e]; exact specials_ne _ (by omega)⟩
theorem special_out {k : Int} (h : ¬ 300 ≤ k) : specialS k = [] := by unfold specialS; rw [if_neg (fun q => h q.1)]
theorem plain_fits {k l f : Int} (hk : kindOk k) (h : ¬ 300 ≤ k) (h0 : 0 ≤ f) : plainK k l f ↔ (fitsK k l = true ∧ f % 2 = 0) := by
 unfold plainK fitsK
 unfold kindOk at hk
 (try simp only [dnL] at *)
 omega
theorem wd_rd (v : VVm) (w : Str) (l : Int) (s : DSt) (hf : 0 ≤ (findS v.dict w).1.flags) (hs : s.bad = 0) :
  (wdS v w l s).1 = s.fail (rdS v w l).1 ∧ ((rdS v w l).1 = 0 → (wdS v w l s).2 = ((rdS v w l).2.2, (rdS v w l).2.1)) := by
 unfold wdS rdS
 by_cases c1 : (findS v.dict w).2.2 = false
 ·rw [if_pos c1, if_pos c1]
  by_cases c2 : (parseS w (memFetch v.mem 0).1).2 = true
  ·rw [if_pos c2, if_pos c2]; exact ⟨(dfail_0 s).symm, fun _ => rfl⟩
  ·rw [if_neg c2, if_neg c2]; exact ⟨rfl, fun _ => rfl⟩
 ·rw [if_neg c1, if_neg c1]
  have hk := kind_all v (findS v.dict w).1.xt
  by_cases c3 : (vmKind v (findS v.dict w).1.xt).2 ≠ 0
  ·rw [if_pos c3]
   have k0 : (vmKind v (findS v.dict w).1.xt).1 = 0 := by
    unfold vmKind at c3 ⊢
    split at c3
    ·split at c3
     ·exact absurd rfl c3
     ·rename_i a b; rw [if_pos a, if_neg b]
    ·rename_i a; rw [if_neg a]
   rw [k0, if_neg (by decide)]
   refine ⟨?_, fun h => absurd h c3⟩
   dsimp only
   have hb : (s.fail (vmKind v (findS v.dict w).1.xt).2).bad ≠ 0 := by rw [dfail0 hs]; exact c3
   split
   ·rfl
   ·exact dfail1 hb
  ·rw [if_neg c3]
   have c3' := Decidable.not_not.1 c3
   by_cases c4 : 300 ≤ (vmKind v (findS v.dict w).1.xt).1
   ·obtain ⟨e1, e2⟩ := special_in c4 hk
    rw [if_pos c4, if_pos e2, c3', e1]
    exact ⟨rfl, fun _ => rfl⟩
   ·rw [if_neg c4, special_out c4, if_neg (fun q => q rfl), c3', dfail_0]
    by_cases c5 : fitsK (vmKind v (findS v.dict w).1.xt).1 l = true ∧ (findS v.dict w).1.flags % 2 = 0
    ·rw [if_pos c5, if_pos ((plain_fits hk c4 hf).2 c5)]; exact ⟨(dfail_0 s).symm, fun _ => rfl⟩
    ·rw [if_neg c5, if_neg (fun h => c5 ((plain_fits hk c4 hf).1 h))]; exact ⟨rfl, fun _ => rfl⟩
theorem wds_a {v : VVm} {w : Str} {l : Int} {s : DSt} (h : (findS v.dict w).2.2 = false) : wdS v w l s = (if (parseS w (memFetch v.mem 0).1).2 = true then s else s.fail (-13), .mk 1 (parseS w (memFetch v.mem 0).1).1 [] [], []) := by unfold wdS; rw [if_pos h]
theorem wds_b {v : VVm} {w : Str} {l : Int} {s : DSt} (h : ¬ (findS v.dict w).2.2 = false) (k : ¬ specialS (vmKind v (findS v.dict w).1.xt).1 = []) : wdS v w l s = (s.fail (vmKind v (findS v.dict w).1.xt).2, .mk 0 0 [] [], specialS (vmKind v (findS v.dict w).1.xt).1) := by unfold wdS; rw [if_neg h, if_pos k]
theorem wds_c {v : VVm} {w : Str} {l : Int} {s : DSt} (h : ¬ (findS v.dict w).2.2 = false) (k : specialS (vmKind v (findS v.dict w).1.xt).1 = []) : wdS v w l s = (if plainK (vmKind v (findS v.dict w).1.xt).1 l (findS v.dict w).1.flags then s.fail (vmKind v (findS v.dict w).1.xt).2 else (s.fail (vmKind v (findS v.dict w).1.xt).2).fail (-32), .mk 2 (findS v.dict w).1.xt [] [], []) := by unfold wdS; rw [if_neg h, if_neg (fun q => q k)]
theorem flag_mod {f : Int} (h0 : 0 ≤ f) (h7 : f ≤ 7) : f.tmod 2 = f % 2 := Int.tmod_eq_emod_of_nonneg h0
theorem pl_word (v : VVm) (ws : List Str) (s : DSt) (hv : VRd v) (w : Str) (hw : w.length ≤ 9223372036854775807) (l : Int) : ∀ (H : List Ob) (i : Nat), H[i]? = some (.cells (cPl v ws s) 71) → HC Try.prog 41 (.ptr i 0 :: [str w, i64 l]) H (tup2 (eNode (wdS v w l s).2.1) (str (wdS v w l s).2.2)) (H.set i (.cells (cPl v ws (wdS v w l s).1) 71)) := by
 have hfl := hv.fl w
 have hm := flag_mod hfl.1 hfl.2
 refine mut_of_W tG (rs := [.cell 6 62, .tmp 7]) Try.func41 rfl rfl rfl (by simp) (by simp) (by simp) (by simp) (fun B => ?_)
 refine zu2 ?_
 refine zp5 ?_
 refine z1 ?_
 refine zc rfl Try.func64 ((ref_Find9 v.dict w hv.dict hw) _) ?_
 refine zy5 ?_
 refine zs3 ?_
 refine Ws ?_
 refine zu2 ?_
 refine Wi rfl (fun hi1 => ?_) (fun hi1 => ?_)
 ·have q1 : (findS v.dict w).2.2 = false := by simpa using hi1
  refine zp5 ?_
  refine zc rfl Try.func66 ((ref_Base11 v hv.mem) _) ?_
  refine zc rfl Try.func65 ((r_Parse w _ hw) _) ?_
  refine zs5 ?_
  refine Ws ?_
  refine zu2 ?_
  refine Wi rfl (fun hi2 => ?_) (fun hi2 => ?_)
  ·have q2 : ¬ (parseS w (memFetch v.mem 0).1).2 = true := by simpa using hi2
   refine W_region rfl ?_
   refine z1 ?_
   refine zc rfl Try.func40 ((pl_fail v ws s (-13)) _ _ rfl) ?_
   refine Wn ?_
   refine zu4 ?_
   refine Wq ?_
   refine leafM rfl rfl ?_ ?_
   ·(rw [wds_a q1]; rfl)
   ·(rw [wds_a q1, if_neg q2]; rfl)
  ·have q2 : (parseS w (memFetch v.mem 0).1).2 = true := by simpa using hi2
   refine Wj ?_
   refine zu4 ?_
   refine Wq ?_
   refine leafM rfl rfl ?_ ?_
   ·(rw [wds_a q1]; rfl)
   ·(rw [wds_a q1, if_pos q2]; rfl)
 ·have q1 : ¬ (findS v.dict w).2.2 = false := by simpa using hi1
  refine Wj ?_
  refine Ws ?_
  refine W_drawU [0, 0, 0, 1, 0, 1, 0, 0, 0, 0, 0, 0] [0, 1, 2, 3, 4, 5, 6, 7, 8, 9, 10, 11] mG rfl (by kernel_rfl) ?_
  iterate 3 refine z3 ?_
  refine z5 ?_
  refine z3 ?_
  refine z5 ?_
  refine Xc rfl rfl rfl rfl (fun _ => dC rfl Try.func67 rfl rfl ((ref_Kind v _ hv.mem (hv.xt w)) _)) ?_
  iterate 5 refine z3 ?_
  refine WU_nil ?_
  refine zp2 ?_
  refine zc rfl Try.func40 ((pl_fail v ws s _) _ _ rfl) ?_
  refine Wn ?_
  refine zp1 ?_
  refine zc rfl Try.func68 ((ref_special16 _ (kind_fit v _)) _) ?_
  refine zs1 ?_
  refine Ws ?_
  refine zp2 ?_
  refine Wa 61 rfl (str_neq _ _) ?_
  refine Wn ?_
  refine Wi rfl (fun hi3 => ?_) (fun hi3 => ?_)
  ·have q3 : ¬ specialS (vmKind v (findS v.dict w).1.xt).1 = [] := by simpa using hi3
   refine zu4 ?_
   refine Wq ?_
   refine leafM rfl rfl ?_ ?_
   ·(rw [wds_b q1 q3]; rfl)
   ·(rw [wds_b q1 q3]; rfl)
  ·have q3 : specialS (vmKind v (findS v.dict w).1.xt).1 = [] := by simpa using hi3
   refine Wj ?_
   refine Ws ?_
   refine zp3 ?_
   refine Wa 66 rfl (congrArg (fun z => PV.val (Value.int .i64 z)) hm) ?_
   refine zy2 ?_
   refine Wb 68 rfl (fun hg1 => ?_) (fun hg1 => ?_)
   ·refine z6 ?_
    iterate 23 refine z6 ?_
    refine zs1 ?_
    refine Wt rfl rfl ?_
    refine W_region rfl ?_
    refine z1 ?_
    refine zc rfl Try.func40 ((pl_fail v ws _ (-32)) _ _ rfl) ?_
    refine Wn ?_
    refine zu5 ?_
    refine Wq ?_
    refine leafM rfl rfl ?_ ?_
    ·(rw [wds_c q1 q3]; rfl)
    ·(rw [wds_c q1 q3, if_neg (by unfold plainK; (try simp only [dnL] at *); omega)]; rfl)
   ·refine zy3 ?_
    refine Wb 71 rfl (fun hg2 => ?_) (fun hg2 => ?_)
    ·refine zy4 ?_
     refine Wb 75 rfl (fun hg3 => ?_) (fun hg3 => ?_)
     ·refine zy3 ?_
      refine Wb 78 rfl (fun hg4 => ?_) (fun hg4 => ?_)
      ·refine zy5 ?_
       refine z1 ?_
       refine Wb 84 rfl (fun hg5 => ?_) (fun hg5 => ?_)
       ·refine zy3 ?_
        refine Wb 87 rfl (fun hg6 => ?_) (fun hg6 => ?_)
        ·refine zy5 ?_
         refine zs1 ?_
         refine Wi rfl (fun hi4 => ?_) (fun hi4 => ?_)
         ·refine W_region rfl ?_
          refine z1 ?_
          refine zc rfl Try.func40 ((pl_fail v ws _ (-32)) _ _ rfl) ?_
          refine Wn ?_
          refine zu5 ?_
          refine Wq ?_
          refine leafM rfl rfl ?_ ?_
          ·(rw [wds_c q1 q3]; rfl)
          ·(rw [wds_c q1 q3, if_neg (by unfold plainK; (try simp only [dnL] at *); omega)]; rfl)
         ·refine Wj ?_
          refine zu5 ?_
          refine Wq ?_
          refine leafM rfl rfl ?_ ?_
          ·(rw [wds_c q1 q3]; rfl)
          ·(rw [wds_c q1 q3, if_pos (by unfold plainK; (try simp only [dnL] at *); omega)]; rfl)
        ·refine z6 ?_
         refine z6 ?_
         refine zs4 ?_
         refine Wt rfl rfl ?_
         refine W_region rfl ?_
         refine z1 ?_
         refine zc rfl Try.func40 ((pl_fail v ws _ (-32)) _ _ rfl) ?_
         refine Wn ?_
         refine zu5 ?_
         refine Wq ?_
         refine leafM rfl rfl ?_ ?_
         ·(rw [wds_c q1 q3]; rfl)
         ·(rw [wds_c q1 q3, if_neg (by unfold plainK; (try simp only [dnL] at *); omega)]; rfl)
       ·refine z6 ?_
        iterate 6 refine z6 ?_
        refine zs2 ?_
        refine Wf rfl rfl ?_
        refine Wj ?_
        refine zu5 ?_
        refine Wq ?_
        refine leafM rfl rfl ?_ ?_
        ·(rw [wds_c q1 q3]; rfl)
        ·(rw [wds_c q1 q3, if_pos (by unfold plainK; (try simp only [dnL] at *); omega)]; rfl)
      ·refine z6 ?_
       refine z6 ?_
       refine zy5 ?_
       refine zy2 ?_
       refine Wb 87 rfl (fun hg6 => ?_) (fun hg6 => ?_)
       ·refine zy5 ?_
        refine zs1 ?_
        refine Wi rfl (fun hi4 => ?_) (fun hi4 => ?_)
        ·refine W_region rfl ?_
         refine z1 ?_
         refine zc rfl Try.func40 ((pl_fail v ws _ (-32)) _ _ rfl) ?_
         refine Wn ?_
         refine zu5 ?_
         refine Wq ?_
         refine leafM rfl rfl ?_ ?_
         ·(rw [wds_c q1 q3]; rfl)
         ·(rw [wds_c q1 q3, if_neg (by unfold plainK; (try simp only [dnL] at *); omega)]; rfl)
        ·refine Wj ?_
         refine zu5 ?_
         refine Wq ?_
         refine leafM rfl rfl ?_ ?_
         ·(rw [wds_c q1 q3]; rfl)
         ·(rw [wds_c q1 q3, if_pos (by unfold plainK; (try simp only [dnL] at *); omega)]; rfl)
       ·refine z6 ?_
        refine z6 ?_
        refine zs4 ?_
        refine Wt rfl rfl ?_
        refine W_region rfl ?_
        refine z1 ?_
        refine zc rfl Try.func40 ((pl_fail v ws _ (-32)) _ _ rfl) ?_
        refine Wn ?_
        refine zu5 ?_
        refine Wq ?_
        refine leafM rfl rfl ?_ ?_
        ·(rw [wds_c q1 q3]; rfl)
        ·(rw [wds_c q1 q3, if_neg (by unfold plainK; (try simp only [dnL] at *); omega)]; rfl)
     ·refine z6 ?_
      iterate 6 refine z6 ?_
      refine zy2 ?_
      iterate 7 refine z6 ?_
      refine zs2 ?_
      refine Wf rfl rfl ?_
      refine Wj ?_
      refine zu5 ?_
      refine Wq ?_
      refine leafM rfl rfl ?_ ?_
      ·(rw [wds_c q1 q3]; rfl)
      ·(rw [wds_c q1 q3, if_pos (by unfold plainK; (try simp only [dnL] at *); omega)]; rfl)
    ·refine z6 ?_
     refine z6 ?_
     refine zy2 ?_
     iterate 7 refine z6 ?_
     refine zy2 ?_
     iterate 7 refine z6 ?_
     refine zs2 ?_
     refine Wf rfl rfl ?_
     refine Wj ?_
     refine zu5 ?_
     refine Wq ?_
     refine leafM rfl rfl ?_ ?_
     ·(rw [wds_c q1 q3]; rfl)
     ·(rw [wds_c q1 q3, if_pos (by unfold plainK; (try simp only [dnL] at *); omega)]; rfl)
end Go.Proofs.Ytlponhgbbfgkgaa
namespace Go.Proofs.Ytlponhgbbfgkgaa
open Go.RowKit
set_option maxRecDepth 100000
set_option maxHeartbeats 8000000
theorem beh_nil {s : DSt} (h : s.rest = []) : behindD s = (s.fail (-16), []) := by unfold behindD; rw [h]
theorem beh_0 {s : DSt} {w : Str} {r : List Str} (h : s.rest = w :: r) (q : w = []) : behindD s = (s.fail (-16), []) := by unfold behindD; rw [h]; dsimp only; rw [if_pos q]
theorem beh_1 {s : DSt} {w : Str} {r : List Str} (h : s.rest = w :: r) (q : ¬ w = []) : behindD s = ({ s with rest := r }, w) := by unfold behindD; rw [h]; dsimp only; rw [if_neg q]
theorem pl_behind0 (v : VVm) (ws : List Str) (s : DSt) (h : s.rest = []) (hw : ws.length ≤ 1000000) : ∀ (H : List Ob) (i : Nat), H[i]? = some (.cells (cPl v ws s) 71) → HC Try.prog 69 (.ptr i 0 :: []) H (str (behindD s).2) (H.set i (.cells (cPl v ws (behindD s).1) 71)) := by
 have w0 : atN ws s.rest = (ws.length : Int) := by rw [h]; simp [atN]
 refine mut_of_W tG (rs := [.tmp 2]) Try.func69 rfl rfl rfl (by simp) (by simp) (by simp) (by simp) (fun B => ?_)
 refine zu1 ?_
 iterate 2 refine Ws ?_
 refine V.W_drawD [0, 0, 0, 1, 0, 0, 0, 1, 0, 0, 0, 0, 0, 0, 1, 0, 0, 0, 1, 0, 1, 0, 0] [0, 1, 2, 3, 4, 5, 6, 7, 8, 9, 10, 11, 12, 13, 14, 15, 16, 17, 18, 19, 20, 21, 22] mG rfl (by kernel_rfl) ?_
 iterate 3 refine V.z3 ?_
 refine V.z5 ?_
 iterate 3 refine V.z3 ?_
 refine V.z5 ?_
 iterate 3 refine V.z3 ?_
 refine V.WU_true 13 rfl (by rw [w0]; exact decide_eq_true (Int.le_refl _)) ?_
 iterate 11 refine V.z7 ?_
 refine V.z3 ?_
 refine V.WU_nil ?_
 refine Wt rfl rfl ?_
 refine zp1 ?_
 refine zc rfl Try.func40 ((pl_fail v ws s (-16)) _ _ rfl) ?_
 refine Wn ?_
 refine zu1 ?_
 refine Wq ?_
 refine leafM rfl rfl ?_ ?_
 ·rw [beh_nil h]; rfl
 ·rw [beh_nil h]; rfl
theorem pl_behind1 (v : VVm) (ws : List Str) (s : DSt) {w : Str} {r : List Str} (h : s.rest = w :: r) (hs : s.rest <:+ ws) (hw : ws.length ≤ 1000000) : ∀ (H : List Ob) (i : Nat), H[i]? = some (.cells (cPl v ws s) 71) → HC Try.prog 69 (.ptr i 0 :: []) H (str (behindD s).2) (H.set i (.cells (cPl v ws (behindD s).1) 71)) := by
 have hl : r.length + 1 ≤ ws.length := by have := suf_len hs; rw [h] at this; simpa using this
 have hg := suf_get (h ▸ hs)
 have w0 : atN ws s.rest = ((ws.length - (r.length + 1) : Nat) : Int) := by rw [h]; rfl
 have w1 : IntKind.i64.wrap (atN ws s.rest + 1) = atN ws r := by rw [w0, i64_ok2 (by omega) (by omega)]; unfold atN; omega
 have w2 : IntKind.i64.wrap (atN ws r - 1) = ((ws.length - (r.length + 1) : Nat) : Int) := by unfold atN; rw [i64_ok2 (by omega) (by omega)]; omega
 refine mut_of_W tG (rs := [.tmp 2]) Try.func69 rfl rfl rfl (by simp) (by simp) (by simp) (by simp) (fun B => ?_)
 refine zu1 ?_
 iterate 2 refine Ws ?_
 refine V.W_drawD [0, 0, 0, 1, 0, 0, 0, 1, 0, 0, 0, 0, 0, 0, 1, 0, 0, 0, 1, 0, 1, 0, 0] [0, 1, 2, 3, 4, 5, 6, 7, 8, 9, 10, 11, 12, 13, 14, 15, 16, 17, 18, 19, 20, 21, 22] mG rfl (by kernel_rfl) ?_
 iterate 3 refine V.z3 ?_
 refine V.z5 ?_
 iterate 3 refine V.z3 ?_
 refine V.z5 ?_
 iterate 3 refine V.z3 ?_
 refine V.WU_false 13 rfl (by rw [w0]; exact decide_eq_false (by omega)) ?_
 iterate 3 refine V.z3 ?_
 refine V.z5 ?_
 iterate 3 refine V.z3 ?_
 refine V.z5 ?_
 refine V.Xa 21 rfl (congrArg (fun z => PV.val (Value.int .i64 z)) w0) ?_
 refine V.Xi tG rfl rfl rfl rfl (fun _ => rfl) (by omega) (iN cStr 1 (fun _ => rfl) [] (by omega)) ?_
 refine V.z5 ?_
 refine V.z3 ?_
 refine V.Xa 24 rfl (str_eql _ _) ?_
 refine V.z3 ?_
 refine V.WU_nil ?_
 refine Wi rfl (fun hi1 => ?_) (fun hi1 => ?_)
 ·have q : w = [] := hg.symm.trans (oT hi1)
  refine zp1 ?_
  refine zc rfl Try.func40 ((pl_fail v ws s (-16)) _ _ rfl) ?_
  refine Wn ?_
  refine zu1 ?_
  refine Wq ?_
  refine leafM rfl rfl ?_ ?_
  ·(rw [beh_0 h q]; rfl)
  ·(rw [beh_0 h q]; rfl)
 ·have q : ¬ w = [] := fun k => oF hi1 (hg.trans k)
  refine Wj ?_
  refine zp5 ?_
  refine z1 ?_
  refine Wa 33 rfl (congrArg (fun z => PV.val (Value.int .i64 z)) w1) ?_
  refine zs3 ?_
  refine Ws ?_
  refine V.W_drawD [0, 0, 0, 1, 0, 0, 0, 1, 0, 0, 1, 0] [0, 1, 2, 3, 4, 5, 6, 7, 8, 9, 10, 11] mG rfl (by kernel_rfl) ?_
  iterate 3 refine V.z3 ?_
  refine V.z5 ?_
  iterate 3 refine V.z3 ?_
  refine V.z5 ?_
  refine V.z3 ?_
  refine V.Xa 44 rfl (congrArg (fun z => PV.val (Value.int .i64 z)) w2) ?_
  refine V.Xi tG rfl rfl rfl rfl (fun _ => rfl) (by omega) (iN cStr 1 (fun _ => rfl) [] (by omega)) ?_
  refine V.z5 ?_
  refine V.z3 ?_
  refine V.WU_nil ?_
  refine Wq ?_
  refine leafM rfl rfl ?_ ?_
  ·(rw [hg, beh_1 h q]; rfl)
  ·(rw [beh_1 h q]; rfl)
theorem pl_behind (v : VVm) (ws : List Str) (s : DSt) (hs : s.rest <:+ ws) (hw : ws.length ≤ 1000000) : ∀ (H : List Ob) (i : Nat), H[i]? = some (.cells (cPl v ws s) 71) → HC Try.prog 69 (.ptr i 0 :: []) H (str (behindD s).2) (H.set i (.cells (cPl v ws (behindD s).1) 71)) := by
 cases h : s.rest with
 | nil => exact pl_behind0 v ws s h hw
 | cons w r => exact pl_behind1 v ws s h hs hw
section
variable {row : List Str → Int → Int → DSt → DRes} {name : Str} {o l : Int} {s : DSt}
theorem br_n (h : name = [73, 70]) (k : ¬ (row [[69, 76, 83, 69], [84, 72, 69, 78]] o l s).2.2 = [69, 76, 83, 69]) : bracketD row name o l s = ((row [[69, 76, 83, 69], [84, 72, 69, 78]] o l s).1, .mk 3 0 (row [[69, 76, 83, 69], [84, 72, 69, 78]] o l s).2.1 []) := by
 unfold bracketD; rw [if_pos h]; dsimp only; rw [if_pos k]
theorem br_y (h : name = [73, 70]) (k : (row [[69, 76, 83, 69], [84, 72, 69, 78]] o l s).2.2 = [69, 76, 83, 69]) : bracketD row name o l s = ((row [[84, 72, 69, 78]] o l (row [[69, 76, 83, 69], [84, 72, 69, 78]] o l s).1).1, .mk 3 1 (row [[69, 76, 83, 69], [84, 72, 69, 78]] o l s).2.1 (row [[84, 72, 69, 78]] o l (row [[69, 76, 83, 69], [84, 72, 69, 78]] o l s).1).2.1) := by
 unfold bracketD; rw [if_pos h]; dsimp only; rw [if_neg (fun q => q k)]
theorem br_u (h0 : ¬ name = [73, 70]) (h : name = [66, 69, 71, 73, 78]) (k : (row [[85, 78, 84, 73, 76], [65, 71, 65, 73, 78], [87, 72, 73, 76, 69]] o l s).2.2 = [85, 78, 84, 73, 76]) : bracketD row name o l s = ((row [[85, 78, 84, 73, 76], [65, 71, 65, 73, 78], [87, 72, 73, 76, 69]] o l s).1, .mk 4 0 (row [[85, 78, 84, 73, 76], [65, 71, 65, 73, 78], [87, 72, 73, 76, 69]] o l s).2.1 []) := by
 unfold bracketD; rw [if_neg h0, if_pos h]; dsimp only; rw [if_pos k]
theorem br_a (h0 : ¬ name = [73, 70]) (h : name = [66, 69, 71, 73, 78]) (k0 : ¬ (row [[85, 78, 84, 73, 76], [65, 71, 65, 73, 78], [87, 72, 73, 76, 69]] o l s).2.2 = [85, 78, 84, 73, 76]) (k : (row [[85, 78, 84, 73, 76], [65, 71, 65, 73, 78], [87, 72, 73, 76, 69]] o l s).2.2 = [65, 71, 65, 73, 78]) : bracketD row name o l s = ((row [[85, 78, 84, 73, 76], [65, 71, 65, 73, 78], [87, 72, 73, 76, 69]] o l s).1, .mk 5 0 (row [[85, 78, 84, 73, 76], [65, 71, 65, 73, 78], [87, 72, 73, 76, 69]] o l s).2.1 []) := by
 unfold bracketD; rw [if_neg h0, if_pos h]; dsimp only; rw [if_neg k0, if_pos k]
theorem br_w (h0 : ¬ name = [73, 70]) (h : name = [66, 69, 71, 73, 78]) (k0 : ¬ (row [[85, 78, 84, 73, 76], [65, 71, 65, 73, 78], [87, 72, 73, 76, 69]] o l s).2.2 = [85, 78, 84, 73, 76]) (k : ¬ (row [[85, 78, 84, 73, 76], [65, 71, 65, 73, 78], [87, 72, 73, 76, 69]] o l s).2.2 = [65, 71, 65, 73, 78]) : bracketD row name o l s = ((row [[82, 69, 80, 69, 65, 84]] o l (row [[85, 78, 84, 73, 76], [65, 71, 65, 73, 78], [87, 72, 73, 76, 69]] o l s).1).1, .mk 6 0 (row [[85, 78, 84, 73, 76], [65, 71, 65, 73, 78], [87, 72, 73, 76, 69]] o l s).2.1 (row [[82, 69, 80, 69, 65, 84]] o l (row [[85, 78, 84, 73, 76], [65, 71, 65, 73, 78], [87, 72, 73, 76, 69]] o l s).1).2.1) := by
 unfold bracketD; rw [if_neg h0, if_pos h]; dsimp only; rw [if_neg k0, if_neg k]
theorem br_l (h0 : ¬ name = [73, 70]) (h : ¬ name = [66, 69, 71, 73, 78]) : bracketD row name o l s = ((row [[76, 79, 79, 80], [43, 76, 79, 79, 80]] o (l + 1) s).1, .mk (if (row [[76, 79, 79, 80], [43, 76, 79, 79, 80]] o (l + 1) s).2.2 = [43, 76, 79, 79, 80] then 8 else 7) (if name = [63, 68, 79] then 1 else 0) (row [[76, 79, 79, 80], [43, 76, 79, 79, 80]] o (l + 1) s).2.1 []) := by
 unfold bracketD; rw [if_neg h0, if_neg h]
end
def rwD (v : VVm) (m : Nat) (e : List Str) (o l : Int) (s : DSt) : DRes := rowD (readerS v) m e o l s []
def RowDAt (v : VVm) (ws : List Str) (m : Nat) (e : List Str) (o l : Int) (s : DSt) : Prop := ∀ (H : List Ob) (i : Nat), H[i]? = some (.cells (cPl v ws s) 71) →
 HC Try.prog 22 [.ptr i 0, sq cStr e, i64 o, i64 l] H (tup2 (sq cNode (rwD v m e o l s).2.1) (str (rwD v m e o l s).2.2)) (H.set i (.cells (cPl v ws (rwD v m e o l s).1) 71))
theorem rwD_suf (v : VVm) (m : Nat) (e : List Str) (o l : Int) (s : DSt) : (rwD v m e o l s).1.rest <:+ s.rest := row_suf (readerS v) m e o l s []
theorem pl_bracket (v : VVm) (ws : List Str) (m : Nat) (name : Str) (o l : Int) (s : DSt) (h0 : 0 ≤ l) (h1 : l + 1 ≤ o) (h2 : o ≤ 16) (hrow : ∀ (e : List Str) (l' : Int) (t : DSt), e.length ≤ 10 → 0 ≤ l' → l' ≤ o → t.rest <:+ s.rest → RowDAt v ws m e o l' t) :
  ∀ (H : List Ob) (i : Nat), H[i]? = some (.cells (cPl v ws s) 71) → HC Try.prog 70 (.ptr i 0 :: [str name, i64 o, i64 l]) H (eNode (bracketD (rwD v m) name o l s).2) (H.set i (.cells (cPl v ws (bracketD (rwD v m) name o l s).1) 71)) := by
 have w1 : IntKind.i64.wrap (l + 1) = l + 1 := i64_ok2 (by omega) (by omega)
 refine mut_of_W tG (rs := [.cell 8 62]) Try.func70 rfl rfl rfl (by simp) (by simp) (by simp) (by simp) (fun B => ?_)
 refine zu1 ?_
 refine Ws ?_
 refine zp2 ?_
 refine zq 21 ?_
 refine Wn ?_
 refine Wi rfl (fun hi1 => ?_) (fun hi1 => ?_)
 ·have q1 : name = [73, 70] := oT hi1
  refine zp2 ?_
  refine Wa 24 rfl (bsL cStr [_, _] rfl rfl) ?_
  refine zy2 ?_
  refine zc rfl Try.func22 (hrow [[69, 76, 83, 69], [84, 72, 69, 78]] l s (by decide) h0 (by omega) (List.suffix_refl _) _ _ rfl) ?_
  refine zs5 ?_
  refine Ws ?_
  refine zp2 ?_
  refine Wa 31 rfl (str_neq _ _) ?_
  refine Wn ?_
  refine Wi rfl (fun hi2 => ?_) (fun hi2 => ?_)
  ·have q2 : ¬ (rwD v m [[69, 76, 83, 69], [84, 72, 69, 78]] o l s).2.2 = [69, 76, 83, 69] := by simpa using hi2
   refine zu3 ?_
   refine Wq ?_
   refine leafM rfl rfl ?_ ?_
   ·(rw [br_n q1 q2]; exact node_eq _ _ _ [])
   ·(rw [br_n q1 q2]; rfl)
  ·have q2 : (rwD v m [[69, 76, 83, 69], [84, 72, 69, 78]] o l s).2.2 = [69, 76, 83, 69] := by simpa using hi2
   refine Wj ?_
   refine zp2 ?_
   refine Wa 36 rfl (bsL cStr [_] rfl rfl) ?_
   refine zy2 ?_
   refine zc rfl Try.func22 (hrow [[84, 72, 69, 78]] l _ (by decide) h0 (by omega) (rwD_suf _ _ _ _ _ _) _ _ rfl) ?_
   refine zs5 ?_
   refine zu4 ?_
   refine Wq ?_
   refine leafM rfl rfl ?_ ?_
   ·(rw [br_y q1 q2]; exact node_eq _ _ _ _)
   ·(rw [br_y q1 q2]; rfl)
 ·have q1 : ¬ name = [73, 70] := oF hi1
  refine Wj ?_
  refine Ws ?_
  refine zp2 ?_
  refine zq 46 ?_
  refine Wn ?_
  refine Wi rfl (fun hi3 => ?_) (fun hi3 => ?_)
  ·have q3 : name = [66, 69, 71, 73, 78] := oT hi3
   refine zp2 ?_
   refine Wa 49 rfl (bsL cStr [_, _, _] rfl rfl) ?_
   refine zy2 ?_
   refine zc rfl Try.func22 (hrow [[85, 78, 84, 73, 76], [65, 71, 65, 73, 78], [87, 72, 73, 76, 69]] l s (by decide) h0 (by omega) (List.suffix_refl _) _ _ rfl) ?_
   refine zs5 ?_
   refine Ws ?_
   refine zp2 ?_
   refine zq 56 ?_
   refine Wn ?_
   refine Wi rfl (fun hi4 => ?_) (fun hi4 => ?_)
   ·have q4 : (rwD v m [[85, 78, 84, 73, 76], [65, 71, 65, 73, 78], [87, 72, 73, 76, 69]] o l s).2.2 = [85, 78, 84, 73, 76] := oT hi4
    refine zu3 ?_
    refine Wq ?_
    refine leafM rfl rfl ?_ ?_
    ·(rw [br_u q1 q3 q4]; exact node_eq _ _ _ [])
    ·(rw [br_u q1 q3 q4]; rfl)
   ·have q4 : ¬ (rwD v m [[85, 78, 84, 73, 76], [65, 71, 65, 73, 78], [87, 72, 73, 76, 69]] o l s).2.2 = [85, 78, 84, 73, 76] := oF hi4
    refine Wj ?_
    refine Ws ?_
    refine zp2 ?_
    refine zq 60 ?_
    refine Wn ?_
    refine Wi rfl (fun hi5 => ?_) (fun hi5 => ?_)
    ·have q5 : (rwD v m [[85, 78, 84, 73, 76], [65, 71, 65, 73, 78], [87, 72, 73, 76, 69]] o l s).2.2 = [65, 71, 65, 73, 78] := oT hi5
     refine zu3 ?_
     refine Wq ?_
     refine leafM rfl rfl ?_ ?_
     ·(rw [br_a q1 q3 q4 q5]; exact node_eq _ _ _ [])
     ·(rw [br_a q1 q3 q4 q5]; rfl)
    ·have q5 : ¬ (rwD v m [[85, 78, 84, 73, 76], [65, 71, 65, 73, 78], [87, 72, 73, 76, 69]] o l s).2.2 = [65, 71, 65, 73, 78] := oF hi5
     refine Wj ?_
     refine zp2 ?_
     refine Wa 65 rfl (bsL cStr [_] rfl rfl) ?_
     refine zy2 ?_
     refine zc rfl Try.func22 (hrow [[82, 69, 80, 69, 65, 84]] l _ (by decide) h0 (by omega) (rwD_suf _ _ _ _ _ _) _ _ rfl) ?_
     refine zs5 ?_
     refine zu4 ?_
     refine Wq ?_
     refine leafM rfl rfl ?_ ?_
     ·(rw [br_w q1 q3 q4 q5]; exact node_eq _ _ _ _)
     ·(rw [br_w q1 q3 q4 q5]; rfl)
  ·have q3 : ¬ name = [66, 69, 71, 73, 78] := oF hi3
   refine Wj ?_
   refine zp2 ?_
   refine Wa 76 rfl (bsL cStr [_, _] rfl rfl) ?_
   refine zy3 ?_
   refine Wa 79 rfl (congrArg (fun z => PV.val (Value.int .i64 z)) w1) ?_
   refine zc rfl Try.func22 (hrow [[76, 79, 79, 80], [43, 76, 79, 79, 80]] (l + 1) s (by decide) (by omega) (by omega) (List.suffix_refl _) _ _ rfl) ?_
   refine zs5 ?_
   refine zu4 ?_
   refine Ws ?_
   refine zp2 ?_
   refine zq 86 ?_
   refine Wn ?_
   refine Wi rfl (fun hi6 => ?_) (fun hi6 => ?_)
   ·have q6 : (rwD v m [[76, 79, 79, 80], [43, 76, 79, 79, 80]] o (l + 1) s).2.2 = [43, 76, 79, 79, 80] := oT hi6
    refine W_region rfl ?_
    refine zs2 ?_
    refine Ws ?_
    refine zp2 ?_
    refine zq 89 ?_
    refine Wn ?_
    refine Wi rfl (fun hi7 => ?_) (fun hi7 => ?_)
    ·have q7 : name = [63, 68, 79] := oT hi7
     refine W_region rfl ?_
     refine zs2 ?_
     refine zu2 ?_
     refine Wq ?_
     refine leafM rfl rfl ?_ ?_
     ·(rw [br_l q1 q3, if_pos q6, if_pos q7]; exact node_eq _ _ _ [])
     ·(rw [br_l q1 q3]; rfl)
    ·have q7 : ¬ name = [63, 68, 79] := oF hi7
     refine Wj ?_
     refine zu2 ?_
     refine Wq ?_
     refine leafM rfl rfl ?_ ?_
     ·(rw [br_l q1 q3, if_pos q6, if_neg q7]; exact node_eq _ _ _ [])
     ·(rw [br_l q1 q3]; rfl)
   ·have q6 : ¬ (rwD v m [[76, 79, 79, 80], [43, 76, 79, 79, 80]] o (l + 1) s).2.2 = [43, 76, 79, 79, 80] := oF hi6
    refine Wj ?_
    refine Ws ?_
    refine zp2 ?_
    refine zq 89 ?_
    refine Wn ?_
    refine Wi rfl (fun hi7 => ?_) (fun hi7 => ?_)
    ·have q7 : name = [63, 68, 79] := oT hi7
     refine W_region rfl ?_
     refine zs2 ?_
     refine zu2 ?_
     refine Wq ?_
     refine leafM rfl rfl ?_ ?_
     ·(rw [br_l q1 q3, if_neg q6, if_pos q7]; exact node_eq _ _ _ [])
     ·(rw [br_l q1 q3]; rfl)
    ·have q7 : ¬ name = [63, 68, 79] := oF hi7
     refine Wj ?_
     refine zu2 ?_
     refine Wq ?_
     refine leafM rfl rfl ?_ ?_
     ·(rw [br_l q1 q3, if_neg q6, if_neg q7]; exact node_eq _ _ _ [])
     ·(rw [br_l q1 q3]; rfl)
end Go.Proofs.Ytlponhgbbfgkgaa
namespace Go.Proofs.Ytlponhgbbfgkgaa
open Go.RowKit
set_option maxRecDepth 100000
set_option maxHeartbeats 8000000
section
variable {R : Rdr} {row : List Str → Int → Int → DSt → DRes} {o l : Int} {s : DSt}
theorem pt_leave0 (h : l = 0) : partD R row [76, 69, 65, 86, 69] o l s = (s.fail (-22), .mk 9 0 [] []) := by unfold partD; rw [if_pos rfl, if_pos h]
theorem pt_leave1 (h : ¬ l = 0) : partD R row [76, 69, 65, 86, 69] o l s = (s, .mk 9 0 [] []) := by unfold partD; rw [if_pos rfl, if_neg h]
theorem pt_exit0 (h : 0 < l) : partD R row [69, 88, 73, 84] o l s = (s.fail (-32), .mk 10 0 [] []) := by unfold partD; rw [if_neg (by decide), if_pos rfl, if_pos h]
theorem pt_exit1 (h : ¬ 0 < l) : partD R row [69, 88, 73, 84] o l s = (s, .mk 10 0 [] []) := by unfold partD; rw [if_neg (by decide), if_pos rfl, if_neg h]
theorem pt_self : partD R row [82, 69, 67, 85, 82, 83, 69] o l s = (s, .mk 11 0 [] []) := by unfold partD; rw [if_neg (by decide), if_neg (by decide), if_pos rfl]
theorem pt_char0 (h : (behindD s).2 = []) : partD R row [91, 67, 72, 65, 82, 93] o l s = ((behindD s).1, .mk 0 0 [] []) := by unfold partD; rw [if_neg (by decide), if_neg (by decide), if_neg (by decide), if_pos rfl]; dsimp only; rw [if_pos h]
theorem pt_char1 (h : ¬ (behindD s).2 = []) : partD R row [91, 67, 72, 65, 82, 93] o l s = ((behindD s).1, .mk 1 (((behindD s).2.getD 0 0).toNat : Int) [] []) := by unfold partD; rw [if_neg (by decide), if_neg (by decide), if_neg (by decide), if_pos rfl]; dsimp only; rw [if_neg h]
theorem pt_tick0 (h : (R.tk (behindD s).2).2 = true) : partD R row [91, 39, 93] o l s = ((behindD s).1, .mk 1 (R.tk (behindD s).2).1 [] []) := by unfold partD; rw [if_neg (by decide), if_neg (by decide), if_neg (by decide), if_neg (by decide), if_pos rfl]; dsimp only; rw [if_pos h]
theorem pt_tick1 (h : ¬ (R.tk (behindD s).2).2 = true) : partD R row [91, 39, 93] o l s = ((behindD s).1.fail (-13), .mk 1 (R.tk (behindD s).2).1 [] []) := by unfold partD; rw [if_neg (by decide), if_neg (by decide), if_neg (by decide), if_neg (by decide), if_pos rfl]; dsimp only; rw [if_neg h]
def opensB (name : Str) : Prop := name = [73, 70] ∨ name = [66, 69, 71, 73, 78] ∨ name = [68, 79] ∨ name = [63, 68, 79]
theorem pt_deep {name : Str} (h : opensB name) (k : 16 ≤ o) : partD R row name o l s = (s.fail (-22), .mk 0 0 [] []) := by
 unfold partD
 rcases h with rfl | rfl | rfl | rfl <;> rw [if_neg (by decide), if_neg (by decide), if_neg (by decide), if_neg (by decide), if_neg (by decide), if_pos (by decide), if_pos k]
theorem pt_br {name : Str} (h : opensB name) (k : ¬ 16 ≤ o) : partD R row name o l s = bracketD row name (o + 1) l s := by
 unfold partD
 rcases h with rfl | rfl | rfl | rfl <;> rw [if_neg (by decide), if_neg (by decide), if_neg (by decide), if_neg (by decide), if_neg (by decide), if_pos (by decide), if_neg k]
theorem pt_closer {name : Str} (h : name ∈ closers.tail) : partD R row name o l s = ((s.fail (-22)).fail (-32), .mk 0 0 [] []) := by
 unfold closers at h
 simp only [List.tail_cons, List.mem_cons, List.not_mem_nil, or_false] at h
 unfold partD
 rcases h with rfl | rfl | rfl | rfl | rfl | rfl | rfl | rfl <;> rw [if_neg (by decide), if_neg (by decide), if_neg (by decide), if_neg (by decide), if_neg (by decide), if_neg (by decide), if_pos (by decide)]
theorem pt_other {name : Str} (h0 : name ≠ []) (h1 : ¬ name = [76, 69, 65, 86, 69]) (h2 : ¬ name = [69, 88, 73, 84]) (h3 : ¬ name = [82, 69, 67, 85, 82, 83, 69]) (h4 : ¬ name = [91, 67, 72, 65, 82, 93]) (h5 : ¬ name = [91, 39, 93]) (h6 : ¬ opensB name) (h7 : name ∉ closers.tail) : partD R row name o l s = (s.fail (-32), .mk 0 0 [] []) := by
 unfold partD
 rw [if_neg h1, if_neg h2, if_neg h3, if_neg h4, if_neg h5, if_neg (show ¬ (name = [73, 70] ∨ name = [66, 69, 71, 73, 78] ∨ name = [68, 79] ∨ name = [63, 68, 79]) from h6), if_neg (fun h => by unfold closers at h; rw [List.mem_cons] at h; exact h.elim h0 h7)]
end
theorem pl_part (v : VVm) (ws : List Str) (m : Nat) (name : Str) (o l : Int) (s : DSt) (hv : VRd v) (hw : WsOk ws) (hs : s.rest <:+ ws) (hn : name ≠ []) (h0 : 0 ≤ l) (h1 : l ≤ o) (h2 : o ≤ 16) (hrow : ¬ 16 ≤ o → ∀ (e : List Str) (l' : Int) (t : DSt), e.length ≤ 10 → 0 ≤ l' → l' ≤ o + 1 → t.rest <:+ s.rest → RowDAt v ws m e (o + 1) l' t) :
  ∀ (H : List Ob) (i : Nat), H[i]? = some (.cells (cPl v ws s) 71) → HC Try.prog 42 (.ptr i 0 :: [str name, i64 o, i64 l]) H (eNode (partD (readerS v) (rwD v m) name o l s).2) (H.set i (.cells (cPl v ws (partD (readerS v) (rwD v m) name o l s).1) 71)) := by
 have w1 : IntKind.i64.wrap (o + 1) = o + 1 := i64_ok2 (by omega) (by omega)
 have hbl : (behindD s).2.length ≤ 9223372036854775807 := by
  unfold behindD
  cases hr : s.rest with
  | nil => show (0 : Nat) ≤ _; omega
  | cons w r =>
   dsimp only
   split
   ·show (0 : Nat) ≤ _; omega
   ·exact hw.each w (hs.subset (by rw [hr]; simp))
 refine mut_of_W tG (rs := [.cell 8 62]) Try.func42 rfl rfl rfl (by simp) (by simp) (by simp) (by simp) (fun B => ?_)
 refine zu1 ?_
 refine Ws ?_
 refine zu1 ?_
 refine Wl ?_
 refine zp1 ?_
 refine zq 16 ?_
 refine zs1 ?_
 refine Wi rfl (fun hi1 => ?_) (fun hi1 => ?_)
 ·obtain rfl := oT hi1
  refine Ws ?_
  refine zu2 ?_
  refine Wi rfl (fun hi2 => ?_) (fun hi2 => ?_)
  ·have q : l = 0 := by simpa using hi2
   refine W_region rfl ?_
   refine z1 ?_
   refine zc rfl Try.func40 ((pl_fail v ws s (-22)) _ _ rfl) ?_
   refine Wn ?_
   refine zu2 ?_
   refine Wq ?_
   refine leafM rfl rfl ?_ ?_
   ·(rw [pt_leave0 q]; rfl)
   ·(rw [pt_leave0 q]; rfl)
  ·have q : ¬ l = 0 := by simpa using hi2
   refine Wj ?_
   refine zu2 ?_
   refine Wq ?_
   refine leafM rfl rfl ?_ ?_
   ·(rw [pt_leave1 q]; rfl)
   ·(rw [pt_leave1 q]; rfl)
 ·have n1 := oF hi1
  refine zp1 ?_
  refine zq 23 ?_
  refine zs1 ?_
  refine Wi rfl (fun hi3 => ?_) (fun hi3 => ?_)
  ·obtain rfl := oT hi3
   refine Ws ?_
   refine zu2 ?_
   refine Wi rfl (fun hi4 => ?_) (fun hi4 => ?_)
   ·have q : 0 < l := oT hi4
    refine W_region rfl ?_
    refine z1 ?_
    refine zc rfl Try.func40 ((pl_fail v ws s (-32)) _ _ rfl) ?_
    refine Wn ?_
    refine zu2 ?_
    refine Wq ?_
    refine leafM rfl rfl ?_ ?_
    ·(rw [pt_exit0 q]; rfl)
    ·(rw [pt_exit0 q]; rfl)
   ·have q : ¬ 0 < l := oF hi4
    refine Wj ?_
    refine zu2 ?_
    refine Wq ?_
    refine leafM rfl rfl ?_ ?_
    ·(rw [pt_exit1 q]; rfl)
    ·(rw [pt_exit1 q]; rfl)
  ·have n3 := oF hi3
   refine zp1 ?_
   refine zq 30 ?_
   refine zs1 ?_
   refine Wi rfl (fun hi5 => ?_) (fun hi5 => ?_)
   ·obtain rfl := oT hi5
    refine zu2 ?_
    refine Wq ?_
    refine leafM rfl rfl ?_ ?_
    ·(rw [pt_self]; rfl)
    ·(rw [pt_self]; rfl)
   ·have n5 := oF hi5
    refine zp1 ?_
    refine zq 33 ?_
    refine zs1 ?_
    refine Wi rfl (fun hi6 => ?_) (fun hi6 => ?_)
    ·obtain rfl := oT hi6
     refine zp1 ?_
     refine zc rfl Try.func69 ((pl_behind v ws s hs hw.len) _ _ rfl) ?_
     refine zs1 ?_
     refine Ws ?_
     refine zp2 ?_
     refine zq 37 ?_
     refine Wn ?_
     refine Wi rfl (fun hi7 => ?_) (fun hi7 => ?_)
     ·have q : (behindD s).2 = [] := oT hi7
      refine zu2 ?_
      refine Wq ?_
      refine leafM rfl rfl ?_ ?_
      ·(rw [pt_char0 q]; rfl)
      ·(rw [pt_char0 q]; rfl)
     ·have q : ¬ (behindD s).2 = [] := oF hi7
      have hp : 0 < (behindD s).2.length := List.length_pos_iff.2 q
      have wc : IntKind.i64.wrap (((behindD s).2.getD 0 0).toNat : Int) = (((behindD s).2.getD 0 0).toNat : Int) := i64_ok2 (by omega) (by have := ((behindD s).2.getD 0 0).toNat_lt; omega)
      refine Wj ?_
      refine zp1 ?_
      refine z2 ?_ (q := (by simp only [str_size]; omega))
      refine Wa 40 rfl (str_byteN _ _) ?_
      refine z1 ?_
      refine Wa 41 rfl (congrArg (fun z => PV.val (Value.int .i64 z)) wc) ?_
      refine zs2 ?_
      refine Wq ?_
      refine leafM rfl rfl ?_ ?_
      ·(rw [pt_char1 q]; rfl)
      ·(rw [pt_char1 q]; rfl)
    ·have n6 := oF hi6
     refine zp1 ?_
     refine zq 44 ?_
     refine zs1 ?_
     refine Wi rfl (fun hi8 => ?_) (fun hi8 => ?_)
     ·obtain rfl := oT hi8
      refine zp1 ?_
      refine zc rfl Try.func69 ((pl_behind v ws s hs hw.len) _ _ rfl) ?_
      refine zs1 ?_
      refine zp5 ?_
      refine z1 ?_
      refine zc rfl Try.func64 ((ref_Find9 v.dict _ hv.dict hbl) _) ?_
      refine zy5 ?_
      refine zs3 ?_
      refine Ws ?_
      refine zu2 ?_
      refine Wi rfl (fun hi9 => ?_) (fun hi9 => ?_)
      ·have q : ¬ (findS v.dict (behindD s).2).2.2 = true := by simpa using hi9
       refine W_region rfl ?_
       refine z1 ?_
       refine zc rfl Try.func40 ((pl_fail v ws _ (-13)) _ _ rfl) ?_
       refine Wn ?_
       refine zu4 ?_
       refine Wq ?_
       refine leafM rfl rfl ?_ ?_
       ·(rw [pt_tick1 q]; rfl)
       ·(rw [pt_tick1 q]; rfl)
      ·have q : (findS v.dict (behindD s).2).2.2 = true := by simpa using hi9
       refine Wj ?_
       refine zu4 ?_
       refine Wq ?_
       refine leafM rfl rfl ?_ ?_
       ·(rw [pt_tick0 q]; rfl)
       ·(rw [pt_tick0 q]; rfl)
     ·have n8 := oF hi8
      refine Ws ?_
      refine zp1 ?_
      refine zq 66 ?_
      refine zs1 ?_
      refine Wi rfl (fun hi10 => ?_) (fun hi10 => ?_)
      ·have ob : opensB name := .inl (oT hi10)
       refine Wj ?_
       refine Wt rfl hi10 ?_
       refine Ws ?_
       refine zu2 ?_
       refine Wi rfl (fun hi11 => ?_) (fun hi11 => ?_)
       ·have q : 16 ≤ o := oT hi11
        refine zp1 ?_
        refine zc rfl Try.func40 ((pl_fail v ws s (-22)) _ _ rfl) ?_
        refine Wn ?_
        refine zu2 ?_
        refine Wq ?_
        refine leafM rfl rfl ?_ ?_
        ·(rw [pt_deep ob q]; rfl)
        ·(rw [pt_deep ob q]; rfl)
       ·have q : ¬ 16 ≤ o := oF hi11
        refine Wj ?_
        refine zp4 ?_
        refine Wa 78 rfl (congrArg (fun z => PV.val (Value.int .i64 z)) w1) ?_
        refine z1 ?_
        refine zc rfl Try.func70 ((pl_bracket v ws m name (o + 1) l s h0 (by omega) (by omega) (hrow q)) _ _ rfl) ?_
        refine zs1 ?_
        refine Wq ?_
        refine leafM rfl rfl ?_ ?_
        ·(rw [pt_br ob q]; rfl)
        ·(rw [pt_br ob q]; rfl)
      ·have n10 := oF hi10
       refine zp1 ?_
       refine zq 67 ?_
       refine zs1 ?_
       refine Wi rfl (fun hi12 => ?_) (fun hi12 => ?_)
       ·have ob : opensB name := .inr (.inl (oT hi12))
        refine Wj ?_
        refine Wt rfl hi12 ?_
        refine Ws ?_
        refine zu2 ?_
        refine Wi rfl (fun hi11 => ?_) (fun hi11 => ?_)
        ·have q : 16 ≤ o := oT hi11
         refine zp1 ?_
         refine zc rfl Try.func40 ((pl_fail v ws s (-22)) _ _ rfl) ?_
         refine Wn ?_
         refine zu2 ?_
         refine Wq ?_
         refine leafM rfl rfl ?_ ?_
         ·(rw [pt_deep ob q]; rfl)
         ·(rw [pt_deep ob q]; rfl)
        ·have q : ¬ 16 ≤ o := oF hi11
         refine Wj ?_
         refine zp4 ?_
         refine Wa 78 rfl (congrArg (fun z => PV.val (Value.int .i64 z)) w1) ?_
         refine z1 ?_
         refine zc rfl Try.func70 ((pl_bracket v ws m name (o + 1) l s h0 (by omega) (by omega) (hrow q)) _ _ rfl) ?_
         refine zs1 ?_
         refine Wq ?_
         refine leafM rfl rfl ?_ ?_
         ·(rw [pt_br ob q]; rfl)
         ·(rw [pt_br ob q]; rfl)
       ·have n12 := oF hi12
        refine zp1 ?_
        refine zq 68 ?_
        refine zs1 ?_
        refine Wi rfl (fun hi13 => ?_) (fun hi13 => ?_)
        ·have ob : opensB name := .inr (.inr (.inl (oT hi13)))
         refine Wj ?_
         refine Wt rfl hi13 ?_
         refine Ws ?_
         refine zu2 ?_
         refine Wi rfl (fun hi11 => ?_) (fun hi11 => ?_)
         ·have q : 16 ≤ o := oT hi11
          refine zp1 ?_
          refine zc rfl Try.func40 ((pl_fail v ws s (-22)) _ _ rfl) ?_
          refine Wn ?_
          refine zu2 ?_
          refine Wq ?_
          refine leafM rfl rfl ?_ ?_
          ·(rw [pt_deep ob q]; rfl)
          ·(rw [pt_deep ob q]; rfl)
         ·have q : ¬ 16 ≤ o := oF hi11
          refine Wj ?_
          refine zp4 ?_
          refine Wa 78 rfl (congrArg (fun z => PV.val (Value.int .i64 z)) w1) ?_
          refine z1 ?_
          refine zc rfl Try.func70 ((pl_bracket v ws m name (o + 1) l s h0 (by omega) (by omega) (hrow q)) _ _ rfl) ?_
          refine zs1 ?_
          refine Wq ?_
          refine leafM rfl rfl ?_ ?_
          ·(rw [pt_br ob q]; rfl)
          ·(rw [pt_br ob q]; rfl)
        ·have n13 := oF hi13
         refine W_region rfl ?_
         refine z1 ?_
         refine zq 69 ?_
         refine zs1 ?_
         refine Wi rfl (fun hi14 => ?_) (fun hi14 => ?_)
         ·have ob : opensB name := .inr (.inr (.inr (oT hi14)))
          refine Ws ?_
          refine zu2 ?_
          refine Wi rfl (fun hi11 => ?_) (fun hi11 => ?_)
          ·have q : 16 ≤ o := oT hi11
           refine zp1 ?_
           refine zc rfl Try.func40 ((pl_fail v ws s (-22)) _ _ rfl) ?_
           refine Wn ?_
           refine zu2 ?_
           refine Wq ?_
           refine leafM rfl rfl ?_ ?_
           ·(rw [pt_deep ob q]; rfl)
           ·(rw [pt_deep ob q]; rfl)
          ·have q : ¬ 16 ≤ o := oF hi11
           refine Wj ?_
           refine zp4 ?_
           refine Wa 78 rfl (congrArg (fun z => PV.val (Value.int .i64 z)) w1) ?_
           refine z1 ?_
           refine zc rfl Try.func70 ((pl_bracket v ws m name (o + 1) l s h0 (by omega) (by omega) (hrow q)) _ _ rfl) ?_
           refine zs1 ?_
           refine Wq ?_
           refine leafM rfl rfl ?_ ?_
           ·(rw [pt_br ob q]; rfl)
           ·(rw [pt_br ob q]; rfl)
         ·have nb : ¬ opensB name := by rintro (h | h | h | h); exact n10 h; exact n12 h; exact n13 h; exact oF hi14 h
          refine Ws ?_
          refine zp1 ?_
          refine zq 82 ?_
          refine zs1 ?_
          refine Wi rfl (fun hi15 => ?_) (fun hi15 => ?_)
          ·have oc : name ∈ closers.tail := by rw [oT hi15]; decide
           refine Wj ?_
           refine Wt rfl hi15 ?_
           refine W_region rfl ?_
           refine z1 ?_
           refine zc rfl Try.func40 ((pl_fail v ws s (-22)) _ _ rfl) ?_
           refine Wn ?_
           refine zp1 ?_
           refine zc rfl Try.func40 ((pl_fail v ws _ (-32)) _ _ rfl) ?_
           refine Wn ?_
           refine zu2 ?_
           refine Wq ?_
           refine leafM rfl rfl ?_ ?_
           ·(rw [pt_closer oc]; rfl)
           ·(rw [pt_closer oc]; rfl)
          ·have n15 := oF hi15
           refine zp1 ?_
           refine zq 83 ?_
           refine zs1 ?_
           refine Wi rfl (fun hi16 => ?_) (fun hi16 => ?_)
           ·have oc : name ∈ closers.tail := by rw [oT hi16]; decide
            refine Wj ?_
            refine Wt rfl hi16 ?_
            refine W_region rfl ?_
            refine z1 ?_
            refine zc rfl Try.func40 ((pl_fail v ws s (-22)) _ _ rfl) ?_
            refine Wn ?_
            refine zp1 ?_
            refine zc rfl Try.func40 ((pl_fail v ws _ (-32)) _ _ rfl) ?_
            refine Wn ?_
            refine zu2 ?_
            refine Wq ?_
            refine leafM rfl rfl ?_ ?_
            ·(rw [pt_closer oc]; rfl)
            ·(rw [pt_closer oc]; rfl)
           ·have n16 := oF hi16
            refine zp1 ?_
            refine zq 84 ?_
            refine zs1 ?_
            refine Wi rfl (fun hi17 => ?_) (fun hi17 => ?_)
            ·have oc : name ∈ closers.tail := by rw [oT hi17]; decide
             refine Wj ?_
             refine Wt rfl hi17 ?_
             refine W_region rfl ?_
             refine z1 ?_
             refine zc rfl Try.func40 ((pl_fail v ws s (-22)) _ _ rfl) ?_
             refine Wn ?_
             refine zp1 ?_
             refine zc rfl Try.func40 ((pl_fail v ws _ (-32)) _ _ rfl) ?_
             refine Wn ?_
             refine zu2 ?_
             refine Wq ?_
             refine leafM rfl rfl ?_ ?_
             ·(rw [pt_closer oc]; rfl)
             ·(rw [pt_closer oc]; rfl)
            ·have n17 := oF hi17
             refine zp1 ?_
             refine zq 85 ?_
             refine zs1 ?_
             refine Wi rfl (fun hi18 => ?_) (fun hi18 => ?_)
             ·have oc : name ∈ closers.tail := by rw [oT hi18]; decide
              refine Wj ?_
              refine Wt rfl hi18 ?_
              refine W_region rfl ?_
              refine z1 ?_
              refine zc rfl Try.func40 ((pl_fail v ws s (-22)) _ _ rfl) ?_
              refine Wn ?_
              refine zp1 ?_
              refine zc rfl Try.func40 ((pl_fail v ws _ (-32)) _ _ rfl) ?_
              refine Wn ?_
              refine zu2 ?_
              refine Wq ?_
              refine leafM rfl rfl ?_ ?_
              ·(rw [pt_closer oc]; rfl)
              ·(rw [pt_closer oc]; rfl)
             ·have n18 := oF hi18
              refine zp1 ?_
              refine zq 86 ?_
              refine zs1 ?_
              refine Wi rfl (fun hi19 => ?_) (fun hi19 => ?_)
              ·have oc : name ∈ closers.tail := by rw [oT hi19]; decide
               refine Wj ?_
               refine Wt rfl hi19 ?_
               refine W_region rfl ?_
               refine z1 ?_
               refine zc rfl Try.func40 ((pl_fail v ws s (-22)) _ _ rfl) ?_
               refine Wn ?_
               refine zp1 ?_
               refine zc rfl Try.func40 ((pl_fail v ws _ (-32)) _ _ rfl) ?_
               refine Wn ?_
               refine zu2 ?_
               refine Wq ?_
               refine leafM rfl rfl ?_ ?_
               ·(rw [pt_closer oc]; rfl)
               ·(rw [pt_closer oc]; rfl)
              ·have n19 := oF hi19
               refine zp1 ?_
               refine zq 87 ?_
               refine zs1 ?_
               refine Wi rfl (fun hi20 => ?_) (fun hi20 => ?_)
               ·have oc : name ∈ closers.tail := by rw [oT hi20]; decide
                refine Wj ?_
                refine Wt rfl hi20 ?_
                refine W_region rfl ?_
                refine z1 ?_
                refine zc rfl Try.func40 ((pl_fail v ws s (-22)) _ _ rfl) ?_
                refine Wn ?_
                refine zp1 ?_
                refine zc rfl Try.func40 ((pl_fail v ws _ (-32)) _ _ rfl) ?_
                refine Wn ?_
                refine zu2 ?_
                refine Wq ?_
                refine leafM rfl rfl ?_ ?_
                ·(rw [pt_closer oc]; rfl)
                ·(rw [pt_closer oc]; rfl)
               ·have n20 := oF hi20
                refine zp1 ?_
                refine zq 88 ?_
                refine zs1 ?_
                refine Wi rfl (fun hi21 => ?_) (fun hi21 => ?_)
                ·have oc : name ∈ closers.tail := by rw [oT hi21]; decide
                 refine Wj ?_
                 refine Wt rfl hi21 ?_
                 refine W_region rfl ?_
                 refine z1 ?_
                 refine zc rfl Try.func40 ((pl_fail v ws s (-22)) _ _ rfl) ?_
                 refine Wn ?_
                 refine zp1 ?_
                 refine zc rfl Try.func40 ((pl_fail v ws _ (-32)) _ _ rfl) ?_
                 refine Wn ?_
                 refine zu2 ?_
                 refine Wq ?_
                 refine leafM rfl rfl ?_ ?_
                 ·(rw [pt_closer oc]; rfl)
                 ·(rw [pt_closer oc]; rfl)
                ·have n21 := oF hi21
                 refine W_region rfl ?_
                 refine z1 ?_
                 refine zq 89 ?_
                 refine zs1 ?_
                 refine Wi rfl (fun hi22 => ?_) (fun hi22 => ?_)
                 ·have oc : name ∈ closers.tail := by rw [oT hi22]; decide
                  refine W_region rfl ?_
                  refine z1 ?_
                  refine zc rfl Try.func40 ((pl_fail v ws s (-22)) _ _ rfl) ?_
                  refine Wn ?_
                  refine zp1 ?_
                  refine zc rfl Try.func40 ((pl_fail v ws _ (-32)) _ _ rfl) ?_
                  refine Wn ?_
                  refine zu2 ?_
                  refine Wq ?_
                  refine leafM rfl rfl ?_ ?_
                  ·(rw [pt_closer oc]; rfl)
                  ·(rw [pt_closer oc]; rfl)
                 ·have n22 := oF hi22
                  have nc : name ∉ closers.tail := by unfold closers; simp only [List.tail_cons, List.mem_cons, List.not_mem_nil, or_false, n15, n16, n17, n18, n19, n20, n21, n22, not_false_eq_true]
                  refine Wj ?_
                  refine zp1 ?_
                  refine zc rfl Try.func40 ((pl_fail v ws _ (-32)) _ _ rfl) ?_
                  refine Wn ?_
                  refine zu2 ?_
                  refine Wq ?_
                  refine leafM rfl rfl ?_ ?_
                  ·(rw [pt_other hn n1 n3 n5 n6 n8 nb nc]; rfl)
                  ·(rw [pt_other hn n1 n3 n5 n6 n8 nb nc]; rfl)
end Go.Proofs.Ytlponhgbbfgkgaa
namespace Go.Proofs.Ytlponhgbbfgkgaa
open Go.RowKit
set_option maxRecDepth 100000
set_option maxHeartbeats 8000000
section
variable {R : Rdr} {k : Nat} {e : List Str} {o l : Int} {s : DSt} {acc : List VNode}
theorem rd_bad (h : s.bad ≠ 0) : rowD R k e o l s acc = (s, [], []) := rowD_bad R k e o l acc h
theorem rd_nil (h : s.bad = 0) (hr : s.rest = []) : rowD R (k + 1) e o l s acc = (if [] ∈ e then s else s.fail (-22), acc, []) := by
 rw [rowD, if_neg (fun q => q h), hr]
theorem rd_code {w : Str} {r : List Str} (h : s.bad = 0) (hr : s.rest = w :: r) (hc : (R.rd w l).1 ≠ 0) : rowD R (k + 1) e o l s acc = (({ s with rest := r } : DSt).fail (R.rd w l).1, [], []) := by
 have hb : (({ s with rest := r } : DSt).fail (R.rd w l).1).bad ≠ 0 := by rw [dfail0 (by exact h)]; exact hc
 rw [rowD, if_neg (fun q => q h), hr]
 dsimp only
 rw [if_pos hb]
theorem rd_part {w : Str} {r : List Str} (h : s.bad = 0) (hr : s.rest = w :: r) (hc : (R.rd w l).1 = 0) (hp : (R.rd w l).2.1 = []) : rowD R (k + 1) e o l s acc = rowD R k e o l { s with rest := r } (acc ++ [(R.rd w l).2.2]) := by
 rw [rowD, if_neg (fun q => q h), hr]
 dsimp only
 rw [hc, dfail_0, if_neg (fun q => q h), if_pos hp]
theorem rd_end {w : Str} {r : List Str} (h : s.bad = 0) (hr : s.rest = w :: r) (hc : (R.rd w l).1 = 0) (hp : (R.rd w l).2.1 ≠ []) (he : (R.rd w l).2.1 ∈ e) : rowD R (k + 1) e o l s acc = ({ s with rest := r }, acc, (R.rd w l).2.1) := by
 rw [rowD, if_neg (fun q => q h), hr]
 dsimp only
 rw [hc, dfail_0, if_neg (fun q => q h), if_neg hp, if_pos he]
theorem rd_on {w : Str} {r : List Str} (h : s.bad = 0) (hr : s.rest = w :: r) (hc : (R.rd w l).1 = 0) (hp : (R.rd w l).2.1 ≠ []) (he : (R.rd w l).2.1 ∉ e) : rowD R (k + 1) e o l s acc = rowD R k e o l (partD R (fun e o l s => rowD R k e o l s []) (R.rd w l).2.1 o l { s with rest := r }).1 (acc ++ [(partD R (fun e o l s => rowD R k e o l s []) (R.rd w l).2.1 o l { s with rest := r }).2]) := by
 rw [rowD, if_neg (fun q => q h), hr]
 dsimp only
 rw [hc, dfail_0, if_neg (fun q => q h), if_neg hp, if_neg he]
end
theorem row_d (v : VVm) (ws : List Str) (hv : VRd v) (hw : WsOk ws) : ∀ (n m : Nat) (e : List Str) (o l : Int) (s : DSt), s.rest.length < n → s.rest.length < m → e.length ≤ 10 → 0 ≤ l → l ≤ o → o ≤ 16 → s.rest <:+ ws → RowDAt v ws m e o l s := by
 intro n
 induction n with
 | zero => intro m e o l s h; omega
 | succ n ih =>
  intro m e o l s hn hm he h0 h1 h2 hs
  unfold RowDAt
  obtain ⟨RES, hRES⟩ : ∃ RES, rwD v m e o l s = RES := ⟨_, rfl⟩
  have hr0 : rowD (readerS v) m e o l s [] = RES := hRES
  rw [hRES]
  refine mut_of_W tG (rs := [.tmp 8, .tmp 9]) Try.func22 rfl rfl rfl (by simp [FlatL]) (by simp) (by simp) (by simp) (fun B => ?_)
  refine zu2 ?_
  refine zp1 ?_
  (refine WO_own 10 0 4 rfl rfl ?_)
  refine Wn ?_
  refine Ws ?_
  refine Wl ?_
  show W _ _ _ _ _ _ _
  refine W_loopS (fun (x : (Nat × DSt × List VNode)) => [(0, .ptr 0 0), (1, sq cStr e), (2, i64 o), (3, i64 l), (10, .seq x.2.2.length (x.2.2.flatMap cNode) (.own 2 4))]) (fun (x : (Nat × DSt × List VNode)) => [.cells (cPl v ws x.2.1) 71, .dead]) (fun (x : (Nat × DSt × List VNode)) => [.free (x.2.2.length * 4)]) (fun (x : (Nat × DSt × List VNode)) => rowD (readerS v) x.1 e o l x.2.1 x.2.2 = RES ∧ x.2.1.rest <:+ s.rest ∧ x.2.1.rest.length < x.1 ∧ x.2.2.length + x.2.1.rest.length ≤ 1000000) (fun (x : (Nat × DSt × List VNode)) => x.1) ((m, s, [])) (by exact ⟨hr0, List.suffix_refl _, hm, by have := hs.length_le; have := hw.len; simp only [List.length_nil]; omega⟩) [1] ?_ ?_
  ·exact fitT
  ·intro x hx
   refine Ws ?_
   refine zu5 ?_
   refine Wi rfl (fun hi1 => ?_) (fun hi1 => ?_)
   ·have q1 : x.2.1.bad = 0 := by simpa using hi1
    obtain ⟨k, hk⟩ : ∃ k, x.1 = k + 1 := ⟨x.1 - 1, by have := hx.2.2.1; omega⟩
    have hx0 := hx.1
    rw [hk] at hx0
    have hxl := hx.2.2.1
    rw [hk] at hxl
    have hsw := hx.2.1.trans hs
    refine Wj ?_
    refine Wl ?_
    iterate 2 refine Ws ?_
    refine V.W_drawD [0, 0, 0, 1, 0, 0, 0, 1, 0, 0] [0, 1, 2, 3, 4, 5, 6, 7, 8, 9] mG rfl (by kernel_rfl) ?_
    iterate 3 refine V.z3 ?_
    refine V.z5 ?_
    iterate 3 refine V.z3 ?_
    refine V.z5 ?_
    iterate 2 refine V.z3 ?_
    refine V.WU_nil ?_
    refine Wi rfl (fun hi2 => ?_) (fun hi2 => ?_)
    ·have hr : x.2.1.rest = [] := by
      have a1 := oT hi2
      have a2 := hsw.length_le
      unfold atN at a1
      exact List.length_eq_zero_iff.1 (by omega)
     have eE : RES = (if [] ∈ e then x.2.1 else x.2.1.fail (-22), x.2.2, []) := by rw [← hx0]; exact rd_nil q1 hr
     refine zp1 ?_
     refine zc rfl Try.func39 ((ref_in16 e [] (by omega)) _) ?_
     refine zs1 ?_
     refine Ws ?_
     refine zu2 ?_
     refine Wi rfl (fun hi3 => ?_) (fun hi3 => ?_)
     ·have q3 : [] ∉ e := by simpa using hi3
      rw [if_neg q3] at eE
      refine W_region rfl ?_
      refine z1 ?_
      refine zc rfl Try.func40 ((pl_fail v ws x.2.1 (-22)) _ _ rfl) ?_
      refine Wn ?_
      refine zu3 ?_
      refine Wq ?_
      refine leafM rfl rfl ?_ ?_
      ·(rw [eE]; rfl)
      ·(rw [eE]; rfl)
     ·have q3 : [] ∈ e := by simpa using hi3
      rw [if_pos q3] at eE
      refine Wj ?_
      refine zu3 ?_
      refine Wq ?_
      refine leafM rfl rfl ?_ ?_
      ·(rw [eE]; rfl)
      ·(rw [eE]; rfl)
    ·obtain ⟨w, r, hr⟩ : ∃ w r, x.2.1.rest = w :: r := by
      cases hr : x.2.1.rest with
      | nil => exact absurd hi2 (by rw [hr]; simp [atN])
      | cons w r => exact ⟨w, r, rfl⟩
     have hsw1 : (w :: r) <:+ ws := hr ▸ hsw
     have hwl : w.length ≤ 9223372036854775807 := hw.each w (hsw1.subset (by simp))
     have hsr : r <:+ ws := (List.suffix_cons w r).trans hsw1
     have hrl : x.2.1.rest.length = r.length + 1 := by rw [hr]; rfl
     have hsr2 : r <:+ s.rest := (List.suffix_cons w r).trans (hr ▸ hx.2.1)
     have hwl2 := hw.len
     have hl : r.length + 1 ≤ ws.length := by simpa using suf_len hsw1
     have hg := suf_get hsw1
     have w0 : atN ws x.2.1.rest = ((ws.length - (r.length + 1) : Nat) : Int) := by rw [hr]; rfl
     have w1 : IntKind.i64.wrap (atN ws x.2.1.rest + 1) = atN ws r := by rw [w0, i64_ok2 (by omega) (by omega)]; unfold atN; omega
     obtain ⟨s1, hs1⟩ : ∃ s1 : DSt, ({ x.2.1 with rest := r } : DSt) = s1 := ⟨_, rfl⟩
     have e1r : s1.rest = r := by rw [← hs1]
     have e1b : s1.bad = 0 := by rw [← hs1]; exact q1
     obtain ⟨rr, hrr⟩ : ∃ rr, rdS v w l = rr := ⟨_, rfl⟩
     have p2 := pl_word v ws s1 hv w hwl l
     have wd := wd_rd v w l s1 (hv.fl w).1 e1b
     rw [hrr] at wd
     obtain ⟨z, hz⟩ : ∃ z, wdS v w l s1 = z := ⟨_, rfl⟩
     rw [hz] at p2 wd
     have hrd : (readerS v).rd w l = rr := hrr
     have rc := rd_code (R := readerS v) (k := k) (e := e) (o := o) (l := l) (acc := x.2.2) q1 hr
     have rp := rd_part (R := readerS v) (k := k) (e := e) (o := o) (l := l) (acc := x.2.2) q1 hr
     have re := rd_end (R := readerS v) (k := k) (e := e) (o := o) (l := l) (acc := x.2.2) q1 hr
     have ro := rd_on (R := readerS v) (k := k) (e := e) (o := o) (l := l) (acc := x.2.2) q1 hr
     rw [hrd, hs1, hx0] at rc rp re ro
     refine Wj ?_
     refine Ws ?_
     refine V.W_drawD [0, 0, 0, 1, 0, 0, 0, 1, 0, 1, 0] [0, 1, 2, 3, 4, 5, 6, 7, 8, 9, 10] mG rfl (by kernel_rfl) ?_
     iterate 3 refine V.z3 ?_
     refine V.z5 ?_
     iterate 3 refine V.z3 ?_
     refine V.z5 ?_
     refine V.Xa 45 rfl (congrArg (fun z => PV.val (Value.int .i64 z)) w0) ?_
     refine V.Xi tG rfl rfl rfl rfl (fun _ => rfl) (by omega) (iN cStr 1 (fun _ => rfl) [] (by omega)) ?_
     refine V.z5 ?_
     refine V.Xa 47 rfl (congrArg str hg) ?_
     refine V.z3 ?_
     refine V.WU_nil ?_
     refine zp5 ?_
     refine z1 ?_
     refine Wa 53 rfl (congrArg (fun z => PV.val (Value.int .i64 z)) w1) ?_
     refine zs3 ?_
     refine zp1 ?_
     refine WO_ob (H' := [.cells (cPl v ws s1) 71, .dead, .free (x.2.2.length * 4)]) (by rw [← hs1]; rfl) ?_
     refine zy2 ?_
     refine zc rfl Try.func41 ((p2) _ _ rfl) ?_
     refine zy5 ?_
     refine zs1 ?_
     refine Ws ?_
     refine zu5 ?_
     refine Wi rfl (fun hi4 => ?_) (fun hi4 => ?_)
     ·have q4 : z.1.bad ≠ 0 := by simpa using hi4
      have c4 : rr.1 ≠ 0 := by rw [wd.1, dfail0 e1b] at q4; exact q4
      have eE : RES = (z.1, [], []) := by rw [wd.1]; exact rc c4
      refine zu2 ?_
      refine Wq ?_
      refine leafM rfl rfl ?_ ?_
      ·(rw [eE]; rfl)
      ·(rw [eE]; rfl)
     ·have q4 : z.1.bad = 0 := by simpa using hi4
      have c4 : rr.1 = 0 := by rw [wd.1, dfail0 e1b] at q4; exact q4
      obtain rfl : z = (s1, rr.2.2, rr.2.1) := by
       have a1 := wd.1
       rw [c4, dfail_0] at a1
       rw [← a1, ← wd.2 c4]
      refine Wj ?_
      refine Ws ?_
      refine zp2 ?_
      refine zq 69 ?_
      refine Wn ?_
      refine Wi rfl (fun hi5 => ?_) (fun hi5 => ?_)
      ·have q5 : rr.2.1 = [] := oT hi5
       have f5 : rowD (readerS v) k e o l s1 (x.2.2 ++ [rr.2.2]) = RES := (rp c4 q5).symm
       have hxl4 := hx.2.2.2
       clear rc rp re ro p2 wd hz hrr hrd hRES hr0 hx0 hs1 hx
       refine zp3 ?_
       refine Wa 72 rfl ((show _ = PV.seq (List.length [rr.2.2]) (List.flatMap cNode [rr.2.2]) .clip from rfl)) ?_
       refine Wd rfl rfl (does_append_own (lO tG rfl) rfl (lO tG rfl) (lO tG rfl) rfl rfl rfl rfl (by simp) (by exact ⟨_, rfl⟩) (by exact ⟨rfl, rfl, flatMap_len _ 4 (fun _ => rfl) _, okC_flat _ (fun _ => rfl) _⟩) (by ((simp_all; omega))) (by ((simp_all; omega)))) ?_
       refine Wa 73 rfl (sq_append cNode) ?_
       refine z1 ?_
       skip
       refine Wn ?_
       refine W_exit ?_
       exact ⟨(k, s1, x.2.2 ++ [rr.2.2]), [4], (by exact ⟨f5, by rw [e1r]; exact hsr2, by rw [e1r]; omega, by rw [e1r, List.length_append]; have := hxl4; rw [hrl] at this; simp; omega⟩), (by omega), fitT⟩
      ·have q5 : ¬ rr.2.1 = [] := oF hi5
       have pp := pl_part v ws k rr.2.1 o l s1 hv hw (by rw [e1r]; exact hsr) q5 h0 h1 h2 (fun hq e' l' t a1 a2 a3 a4 => ih k e' (o + 1) l' t (by have := a4.length_le; have := hx.2.1.length_le; rw [e1r] at *; omega) (by have := a4.length_le; rw [e1r] at this; omega) a1 a2 a3 (by omega) (a4.trans (by rw [e1r]; exact hsr)))
       have ps := part_suf (readerS v) (rwD_suf v k) rr.2.1 o l s1
       have ro2 := fun h => ro c4 q5 h
       obtain ⟨pr, hpr⟩ : ∃ pr, partD (readerS v) (rwD v k) rr.2.1 o l s1 = pr := ⟨_, rfl⟩
       rw [show (fun e o l s => rowD (readerS v) k e o l s []) = rwD v k from rfl, hpr] at ro2
       rw [hpr] at pp ps
       rw [e1r] at ps
       have hxl4 := hx.2.2.2
       refine Wj ?_
       refine zp2 ?_
       refine zc rfl Try.func39 ((ref_in16 e _ (by omega)) _) ?_
       refine zs1 ?_
       refine Ws ?_
       refine zu1 ?_
       refine Wi rfl (fun hi6 => ?_) (fun hi6 => ?_)
       ·have q6 : rr.2.1 ∈ e := by simpa using hi6
        have eE : RES = (s1, x.2.2, rr.2.1) := re c4 q5 q6
        refine zu4 ?_
        refine Wq ?_
        refine leafM rfl rfl ?_ ?_
        ·(rw [eE]; rfl)
        ·(rw [eE]; rfl)
       ·have q6 : rr.2.1 ∉ e := by simpa using hi6
        have f5 : rowD (readerS v) k e o l pr.1 (x.2.2 ++ [pr.2]) = RES := (ro2 q6).symm
        clear rc rp re ro ro2 p2 wd hz hrr hrd hRES hr0 hx0 hs1 hx
        refine Wj ?_
        refine W_region rfl ?_
        refine zy5 ?_
        refine zc rfl Try.func42 ((pp) _ _ rfl) ?_
        refine z1 ?_
        refine Wa 86 rfl ((show _ = PV.seq (List.length [pr.2]) (List.flatMap cNode [pr.2]) .clip from rfl)) ?_
        refine Wd rfl rfl (does_append_own (lO tG rfl) rfl (lO tG rfl) (lO tG rfl) rfl rfl rfl rfl (by simp) (by exact ⟨_, rfl⟩) (by exact ⟨rfl, rfl, flatMap_len _ 4 (fun _ => rfl) _, okC_flat _ (fun _ => rfl) _⟩) (by ((simp_all; omega))) (by ((simp_all; omega)))) ?_
        refine Wa 87 rfl (sq_append cNode) ?_
        refine z1 ?_
        skip
        refine Wn ?_
        exact ⟨(k, pr.1, x.2.2 ++ [pr.2]), [4], (by exact ⟨f5, ps.trans hsr2, by show pr.1.rest.length < k; have := ps.length_le; omega, by rw [List.length_append]; have := hxl4; rw [hrl] at this; have := ps.length_le; simp; omega⟩), (by omega), fitT⟩
   ·have q1 : x.2.1.bad ≠ 0 := by simpa using hi1
    have eE : RES = (x.2.1, [], []) := by rw [← hx.1]; exact rd_bad q1
    refine W_exit ?_
    refine zu2 ?_
    refine Wq ?_
    refine leafM rfl rfl ?_ ?_
    ·(rw [eE]; rfl)
    ·(rw [eE]; rfl)
theorem parse_dd {R : Rdr} {ws : List Str} (h : ¬ (rowD R (ws.length + 1) [[]] 0 0 ⟨ws, 0⟩ []).1.bad = 0) : parseD R ws = ([], (rowD R (ws.length + 1) [[]] 0 0 ⟨ws, 0⟩ []).1.bad) := by
 unfold parseD; dsimp only; rw [if_pos h]
theorem parse_de {R : Rdr} {ws : List Str} (h : (rowD R (ws.length + 1) [[]] 0 0 ⟨ws, 0⟩ []).1.bad = 0) : parseD R ws = ((rowD R (ws.length + 1) [[]] 0 0 ⟨ws, 0⟩ []).2.1, 0) := by
 unfold parseD; dsimp only; rw [if_neg (fun q => q h)]
theorem ref_Parse16 (v : VVm) (ws : List Str) (hv : VRd v) (hw : WsOk ws) : PureC Try.prog 10 [eVm v, sq cStr ws] (tup2 (sq cNode (parseP (readerS v) ws).1) (i64 (parseP (readerS v) ws).2)) := by
 rw [parse_twin (readerS v) (readerS_ok v).bad ws]
 have hrow := row_d v ws hv hw (ws.length + 1) (ws.length + 1) [[]] 0 0 ⟨ws, 0⟩ (Nat.lt_succ_self _) (Nat.lt_succ_self _) (by decide) (Int.le_refl _) (Int.le_refl _) (by decide) (List.suffix_refl _)
 obtain ⟨rz, hrz⟩ : ∃ rz, rowD (readerS v) (ws.length + 1) [[]] 0 0 ⟨ws, 0⟩ [] = rz := ⟨_, rfl⟩
 have ha := parse_dd (R := readerS v) (ws := ws)
 have hb := parse_de (R := readerS v) (ws := ws)
 unfold RowDAt rwD at hrow
 rw [hrz] at ha hb hrow
 refine pW tG (rs := [.tmp 4, .tmp 5]) Try.func10 rfl rfl rfl (by simp) (by simp) (fun B => ?_)
 refine zu3 ?_
 refine zu5 ?_
 refine zp1 ?_
 refine Wa 13 rfl (bsL cStr [_] rfl rfl) ?_
 refine WO_ob (H' := [.cells (cVm v) 36, .cells (cPl v ws ⟨ws, 0⟩) 71]) (by unfold cPl atN; rw [Nat.sub_self]; rfl) ?_
 refine zc rfl Try.func22 (hrow _ _ rfl) ?_
 refine zs5 ?_
 refine Ws ?_
 refine zu3 ?_
 refine Wi rfl (fun hi1 => ?_) (fun hi1 => ?_)
 ·have q : ¬ rz.1.bad = 0 := by simpa using hi1
  refine Ws ?_
  refine W_drawU [0, 1, 0, 0] [0, 1, 2, 3] mG rfl (by kernel_rfl) ?_
  refine z3 ?_
  refine z5 ?_
  iterate 2 refine z3 ?_
  refine WU_nil ?_
  refine zR ?_
  (rw [ha q]; rfl)
 ·have q : rz.1.bad = 0 := by simpa using hi1
  refine Wj ?_
  refine zu3 ?_
  refine zR ?_
  (rw [hb q]; rfl)
end Go.Proofs.Ytlponhgbbfgkgaa
namespace Go.Proofs.Ytlponhgbbfgkgaa
open Go.RowKit
set_option maxRecDepth 100000
set_option maxHeartbeats 4000000
def rightA (v : VVm) : Bool := decide (fitsV v.conf ∧ memRight v.mem = true ∧ right9 v.dict = true ∧ picRight v.pic ∧ (v.mem.b.length : Int) = v.conf.mem ∧ 1368 ≤ v.here ∧ v.here ≤ v.conf.mem)
def frameOk (f : VFrame) : Bool := decide (0 ≤ f.d ∧ f.d ≤ 256 ∧ 0 ≤ f.r ∧ f.r ≤ 256)
def handOk (h : VHand) : Bool := decide (0 ≤ h.fuel)
def rightC (v : VVm) : Bool := decide ((v.d.length : Int) ≤ v.conf.data ∧ (v.r.length : Int) ≤ v.conf.ret ∧ v.f.length ≤ 64 ∧ (v.dict.length : Int) ≤ v.conf.words ∧ (v.out.length : Int) ≤ v.conf.out ∧ v.req.length ≤ 16 ∧ 0 ≤ v.free ∧ v.free ≤ 64 ∧ 0 ≤ v.next ∧ v.next ≤ 4611686018427387904 ∧ v.hand.length ≤ 64)
def right10 (v : VVm) : Bool := rightA v && (v.f.all frameOk && (v.hand.all handOk && rightC v))
structure VIn2 (v : VVm) : Prop extends VIn v where
 f : v.f.length ≤ 9223372036854775807
 hand : v.hand.length ≤ 9223372036854775807
theorem ref_Right10 (v : VVm) (h : VIn2 v) : PureC Try.prog 17 [eVm v] (boo (right10 v)) := by
 have e1 := h.f
 have e2 := h.hand
 refine pW tG (rs := [.tmp 2]) Try.func17 rfl rfl rfl (by simp) (by simp) (fun B => ?_)
 refine zu2 ?_
 refine zp2 ?_
 refine zc rfl Try.func31 ((ref_Fits v.conf) _) ?_
 refine zs1 ?_
 refine zp2 ?_
 refine zc rfl Try.func32 ((ref_Right3 v.mem h.b h.old h.pt) _) ?_
 refine zs1 ?_
 refine zp2 ?_
 refine zc rfl Try.func33 ((ref_Right9 v.dict h.dict) _) ?_
 refine zs1 ?_
 refine zp2 ?_
 refine zc rfl Try.func34 ((ref_Right7 v.pic) _) ?_
 refine zs1 ?_
 refine Ws ?_
 refine zp3 ?_
 refine Wb 23 rfl (fun hg1 => ?_) (fun hg1 => ?_)
 ·have hbad : rightA v = false := decide_eq_false (fun q => oF (not_t hg1) q.1)
  iterate 2 refine z6 ?_
  refine zy2 ?_
  iterate 2 refine z6 ?_
  refine zy2 ?_
  iterate 2 refine z6 ?_
  refine zy2 ?_
  iterate 8 refine z6 ?_
  refine zy2 ?_
  iterate 3 refine z6 ?_
  refine zy2 ?_
  iterate 6 refine z6 ?_
  refine zs1 ?_
  refine Wt rfl rfl ?_
  refine zu1 ?_
  refine zR ?_
  exact congrArg boo (by rw [right10, hbad]; rfl)
 ·have h1 : fitsV v.conf := oT (not_f hg1)
  refine zy4 ?_
  refine Wb 27 rfl (fun hg2 => ?_) (fun hg2 => ?_)
  ·have hbad : rightA v = false := decide_eq_false (fun q => by have := not_t hg2; rw [q.2.1] at this; cases this)
   iterate 2 refine z6 ?_
   refine zy2 ?_
   iterate 2 refine z6 ?_
   refine zy2 ?_
   iterate 8 refine z6 ?_
   refine zy2 ?_
   iterate 3 refine z6 ?_
   refine zy2 ?_
   iterate 6 refine z6 ?_
   refine zs1 ?_
   refine Wt rfl rfl ?_
   refine zu1 ?_
   refine zR ?_
   exact congrArg boo (by rw [right10, hbad]; rfl)
  ·have h2 : memRight v.mem = true := not_f hg2
   refine zy4 ?_
   refine Wb 31 rfl (fun hg3 => ?_) (fun hg3 => ?_)
   ·have hbad : rightA v = false := decide_eq_false (fun q => by have := not_t hg3; rw [q.2.2.1] at this; cases this)
    iterate 2 refine z6 ?_
    refine zy2 ?_
    iterate 8 refine z6 ?_
    refine zy2 ?_
    iterate 3 refine z6 ?_
    refine zy2 ?_
    iterate 6 refine z6 ?_
    refine zs1 ?_
    refine Wt rfl rfl ?_
    refine zu1 ?_
    refine zR ?_
    exact congrArg boo (by rw [right10, hbad]; rfl)
   ·have h3 : right9 v.dict = true := not_f hg3
    refine zy4 ?_
    refine Wb 35 rfl (fun hg4 => ?_) (fun hg4 => ?_)
    ·have hbad : rightA v = false := decide_eq_false (fun q => oF (not_t hg4) q.2.2.2.1)
     iterate 8 refine z6 ?_
     refine zy2 ?_
     iterate 3 refine z6 ?_
     refine zy2 ?_
     iterate 6 refine z6 ?_
     refine zs1 ?_
     refine Wt rfl rfl ?_
     refine zu1 ?_
     refine zR ?_
     exact congrArg boo (by rw [right10, hbad]; rfl)
    ·have h4 : picRight v.pic := oT (not_f hg4)
     refine zy5 ?_
     refine zy5 ?_
     refine Wb 45 rfl (fun hg5 => ?_) (fun hg5 => ?_)
     ·have hbad : rightA v = false := decide_eq_false (fun q => bne_iff_ne.1 hg5 q.2.2.2.2.1)
      iterate 3 refine z6 ?_
      refine zy2 ?_
      iterate 6 refine z6 ?_
      refine zs1 ?_
      refine Wt rfl rfl ?_
      refine zu1 ?_
      refine zR ?_
      exact congrArg boo (by rw [right10, hbad]; rfl)
     ·have h5 : (v.mem.b.length : Int) = v.conf.mem := bne_eq_false_iff_eq.1 hg5
      refine zy5 ?_
      refine Wb 50 rfl (fun hg6 => ?_) (fun hg6 => ?_)
      ·have hbad : rightA v = false := decide_eq_false (fun q => by have := oT hg6; omega)
       iterate 6 refine z6 ?_
       refine zs1 ?_
       refine Wt rfl rfl ?_
       refine zu1 ?_
       refine zR ?_
       exact congrArg boo (by rw [right10, hbad]; rfl)
      ·have h6 := oF hg6
       refine zy5 ?_
       refine zs2 ?_
       refine Wi rfl (fun hi1 => ?_) (fun hi1 => ?_)
       ·have hbad : rightA v = false := decide_eq_false (fun q => by have := oT hi1; omega)
        refine zu1 ?_
        refine zR ?_
        exact congrArg boo (by rw [right10, hbad]; rfl)
       ·have hA : rightA v = true := decide_eq_true ⟨h1, h2, h3, h4, h5, by omega, by have := oF hi1; omega⟩
        refine Wj ?_
        refine Ws ?_
        refine zu1 ?_
        refine Wl ?_
        show W _ _ _ _ _ _ _
        refine W_loopS (fun (k : Nat) => [(1, .ptr 0 0), (7, i64 k)]) (fun (k : Nat) => [.cells (cVm v) 36]) (fun (k : Nat) => []) (fun (k : Nat) => k ≤ v.f.length ∧ (v.f.take k).all frameOk = true) (fun (k : Nat) => v.f.length - k) (0) (by simp) [] ?_ ?_
        ·exact fitT
        ·intro k hk
         refine Ws ?_
         refine zu5 ?_
         refine Wi rfl (fun hi2 => ?_) (fun hi2 => ?_)
         ·have hlt : k < v.f.length := by have := oT hi2; omega
          refine Wj ?_
          refine Ws ?_
          refine Wl ?_
          refine zp3 ?_
          refine Wv tG rfl rfl rfl (by omega) (iN cFrame 3 (fun _ => rfl) default (by omega)) ?_
          refine zy4 ?_
          refine Wb 72 rfl (fun hg7 => ?_) (fun hg7 => ?_)
          ·have hn : v.f.all frameOk = false := all_no default hlt (decide_eq_false (fun q => by have := oT hg7; omega))
           iterate 7 refine z6 ?_
           refine zy2 ?_
           iterate 7 refine z6 ?_
           refine zy2 ?_
           iterate 7 refine z6 ?_
           refine zs1 ?_
           refine Wt rfl rfl ?_
           refine zu1 ?_
           refine zR ?_
           exact congrArg boo (by rw [right10, hA, hn]; rfl)
          ·have q1 := oF hg7
           refine zy3 ?_
           refine Wv tG rfl rfl rfl (by omega) (iN cFrame 3 (fun _ => rfl) default (by omega)) ?_
           refine zy5 ?_
           refine Wb 81 rfl (fun hg8 => ?_) (fun hg8 => ?_)
           ·have hn : v.f.all frameOk = false := all_no default hlt (decide_eq_false (fun q => by have := oT hg8; omega))
            iterate 7 refine z6 ?_
            refine zy2 ?_
            iterate 7 refine z6 ?_
            refine zs1 ?_
            refine Wt rfl rfl ?_
            refine zu1 ?_
            refine zR ?_
            exact congrArg boo (by rw [right10, hA, hn]; rfl)
           ·have q2 := oF hg8
            refine zy3 ?_
            refine Wv tG rfl rfl rfl (by omega) (iN cFrame 3 (fun _ => rfl) default (by omega)) ?_
            refine zy5 ?_
            refine Wb 90 rfl (fun hg9 => ?_) (fun hg9 => ?_)
            ·have hn : v.f.all frameOk = false := all_no default hlt (decide_eq_false (fun q => by have := oT hg9; omega))
             iterate 7 refine z6 ?_
             refine zs1 ?_
             refine Wt rfl rfl ?_
             refine zu1 ?_
             refine zR ?_
             exact congrArg boo (by rw [right10, hA, hn]; rfl)
            ·have q3 := oF hg9
             refine zy3 ?_
             refine Wv tG rfl rfl rfl (by omega) (iN cFrame 3 (fun _ => rfl) default (by omega)) ?_
             refine zs4 ?_
             refine Wi rfl (fun hi3 => ?_) (fun hi3 => ?_)
             ·have hn : v.f.all frameOk = false := all_no default hlt (decide_eq_false (fun q => by have := oT hi3; omega))
              refine zu1 ?_
              refine zR ?_
              exact congrArg boo (by rw [right10, hA, hn]; rfl)
             ·have hy : frameOk (v.f.getD k default) = true := decide_eq_true ⟨by omega, by omega, by omega, by have := oF hi3; omega⟩
              refine Wj ?_
              refine W_region rfl ?_
              refine zs3 ?_
              exact ⟨k + 1, [], (by exact ⟨by omega, all_snoc default hlt hk.2 hy⟩), (by omega), fitT⟩
         ·have hge : v.f.length ≤ k := by have := oF hi2; omega
          have hF : v.f.all frameOk = true := by have h1 := hk.2; rw [take_all' _ k hge] at h1; exact h1
          refine W_exit ?_
          refine Ws ?_
          refine zu1 ?_
          refine Wl ?_
          show W _ _ _ _ _ _ _
          refine W_loopS (fun (j : Nat) => [(1, .ptr 0 0), (8, i64 j)]) (fun (j : Nat) => [.cells (cVm v) 36]) (fun (j : Nat) => []) (fun (j : Nat) => j ≤ v.hand.length ∧ (v.hand.take j).all handOk = true) (fun (j : Nat) => v.hand.length - j) (0) (by simp) [] ?_ ?_
          ·exact fitT
          ·intro j hj
           refine Ws ?_
           refine zu5 ?_
           refine Wi rfl (fun hi4 => ?_) (fun hi4 => ?_)
           ·have hlt : j < v.hand.length := by have := oT hi4; omega
            refine Wj ?_
            refine Ws ?_
            refine Wl ?_
            refine zp3 ?_
            refine Wv tG rfl rfl rfl (by omega) (iN cHand 4 (fun _ => rfl) default (by omega)) ?_
            refine zs3 ?_
            refine Wi rfl (fun hi5 => ?_) (fun hi5 => ?_)
            ·have hn : v.hand.all handOk = false := all_no default hlt (decide_eq_false (fun q => by have := oT hi5; omega))
             refine zu1 ?_
             refine zR ?_
             exact congrArg boo (by rw [right10, hA, hF, hn]; rfl)
            ·have hy : handOk (v.hand.getD j default) = true := decide_eq_true (by have := oF hi5; omega)
             refine Wj ?_
             refine W_region rfl ?_
             refine zs3 ?_
             exact ⟨j + 1, [], (by exact ⟨by omega, all_snoc default hlt hj.2 hy⟩), (by omega), fitT⟩
           ·have hge : v.hand.length ≤ j := by have := oF hi4; omega
            have hH : v.hand.all handOk = true := by have h1 := hj.2; rw [take_all' _ j hge] at h1; exact h1
            have hR : right10 v = rightC v := by rw [right10, hA, hF, hH]; rfl
            clear hA hF hH h1 h2 h3 h4 hk hj h
            refine W_exit ?_
            refine zp5 ?_
            refine zy3 ?_
            refine Wb 120 rfl (fun hg10 => ?_) (fun hg10 => ?_)
            ·refine zy5 ?_
             refine zy4 ?_
             refine Wb 129 rfl (fun hg11 => ?_) (fun hg11 => ?_)
             ·refine zy5 ?_
              refine z1 ?_
              refine Wb 135 rfl (fun hg12 => ?_) (fun hg12 => ?_)
              ·refine zy5 ?_
               refine zy4 ?_
               refine Wb 144 rfl (fun hg13 => ?_) (fun hg13 => ?_)
               ·refine zy5 ?_
                refine zy4 ?_
                refine Wb 153 rfl (fun hg14 => ?_) (fun hg14 => ?_)
                ·refine zy5 ?_
                 refine z1 ?_
                 refine Wb 159 rfl (fun hg15 => ?_) (fun hg15 => ?_)
                 ·refine zy5 ?_
                  refine Wb 164 rfl (fun hg16 => ?_) (fun hg16 => ?_)
                  ·refine zy5 ?_
                   refine Wb 169 rfl (fun hg17 => ?_) (fun hg17 => ?_)
                   ·refine zy5 ?_
                    refine Wb 174 rfl (fun hg18 => ?_) (fun hg18 => ?_)
                    ·refine zy5 ?_
                     refine Wb 179 rfl (fun hg19 => ?_) (fun hg19 => ?_)
                     ·refine zy5 ?_
                      refine zs1 ?_
                      refine zR ?_
                      refine congrArg boo ?_; rw [hR]; unfold rightC; rw [Bool.eq_iff_iff]; (try simp only [dnL] at *); omega
                     ·refine z6 ?_
                      iterate 3 refine z6 ?_
                      refine zs2 ?_
                      refine zR ?_
                      refine congrArg boo ?_; rw [hR]; unfold rightC; rw [Bool.eq_iff_iff]; (try simp only [dnL] at *); omega
                    ·refine z6 ?_
                     iterate 2 refine z6 ?_
                     refine zy2 ?_
                     iterate 4 refine z6 ?_
                     refine zs2 ?_
                     refine zR ?_
                     refine congrArg boo ?_; rw [hR]; unfold rightC; rw [Bool.eq_iff_iff]; (try simp only [dnL] at *); omega
                   ·refine z6 ?_
                    iterate 2 refine z6 ?_
                    refine zy2 ?_
                    iterate 3 refine z6 ?_
                    refine zy2 ?_
                    iterate 4 refine z6 ?_
                    refine zs2 ?_
                    refine zR ?_
                    refine congrArg boo ?_; rw [hR]; unfold rightC; rw [Bool.eq_iff_iff]; (try simp only [dnL] at *); omega
                  ·refine z6 ?_
                   iterate 2 refine z6 ?_
                   refine zy2 ?_
                   iterate 3 refine z6 ?_
                   refine zy2 ?_
                   iterate 3 refine z6 ?_
                   refine zy2 ?_
                   iterate 4 refine z6 ?_
                   refine zs2 ?_
                   refine zR ?_
                   refine congrArg boo ?_; rw [hR]; unfold rightC; rw [Bool.eq_iff_iff]; (try simp only [dnL] at *); omega
                 ·refine z6 ?_
                  iterate 2 refine z6 ?_
                  refine zy2 ?_
                  iterate 3 refine z6 ?_
                  refine zy2 ?_
                  iterate 3 refine z6 ?_
                  refine zy2 ?_
                  iterate 3 refine z6 ?_
                  refine zy2 ?_
                  iterate 4 refine z6 ?_
                  refine zs2 ?_
                  refine zR ?_
                  refine congrArg boo ?_; rw [hR]; unfold rightC; rw [Bool.eq_iff_iff]; (try simp only [dnL] at *); omega
                ·refine z6 ?_
                 iterate 3 refine z6 ?_
                 refine zy2 ?_
                 iterate 3 refine z6 ?_
                 refine zy2 ?_
                 iterate 3 refine z6 ?_
                 refine zy2 ?_
                 iterate 3 refine z6 ?_
                 refine zy2 ?_
                 iterate 3 refine z6 ?_
                 refine zy2 ?_
                 iterate 4 refine z6 ?_
                 refine zs2 ?_
                 refine zR ?_
                 refine congrArg boo ?_; rw [hR]; unfold rightC; rw [Bool.eq_iff_iff]; (try simp only [dnL] at *); omega
               ·refine z6 ?_
                iterate 6 refine z6 ?_
                refine zy2 ?_
                iterate 4 refine z6 ?_
                refine zy2 ?_
                iterate 3 refine z6 ?_
                refine zy2 ?_
                iterate 3 refine z6 ?_
                refine zy2 ?_
                iterate 3 refine z6 ?_
                refine zy2 ?_
                iterate 3 refine z6 ?_
                refine zy2 ?_
                iterate 4 refine z6 ?_
                refine zs2 ?_
                refine zR ?_
                refine congrArg boo ?_; rw [hR]; unfold rightC; rw [Bool.eq_iff_iff]; (try simp only [dnL] at *); omega
              ·refine z6 ?_
               iterate 6 refine z6 ?_
               refine zy2 ?_
               iterate 7 refine z6 ?_
               refine zy2 ?_
               iterate 4 refine z6 ?_
               refine zy2 ?_
               iterate 3 refine z6 ?_
               refine zy2 ?_
               iterate 3 refine z6 ?_
               refine zy2 ?_
               iterate 3 refine z6 ?_
               refine zy2 ?_
               iterate 3 refine z6 ?_
               refine zy2 ?_
               iterate 4 refine z6 ?_
               refine zs2 ?_
               refine zR ?_
               refine congrArg boo ?_; rw [hR]; unfold rightC; rw [Bool.eq_iff_iff]; (try simp only [dnL] at *); omega
             ·refine z6 ?_
              iterate 3 refine z6 ?_
              refine zy2 ?_
              iterate 7 refine z6 ?_
              refine zy2 ?_
              iterate 7 refine z6 ?_
              refine zy2 ?_
              iterate 4 refine z6 ?_
              refine zy2 ?_
              iterate 3 refine z6 ?_
              refine zy2 ?_
              iterate 3 refine z6 ?_
              refine zy2 ?_
              iterate 3 refine z6 ?_
              refine zy2 ?_
              iterate 3 refine z6 ?_
              refine zy2 ?_
              iterate 4 refine z6 ?_
              refine zs2 ?_
              refine zR ?_
              refine congrArg boo ?_; rw [hR]; unfold rightC; rw [Bool.eq_iff_iff]; (try simp only [dnL] at *); omega
            ·refine z6 ?_
             iterate 6 refine z6 ?_
             refine zy2 ?_
             iterate 4 refine z6 ?_
             refine zy2 ?_
             iterate 7 refine z6 ?_
             refine zy2 ?_
             iterate 7 refine z6 ?_
             refine zy2 ?_
             iterate 4 refine z6 ?_
             refine zy2 ?_
             iterate 3 refine z6 ?_
             refine zy2 ?_
             iterate 3 refine z6 ?_
             refine zy2 ?_
             iterate 3 refine z6 ?_
             refine zy2 ?_
             iterate 3 refine z6 ?_
             refine zy2 ?_
             iterate 4 refine z6 ?_
             refine zs2 ?_
             refine zR ?_
             refine congrArg boo ?_; rw [hR]; unfold rightC; rw [Bool.eq_iff_iff]; (try simp only [dnL] at *); omega
def may10 (v : VVm) : Bool := few10 v && right10 v
theorem ref_May10 (v : VVm) (h : VIn2 v) : PureC Try.prog 6 [eVm v] (boo (may10 v)) := by
 refine pW tG (rs := [.tmp 2]) Try.func6 rfl rfl rfl (by simp) (by simp) (fun B => ?_)
 refine zu2 ?_
 refine zp1 ?_
 refine zc rfl Try.func16 ((ref_Few10 v h.toVIn) _) ?_
 refine zs1 ?_
 refine zp2 ?_
 refine Wb 7 rfl (fun hg1 => ?_) (fun hg1 => ?_)
 ·refine z1 ?_
  refine zc rfl Try.func17 ((ref_Right10 v h) _) ?_
  refine zs2 ?_
  refine zR ?_
  exact congrArg boo (by rw [may10]; simp only [*, Bool.true_and, Bool.false_and])
 ·refine z6 ?_
  refine z6 ?_
  refine zs2 ?_
  refine zR ?_
  exact congrArg boo (by rw [may10]; simp only [*, Bool.true_and, Bool.false_and])
end Go.Proofs.Ytlponhgbbfgkgaa
namespace Go.Proofs.Ytlponhgbbfgkgaa
open Go.RowKit
set_option maxRecDepth 100000
theorem cB_take (l : List UInt8) (k : Nat) : (l.flatMap cByte).take k = (l.take k).flatMap cByte := by
 have := flatMap_take cByte 1 (fun _ => rfl) k l
 rwa [Nat.mul_one] at this
theorem cB_len (l : List UInt8) : (l.flatMap cByte).length = l.length := by rw [flatMap_len cByte 1 (fun _ => rfl), Nat.mul_one]
end Go.Proofs.Ytlponhgbbfgkgaa
