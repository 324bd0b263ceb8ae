import Derived.Test.YtphgdofmjpdhaaaGreatPk8
set_option linter.unusedVariables false
set_option linter.unusedSimpArgs false
namespace Go.Proofs.YtphgdofmjpdhaaaGreat
open Go.RowKit
set_option maxRecDepth 100000
set_option maxHeartbeats 4000000
theorem mul_hi3 {a b : Int} (ha : Fit64 a) (hb : Fit64 b) : Fit64 (mulS a b).2 := by
 show Fit64 (a * b / 18446744073709551616)
 unfold Fit64 at *
 have h : (a * b).natAbs ≤ 9223372036854775808 * 9223372036854775808 := by
  rw [Int.natAbs_mul]; exact Nat.mul_le_mul (by omega) (by omega)
 generalize a * b = P at h
 omega
theorem ref_Does11 (n : Int) : PureC Tryz.prog 17 [i64 n] (boo (decide (23 ≤ n ∧ n ≤ 129))) := by
 refine pW tG (rs := [.tmp 2]) Tryz.func17 rfl rfl rfl (by simp) (by simp) (fun B => ?_)
 refine zu1 ?_
 refine zp3 ?_
 refine Wb 5 rfl (fun hg1 => ?_) (fun hg1 => ?_)
 ·refine zs4 ?_
  refine zR ?_
  refine congrArg boo ?_; (try simp only [dnL] at *); rw [Bool.eq_iff_iff]; (try simp only [dnL] at *); omega
 ·refine z6 ?_
  refine z6 ?_
  refine zs2 ?_
  refine zR ?_
  refine congrArg boo ?_; (try simp only [dnL] at *); rw [Bool.eq_iff_iff]; (try simp only [dnL] at *); omega
theorem ref_yes (b : Bool) : PureC Tryz.prog 181 [boo b] (i64 (flagS b)) := by
 refine pW tG (rs := [.tmp 2]) Tryz.func181 rfl rfl rfl (by simp) (by simp) (fun B => ?_)
 refine zu1 ?_
 refine Ws ?_
 refine zu1 ?_
 refine Wi rfl (fun hi1 => ?_) (fun hi1 => ?_)
 ·refine zu1 ?_
  refine zR ?_
  rw [hi1]; rfl
 ·refine Wj ?_
  refine zu1 ?_
  refine zR ?_
  rw [hi1]; rfl
theorem ref_Base (v : VVm) (hm : MemOk v.mem) : PureC Tryz.prog 194 [eVm v] (i64 (baseS v)) := by
 refine pW tG (rs := [.tmp 2]) Tryz.func194 rfl rfl rfl (by simp) (by simp) (fun B => ?_)
 refine zu2 ?_
 refine zp2 ?_
 refine Wc rfl rfl (dC rfl Tryz.func183 rfl rfl ((ref_Fetch v.mem 0 (by have := hm.b; omega) (by unfold Fit64; omega)) _)) ?_
 refine zs5 ?_
 refine zu2 ?_
 refine zR ?_
 rfl
def takesN (name : Str) : Nat :=
 if name = [65, 70, 84, 69, 82] ∨ name = [69, 86, 69, 82, 89] then 4 else
 if name = [42, 47] ∨ name = [42, 47, 77, 79, 68] ∨ name = [85, 77, 47, 77, 79, 68] ∨ name = [83, 77, 47, 82, 69, 77] ∨ name = [70, 77, 47, 77, 79, 68] ∨ name = [87, 73, 84, 72, 73, 78] ∨ name = [50, 33] ∨ name = [70, 73, 76, 76] ∨ name = [77, 79, 86, 69] ∨ name = [80, 79, 83, 84] ∨ name = [65, 84, 45, 83, 84, 65, 84, 69] then 3 else
 if name = [47, 77, 79, 68] ∨ name = [85, 77, 42] ∨ name = [77, 42] ∨ name = [33] ∨ name = [67, 33] ∨ name = [43, 33] ∨ name = [84, 89, 80, 69] ∨ name = [35] ∨ name = [35, 83] ∨ name = [35, 62] ∨ name = [83, 69, 84, 45, 83, 84, 65, 84, 69] then 2 else
 if name = [83, 62, 68] ∨ name = [64] ∨ name = [67, 64] ∨ name = [50, 64] ∨ name = [67, 79, 85, 78, 84] ∨ name = [65, 76, 76, 79, 84] ∨ name = [44] ∨ name = [67, 44] ∨ name = [69, 77, 73, 84] ∨ name = [83, 80, 65, 67, 69, 83] ∨ name = [46] ∨ name = [85, 46] ∨ name = [72, 79, 76, 68] ∨ name = [83, 73, 71, 78] ∨ name = [62, 66, 79, 68, 89] ∨ name = [67, 65, 78, 67, 69, 76] ∨ name = [71, 69, 84, 45, 83, 84, 65, 84, 69] then 1 else 0
theorem takesS_eq (n : Int) (name : Str) : takesS n name = if n ≤ 58 then 2 else if n ≤ 72 then 1 else takesN name := rfl
theorem takesN_0 : ∀ name : Str, ¬ name = [65, 70, 84, 69, 82] → ¬ name = [69, 86, 69, 82, 89] → ¬ name = [42, 47] → ¬ name = [42, 47, 77, 79, 68] → ¬ name = [85, 77, 47, 77, 79, 68] → ¬ name = [83, 77, 47, 82, 69, 77] → ¬ name = [70, 77, 47, 77, 79, 68] → ¬ name = [87, 73, 84, 72, 73, 78] → ¬ name = [50, 33] → ¬ name = [70, 73, 76, 76] → ¬ name = [77, 79, 86, 69] → ¬ name = [80, 79, 83, 84] → ¬ name = [65, 84, 45, 83, 84, 65, 84, 69] → ¬ name = [47, 77, 79, 68] → ¬ name = [85, 77, 42] → ¬ name = [77, 42] → ¬ name = [33] → ¬ name = [67, 33] → ¬ name = [43, 33] → ¬ name = [84, 89, 80, 69] → ¬ name = [35] → ¬ name = [35, 83] → ¬ name = [35, 62] → ¬ name = [83, 69, 84, 45, 83, 84, 65, 84, 69] → ¬ name = [83, 62, 68] → ¬ name = [64] → ¬ name = [67, 64] → ¬ name = [50, 64] → ¬ name = [67, 79, 85, 78, 84] → ¬ name = [65, 76, 76, 79, 84] → ¬ name = [44] → ¬ name = [67, 44] → ¬ name = [69, 77, 73, 84] → ¬ name = [83, 80, 65, 67, 69, 83] → ¬ name = [46] → ¬ name = [85, 46] → ¬ name = [72, 79, 76, 68] → ¬ name = [83, 73, 71, 78] → ¬ name = [62, 66, 79, 68, 89] → ¬ name = [67, 65, 78, 67, 69, 76] → ¬ name = [71, 69, 84, 45, 83, 84, 65, 84, 69] → takesN name = 0 := by
 intro name n0 n1 n2 n3 n4 n5 n6 n7 n8 n9 n10 n11 n12 n13 n14 n15 n16 n17 n18 n19 n20 n21 n22 n23 n24 n25 n26 n27 n28 n29 n30 n31 n32 n33 n34 n35 n36 n37 n38 n39 n40
 unfold takesN
 simp only [n0, n1, n2, n3, n4, n5, n6, n7, n8, n9, n10, n11, n12, n13, n14, n15, n16, n17, n18, n19, n20, n21, n22, n23, n24, n25, n26, n27, n28, n29, n30, n31, n32, n33, n34, n35, n36, n37, n38, n39, n40, or_self, if_false]
theorem ref_takes11 (n : Int) (name : Str) : PureC Tryz.prog 32 [i64 n, str name] (i64 ((takesS n name : Nat) : Int)) := by
 refine pW tG (rs := [.tmp 4]) Tryz.func32 rfl rfl rfl (by simp) (by simp) (fun B => ?_)
 refine zu1 ?_
 refine Ws ?_
 refine zu2 ?_
 refine Wi rfl (fun hi1 => ?_) (fun hi1 => ?_)
 ·have q1 : n ≤ 58 := oT hi1
  refine zu1 ?_
  refine zR ?_
  rw [takesS_eq, if_pos q1]; rfl
 ·have q1 : ¬ n ≤ 58 := oF hi1
  refine Wj ?_
  refine Ws ?_
  refine zu2 ?_
  refine Wi rfl (fun hi2 => ?_) (fun hi2 => ?_)
  ·have q2 : n ≤ 72 := oT hi2
   refine zu1 ?_
   refine zR ?_
   rw [takesS_eq, if_neg q1, if_pos q2]; rfl
  ·have q2 : ¬ n ≤ 72 := oF hi2
   refine Wj ?_
   refine Ws ?_
   refine zu1 ?_
   refine Wl ?_
   refine Ws ?_
   refine zp1 ?_
   refine Wa 11 rfl (str_eql _ _) ?_
   refine zs1 ?_
   refine Wi rfl (fun hi3 => ?_) (fun hi3 => ?_)
   ·obtain rfl := oT hi3
    refine Wj ?_
    refine Wt rfl hi3 ?_
    refine zu1 ?_
    refine zR ?_
    rw [takesS_eq, if_neg q1, if_neg q2]; kernel_rfl
   ·have n0 := oF hi3
    refine W_region rfl ?_
    refine z1 ?_
    refine Wa 12 rfl (str_eql _ _) ?_
    refine zs1 ?_
    refine Wi rfl (fun hi4 => ?_) (fun hi4 => ?_)
    ·obtain rfl := oT hi4
     refine zu1 ?_
     refine zR ?_
     rw [takesS_eq, if_neg q1, if_neg q2]; kernel_rfl
    ·have n1 := oF hi4
     refine Ws ?_
     refine zp1 ?_
     refine Wa 14 rfl (str_eql _ _) ?_
     refine zs1 ?_
     refine Wi rfl (fun hi5 => ?_) (fun hi5 => ?_)
     ·obtain rfl := oT hi5
      refine Wj ?_
      refine Wt rfl hi5 ?_
      refine zu1 ?_
      refine zR ?_
      rw [takesS_eq, if_neg q1, if_neg q2]; kernel_rfl
     ·have n2 := oF hi5
      refine zp1 ?_
      refine Wa 15 rfl (str_eql _ _) ?_
      refine zs1 ?_
      refine Wi rfl (fun hi6 => ?_) (fun hi6 => ?_)
      ·obtain rfl := oT hi6
       refine Wj ?_
       refine Wt rfl hi6 ?_
       refine zu1 ?_
       refine zR ?_
       rw [takesS_eq, if_neg q1, if_neg q2]; kernel_rfl
      ·have n3 := oF hi6
       refine zp1 ?_
       refine Wa 16 rfl (str_eql _ _) ?_
       refine zs1 ?_
       refine Wi rfl (fun hi7 => ?_) (fun hi7 => ?_)
       ·obtain rfl := oT hi7
        refine Wj ?_
        refine Wt rfl hi7 ?_
        refine zu1 ?_
        refine zR ?_
        rw [takesS_eq, if_neg q1, if_neg q2]; kernel_rfl
       ·have n4 := oF hi7
        refine zp1 ?_
        refine Wa 17 rfl (str_eql _ _) ?_
        refine zs1 ?_
        refine Wi rfl (fun hi8 => ?_) (fun hi8 => ?_)
        ·obtain rfl := oT hi8
         refine Wj ?_
         refine Wt rfl hi8 ?_
         refine zu1 ?_
         refine zR ?_
         rw [takesS_eq, if_neg q1, if_neg q2]; kernel_rfl
        ·have n5 := oF hi8
         refine zp1 ?_
         refine Wa 18 rfl (str_eql _ _) ?_
         refine zs1 ?_
         refine Wi rfl (fun hi9 => ?_) (fun hi9 => ?_)
         ·obtain rfl := oT hi9
          refine Wj ?_
          refine Wt rfl hi9 ?_
          refine zu1 ?_
          refine zR ?_
          rw [takesS_eq, if_neg q1, if_neg q2]; kernel_rfl
         ·have n6 := oF hi9
          refine zp1 ?_
          refine Wa 19 rfl (str_eql _ _) ?_
          refine zs1 ?_
          refine Wi rfl (fun hi10 => ?_) (fun hi10 => ?_)
          ·obtain rfl := oT hi10
           refine Wj ?_
           refine Wt rfl hi10 ?_
           refine zu1 ?_
           refine zR ?_
           rw [takesS_eq, if_neg q1, if_neg q2]; kernel_rfl
          ·have n7 := oF hi10
           refine zp1 ?_
           refine Wa 20 rfl (str_eql _ _) ?_
           refine zs1 ?_
           refine Wi rfl (fun hi11 => ?_) (fun hi11 => ?_)
           ·obtain rfl := oT hi11
            refine Wj ?_
            refine Wt rfl hi11 ?_
            refine zu1 ?_
            refine zR ?_
            rw [takesS_eq, if_neg q1, if_neg q2]; kernel_rfl
           ·have n8 := oF hi11
            refine zp1 ?_
            refine Wa 21 rfl (str_eql _ _) ?_
            refine zs1 ?_
            refine Wi rfl (fun hi12 => ?_) (fun hi12 => ?_)
            ·obtain rfl := oT hi12
             refine Wj ?_
             refine Wt rfl hi12 ?_
             refine zu1 ?_
             refine zR ?_
             rw [takesS_eq, if_neg q1, if_neg q2]; kernel_rfl
            ·have n9 := oF hi12
             refine zp1 ?_
             refine Wa 22 rfl (str_eql _ _) ?_
             refine zs1 ?_
             refine Wi rfl (fun hi13 => ?_) (fun hi13 => ?_)
             ·obtain rfl := oT hi13
              refine Wj ?_
              refine Wt rfl hi13 ?_
              refine zu1 ?_
              refine zR ?_
              rw [takesS_eq, if_neg q1, if_neg q2]; kernel_rfl
             ·have n10 := oF hi13
              refine zp1 ?_
              refine Wa 23 rfl (str_eql _ _) ?_
              refine zs1 ?_
              refine Wi rfl (fun hi14 => ?_) (fun hi14 => ?_)
              ·obtain rfl := oT hi14
               refine Wj ?_
               refine Wt rfl hi14 ?_
               refine zu1 ?_
               refine zR ?_
               rw [takesS_eq, if_neg q1, if_neg q2]; kernel_rfl
              ·have n11 := oF hi14
               refine W_region rfl ?_
               refine z1 ?_
               refine Wa 24 rfl (str_eql _ _) ?_
               refine zs1 ?_
               refine Wi rfl (fun hi15 => ?_) (fun hi15 => ?_)
               ·obtain rfl := oT hi15
                refine zu1 ?_
                refine zR ?_
                rw [takesS_eq, if_neg q1, if_neg q2]; kernel_rfl
               ·have n12 := oF hi15
                refine Ws ?_
                refine zp1 ?_
                refine Wa 26 rfl (str_eql _ _) ?_
                refine zs1 ?_
                refine Wi rfl (fun hi16 => ?_) (fun hi16 => ?_)
                ·obtain rfl := oT hi16
                 refine Wj ?_
                 refine Wt rfl hi16 ?_
                 refine zu1 ?_
                 refine zR ?_
                 rw [takesS_eq, if_neg q1, if_neg q2]; kernel_rfl
                ·have n13 := oF hi16
                 refine zp1 ?_
                 refine Wa 27 rfl (str_eql _ _) ?_
                 refine zs1 ?_
                 refine Wi rfl (fun hi17 => ?_) (fun hi17 => ?_)
                 ·obtain rfl := oT hi17
                  refine Wj ?_
                  refine Wt rfl hi17 ?_
                  refine zu1 ?_
                  refine zR ?_
                  rw [takesS_eq, if_neg q1, if_neg q2]; kernel_rfl
                 ·have n14 := oF hi17
                  refine zp1 ?_
                  refine Wa 28 rfl (str_eql _ _) ?_
                  refine zs1 ?_
                  refine Wi rfl (fun hi18 => ?_) (fun hi18 => ?_)
                  ·obtain rfl := oT hi18
                   refine Wj ?_
                   refine Wt rfl hi18 ?_
                   refine zu1 ?_
                   refine zR ?_
                   rw [takesS_eq, if_neg q1, if_neg q2]; kernel_rfl
                  ·have n15 := oF hi18
                   refine zp1 ?_
                   refine Wa 29 rfl (str_eql _ _) ?_
                   refine zs1 ?_
                   refine Wi rfl (fun hi19 => ?_) (fun hi19 => ?_)
                   ·obtain rfl := oT hi19
                    refine Wj ?_
                    refine Wt rfl hi19 ?_
                    refine zu1 ?_
                    refine zR ?_
                    rw [takesS_eq, if_neg q1, if_neg q2]; kernel_rfl
                   ·have n16 := oF hi19
                    refine zp1 ?_
                    refine Wa 30 rfl (str_eql _ _) ?_
                    refine zs1 ?_
                    refine Wi rfl (fun hi20 => ?_) (fun hi20 => ?_)
                    ·obtain rfl := oT hi20
                     refine Wj ?_
                     refine Wt rfl hi20 ?_
                     refine zu1 ?_
                     refine zR ?_
                     rw [takesS_eq, if_neg q1, if_neg q2]; kernel_rfl
                    ·have n17 := oF hi20
                     refine zp1 ?_
                     refine Wa 31 rfl (str_eql _ _) ?_
                     refine zs1 ?_
                     refine Wi rfl (fun hi21 => ?_) (fun hi21 => ?_)
                     ·obtain rfl := oT hi21
                      refine Wj ?_
                      refine Wt rfl hi21 ?_
                      refine zu1 ?_
                      refine zR ?_
                      rw [takesS_eq, if_neg q1, if_neg q2]; kernel_rfl
                     ·have n18 := oF hi21
                      refine zp1 ?_
                      refine Wa 32 rfl (str_eql _ _) ?_
                      refine zs1 ?_
                      refine Wi rfl (fun hi22 => ?_) (fun hi22 => ?_)
                      ·obtain rfl := oT hi22
                       refine Wj ?_
                       refine Wt rfl hi22 ?_
                       refine zu1 ?_
                       refine zR ?_
                       rw [takesS_eq, if_neg q1, if_neg q2]; kernel_rfl
                      ·have n19 := oF hi22
                       refine zp1 ?_
                       refine Wa 33 rfl (str_eql _ _) ?_
                       refine zs1 ?_
                       refine Wi rfl (fun hi23 => ?_) (fun hi23 => ?_)
                       ·obtain rfl := oT hi23
                        refine Wj ?_
                        refine Wt rfl hi23 ?_
                        refine zu1 ?_
                        refine zR ?_
                        rw [takesS_eq, if_neg q1, if_neg q2]; kernel_rfl
                       ·have n20 := oF hi23
                        refine zp1 ?_
                        refine Wa 34 rfl (str_eql _ _) ?_
                        refine zs1 ?_
                        refine Wi rfl (fun hi24 => ?_) (fun hi24 => ?_)
                        ·obtain rfl := oT hi24
                         refine Wj ?_
                         refine Wt rfl hi24 ?_
                         refine zu1 ?_
                         refine zR ?_
                         rw [takesS_eq, if_neg q1, if_neg q2]; kernel_rfl
                        ·have n21 := oF hi24
                         refine zp1 ?_
                         refine Wa 35 rfl (str_eql _ _) ?_
                         refine zs1 ?_
                         refine Wi rfl (fun hi25 => ?_) (fun hi25 => ?_)
                         ·obtain rfl := oT hi25
                          refine Wj ?_
                          refine Wt rfl hi25 ?_
                          refine zu1 ?_
                          refine zR ?_
                          rw [takesS_eq, if_neg q1, if_neg q2]; kernel_rfl
                         ·have n22 := oF hi25
                          refine W_region rfl ?_
                          refine z1 ?_
                          refine Wa 36 rfl (str_eql _ _) ?_
                          refine zs1 ?_
                          refine Wi rfl (fun hi26 => ?_) (fun hi26 => ?_)
                          ·obtain rfl := oT hi26
                           refine zu1 ?_
                           refine zR ?_
                           rw [takesS_eq, if_neg q1, if_neg q2]; kernel_rfl
                          ·have n23 := oF hi26
                           refine Ws ?_
                           refine zp1 ?_
                           refine Wa 38 rfl (str_eql _ _) ?_
                           refine zs1 ?_
                           refine Wi rfl (fun hi27 => ?_) (fun hi27 => ?_)
                           ·obtain rfl := oT hi27
                            refine Wj ?_
                            refine Wt rfl hi27 ?_
                            refine zu1 ?_
                            refine zR ?_
                            rw [takesS_eq, if_neg q1, if_neg q2]; kernel_rfl
                           ·have n24 := oF hi27
                            refine zp1 ?_
                            refine Wa 39 rfl (str_eql _ _) ?_
                            refine zs1 ?_
                            refine Wi rfl (fun hi28 => ?_) (fun hi28 => ?_)
                            ·obtain rfl := oT hi28
                             refine Wj ?_
                             refine Wt rfl hi28 ?_
                             refine zu1 ?_
                             refine zR ?_
                             rw [takesS_eq, if_neg q1, if_neg q2]; kernel_rfl
                            ·have n25 := oF hi28
                             refine zp1 ?_
                             refine Wa 40 rfl (str_eql _ _) ?_
                             refine zs1 ?_
                             refine Wi rfl (fun hi29 => ?_) (fun hi29 => ?_)
                             ·obtain rfl := oT hi29
                              refine Wj ?_
                              refine Wt rfl hi29 ?_
                              refine zu1 ?_
                              refine zR ?_
                              rw [takesS_eq, if_neg q1, if_neg q2]; kernel_rfl
                             ·have n26 := oF hi29
                              refine zp1 ?_
                              refine Wa 41 rfl (str_eql _ _) ?_
                              refine zs1 ?_
                              refine Wi rfl (fun hi30 => ?_) (fun hi30 => ?_)
                              ·obtain rfl := oT hi30
                               refine Wj ?_
                               refine Wt rfl hi30 ?_
                               refine zu1 ?_
                               refine zR ?_
                               rw [takesS_eq, if_neg q1, if_neg q2]; kernel_rfl
                              ·have n27 := oF hi30
                               refine zp1 ?_
                               refine Wa 42 rfl (str_eql _ _) ?_
                               refine zs1 ?_
                               refine Wi rfl (fun hi31 => ?_) (fun hi31 => ?_)
                               ·obtain rfl := oT hi31
                                refine Wj ?_
                                refine Wt rfl hi31 ?_
                                refine zu1 ?_
                                refine zR ?_
                                rw [takesS_eq, if_neg q1, if_neg q2]; kernel_rfl
                               ·have n28 := oF hi31
                                refine zp1 ?_
                                refine Wa 43 rfl (str_eql _ _) ?_
                                refine zs1 ?_
                                refine Wi rfl (fun hi32 => ?_) (fun hi32 => ?_)
                                ·obtain rfl := oT hi32
                                 refine Wj ?_
                                 refine Wt rfl hi32 ?_
                                 refine zu1 ?_
                                 refine zR ?_
                                 rw [takesS_eq, if_neg q1, if_neg q2]; kernel_rfl
                                ·have n29 := oF hi32
                                 refine zp1 ?_
                                 refine Wa 44 rfl (str_eql _ _) ?_
                                 refine zs1 ?_
                                 refine Wi rfl (fun hi33 => ?_) (fun hi33 => ?_)
                                 ·obtain rfl := oT hi33
                                  refine Wj ?_
                                  refine Wt rfl hi33 ?_
                                  refine zu1 ?_
                                  refine zR ?_
                                  rw [takesS_eq, if_neg q1, if_neg q2]; kernel_rfl
                                 ·have n30 := oF hi33
                                  refine zp1 ?_
                                  refine Wa 45 rfl (str_eql _ _) ?_
                                  refine zs1 ?_
                                  refine Wi rfl (fun hi34 => ?_) (fun hi34 => ?_)
                                  ·obtain rfl := oT hi34
                                   refine Wj ?_
                                   refine Wt rfl hi34 ?_
                                   refine zu1 ?_
                                   refine zR ?_
                                   rw [takesS_eq, if_neg q1, if_neg q2]; kernel_rfl
                                  ·have n31 := oF hi34
                                   refine zp1 ?_
                                   refine Wa 46 rfl (str_eql _ _) ?_
                                   refine zs1 ?_
                                   refine Wi rfl (fun hi35 => ?_) (fun hi35 => ?_)
                                   ·obtain rfl := oT hi35
                                    refine Wj ?_
                                    refine Wt rfl hi35 ?_
                                    refine zu1 ?_
                                    refine zR ?_
                                    rw [takesS_eq, if_neg q1, if_neg q2]; kernel_rfl
                                   ·have n32 := oF hi35
                                    refine zp1 ?_
                                    refine Wa 47 rfl (str_eql _ _) ?_
                                    refine zs1 ?_
                                    refine Wi rfl (fun hi36 => ?_) (fun hi36 => ?_)
                                    ·obtain rfl := oT hi36
                                     refine Wj ?_
                                     refine Wt rfl hi36 ?_
                                     refine zu1 ?_
                                     refine zR ?_
                                     rw [takesS_eq, if_neg q1, if_neg q2]; kernel_rfl
                                    ·have n33 := oF hi36
                                     refine zp1 ?_
                                     refine Wa 48 rfl (str_eql _ _) ?_
                                     refine zs1 ?_
                                     refine Wi rfl (fun hi37 => ?_) (fun hi37 => ?_)
                                     ·obtain rfl := oT hi37
                                      refine Wj ?_
                                      refine Wt rfl hi37 ?_
                                      refine zu1 ?_
                                      refine zR ?_
                                      rw [takesS_eq, if_neg q1, if_neg q2]; kernel_rfl
                                     ·have n34 := oF hi37
                                      refine zp1 ?_
                                      refine Wa 49 rfl (str_eql _ _) ?_
                                      refine zs1 ?_
                                      refine Wi rfl (fun hi38 => ?_) (fun hi38 => ?_)
                                      ·obtain rfl := oT hi38
                                       refine Wj ?_
                                       refine Wt rfl hi38 ?_
                                       refine zu1 ?_
                                       refine zR ?_
                                       rw [takesS_eq, if_neg q1, if_neg q2]; kernel_rfl
                                      ·have n35 := oF hi38
                                       refine zp1 ?_
                                       refine Wa 50 rfl (str_eql _ _) ?_
                                       refine zs1 ?_
                                       refine Wi rfl (fun hi39 => ?_) (fun hi39 => ?_)
                                       ·obtain rfl := oT hi39
                                        refine Wj ?_
                                        refine Wt rfl hi39 ?_
                                        refine zu1 ?_
                                        refine zR ?_
                                        rw [takesS_eq, if_neg q1, if_neg q2]; kernel_rfl
                                       ·have n36 := oF hi39
                                        refine zp1 ?_
                                        refine Wa 51 rfl (str_eql _ _) ?_
                                        refine zs1 ?_
                                        refine Wi rfl (fun hi40 => ?_) (fun hi40 => ?_)
                                        ·obtain rfl := oT hi40
                                         refine Wj ?_
                                         refine Wt rfl hi40 ?_
                                         refine zu1 ?_
                                         refine zR ?_
                                         rw [takesS_eq, if_neg q1, if_neg q2]; kernel_rfl
                                        ·have n37 := oF hi40
                                         refine zp1 ?_
                                         refine Wa 52 rfl (str_eql _ _) ?_
                                         refine zs1 ?_
                                         refine Wi rfl (fun hi41 => ?_) (fun hi41 => ?_)
                                         ·obtain rfl := oT hi41
                                          refine Wj ?_
                                          refine Wt rfl hi41 ?_
                                          refine zu1 ?_
                                          refine zR ?_
                                          rw [takesS_eq, if_neg q1, if_neg q2]; kernel_rfl
                                         ·have n38 := oF hi41
                                          refine zp1 ?_
                                          refine Wa 53 rfl (str_eql _ _) ?_
                                          refine zs1 ?_
                                          refine Wi rfl (fun hi42 => ?_) (fun hi42 => ?_)
                                          ·obtain rfl := oT hi42
                                           refine Wj ?_
                                           refine Wt rfl hi42 ?_
                                           refine zu1 ?_
                                           refine zR ?_
                                           rw [takesS_eq, if_neg q1, if_neg q2]; kernel_rfl
                                          ·have n39 := oF hi42
                                           refine W_region rfl ?_
                                           refine z1 ?_
                                           refine Wa 54 rfl (str_eql _ _) ?_
                                           refine zs1 ?_
                                           refine Wi rfl (fun hi43 => ?_) (fun hi43 => ?_)
                                           ·obtain rfl := oT hi43
                                            refine zu1 ?_
                                            refine zR ?_
                                            rw [takesS_eq, if_neg q1, if_neg q2]; kernel_rfl
                                           ·have n40 := oF hi43
                                            refine Wj ?_
                                            refine zu1 ?_
                                            refine zR ?_
                                            rw [takesS_eq, if_neg q1, if_neg q2, takesN_0 name n0 n1 n2 n3 n4 n5 n6 n7 n8 n9 n10 n11 n12 n13 n14 n15 n16 n17 n18 n19 n20 n21 n22 n23 n24 n25 n26 n27 n28 n29 n30 n31 n32 n33 n34 n35 n36 n37 n38 n39 n40]; rfl
def tRk (r : Option (List Int × Int)) : PV := match r with
 | some q => tup3 (sq cInt q.1) (i64 q.2) (boo true)
 | none => tup3 (sq cInt []) (i64 0) (boo false)
@[simp] theorem flat_tRk (r : Option (List Int × Int)) : Flat (tRk r) := by cases r <;> simp [tRk]
theorem reckon_0 : ∀ (name : Str) (x : List Int), ¬ name = [47, 77, 79, 68] → ¬ name = [42, 47] → ¬ name = [42, 47, 77, 79, 68] → ¬ name = [85, 77, 42] → ¬ name = [77, 42] → ¬ name = [85, 77, 47, 77, 79, 68] → ¬ name = [83, 77, 47, 82, 69, 77] → ¬ name = [70, 77, 47, 77, 79, 68] → ¬ name = [83, 62, 68] → ¬ name = [87, 73, 84, 72, 73, 78] → ¬ name = [84, 82, 85, 69] → ¬ name = [66, 65, 83, 69] → ¬ name = [70, 65, 76, 83, 69] → ¬ name = [83, 84, 65, 84, 69] → ¬ name = [66, 76] → reckonS name x = none := by
 intro name x n0 n1 n2 n3 n4 n5 n6 n7 n8 n9 n10 n11 n12 n13 n14
 unfold reckonS
 simp only [n0, n1, n2, n3, n4, n5, n6, n7, n8, n9, n10, n11, n12, n13, n14, if_false]
theorem ref_reckon (name : Str) (x : List Int) (hx : ∀ i, Fit64 (xat x i)) (hn : takesN name ≤ x.length) : PureC Tryz.prog 67 [str name, sq cInt x] (tRk (reckonS name x)) := by
 have f0 := hx 0
 have f1 := hx 1
 have f2 := hx 2
 refine pW tG (rs := [.tmp 4, .tmp 5, .tmp 6]) Tryz.func67 rfl rfl rfl (by simp) (by simp) (fun B => ?_)
 refine zu3 ?_
 refine Ws ?_
 refine zu1 ?_
 refine Wl ?_
 refine zp1 ?_
 refine Wa 30 rfl (str_eql _ _) ?_
 refine zs1 ?_
 refine Wi rfl (fun hi1 => ?_) (fun hi1 => ?_)
 ·obtain rfl := oT hi1
  have h : takesN [47, 77, 79, 68] = 2 := by kernel_rfl
  have hl : 2 ≤ x.length := by omega
  refine Ws ?_
  refine W_drawU [0, 0, 1, 0, 0, 1, 0, 0, 0, 0, 0, 0, 0, 0] [0, 1, 2, 3, 4, 5, 6, 7, 8, 9, 10, 11, 12, 13] mG rfl (by kernel_rfl) ?_
  refine z3 ?_
  refine Xi tG rfl rfl rfl rfl (fun _ => rfl) (by omega) (iN cInt 1 (fun _ => rfl) 0 (by (simp only [dnL] at *; omega))) ?_
  refine z5 ?_
  refine z3 ?_
  refine Xi tG rfl rfl rfl rfl (fun _ => rfl) (by omega) (iN cInt 1 (fun _ => rfl) 0 (by (simp only [dnL] at *; omega))) ?_
  refine z5 ?_
  refine Xc rfl rfl rfl rfl (fun _ => dC rfl Tryz.func173 rfl rfl ((r_Div (xat x 0) (xat x 1) f0 f1) _)) ?_
  iterate 7 refine z3 ?_
  refine WU_nil ?_
  refine zp3 ?_
  refine Wa 44 rfl (bsL cInt [_, _] rfl rfl) ?_
  refine zs4 ?_
  refine zR ?_
  kernel_rfl
 ·have n0 := oF hi1
  refine Ws ?_
  refine zp1 ?_
  refine Wa 47 rfl (str_eql _ _) ?_
  refine zs1 ?_
  refine Wi rfl (fun hi2 => ?_) (fun hi2 => ?_)
  ·obtain rfl := oT hi2
   have h : takesN [42, 47] = 3 := by kernel_rfl
   have hl : 3 ≤ x.length := by omega
   refine Wj ?_
   refine Wt rfl hi2 ?_
   refine Ws ?_
   refine W_drawU [0, 0, 1, 0, 0, 1, 0, 0, 0, 0, 0, 0] [0, 1, 2, 3, 4, 5, 6, 7, 8, 9, 10, 11] mG rfl (by kernel_rfl) ?_
   refine z3 ?_
   refine Xi tG rfl rfl rfl rfl (fun _ => rfl) (by omega) (iN cInt 1 (fun _ => rfl) 0 (by (simp only [dnL] at *; omega))) ?_
   refine z5 ?_
   refine z3 ?_
   refine Xi tG rfl rfl rfl rfl (fun _ => rfl) (by omega) (iN cInt 1 (fun _ => rfl) 0 (by (simp only [dnL] at *; omega))) ?_
   refine z5 ?_
   refine Xc rfl rfl rfl rfl (fun _ => dC rfl Tryz.func176 rfl rfl ((r_Mul (xat x 0) (xat x 1) f0 f1) _)) ?_
   iterate 5 refine z3 ?_
   refine WU_nil ?_
   refine zp3 ?_
   refine Wv tG rfl rfl rfl (by omega) (iN cInt 1 (fun _ => rfl) 0 (by (simp only [dnL] at *; omega))) ?_
   refine z1 ?_
   refine Wc rfl rfl (dC rfl Tryz.func177 rfl rfl ((r_FDiv (mulS (xat x 0) (xat x 1)).1 (mulS (xat x 0) (xat x 1)).2 (xat x 2) (mul_hi3 f0 f1) f2) _)) ?_
   refine zy5 ?_
   refine zs2 ?_
   refine Ws ?_
   refine zp2 ?_
   refine Wa 70 rfl (str_eql _ _) ?_
   refine Wn ?_
   refine Wt rfl (by rfl) ?_
   refine zp2 ?_
   refine Wa 72 rfl (bsL cInt [_] rfl rfl) ?_
   refine zs4 ?_
   refine zR ?_
   kernel_rfl
  ·have n1 := oF hi2
   refine W_region rfl ?_
   refine z1 ?_
   refine Wa 48 rfl (str_eql _ _) ?_
   refine zs1 ?_
   refine Wi rfl (fun hi4 => ?_) (fun hi4 => ?_)
   ·obtain rfl := oT hi4
    have h : takesN [42, 47, 77, 79, 68] = 3 := by kernel_rfl
    have hl : 3 ≤ x.length := by omega
    refine Ws ?_
    refine W_drawU [0, 0, 1, 0, 0, 1, 0, 0, 0, 0, 0, 0] [0, 1, 2, 3, 4, 5, 6, 7, 8, 9, 10, 11] mG rfl (by kernel_rfl) ?_
    refine z3 ?_
    refine Xi tG rfl rfl rfl rfl (fun _ => rfl) (by omega) (iN cInt 1 (fun _ => rfl) 0 (by (simp only [dnL] at *; omega))) ?_
    refine z5 ?_
    refine z3 ?_
    refine Xi tG rfl rfl rfl rfl (fun _ => rfl) (by omega) (iN cInt 1 (fun _ => rfl) 0 (by (simp only [dnL] at *; omega))) ?_
    refine z5 ?_
    refine Xc rfl rfl rfl rfl (fun _ => dC rfl Tryz.func176 rfl rfl ((r_Mul (xat x 0) (xat x 1) f0 f1) _)) ?_
    iterate 5 refine z3 ?_
    refine WU_nil ?_
    refine zp3 ?_
    refine Wv tG rfl rfl rfl (by omega) (iN cInt 1 (fun _ => rfl) 0 (by (simp only [dnL] at *; omega))) ?_
    refine z1 ?_
    refine Wc rfl rfl (dC rfl Tryz.func177 rfl rfl ((r_FDiv (mulS (xat x 0) (xat x 1)).1 (mulS (xat x 0) (xat x 1)).2 (xat x 2) (mul_hi3 f0 f1) f2) _)) ?_
    refine zy5 ?_
    refine zs2 ?_
    refine Ws ?_
    refine zp2 ?_
    refine Wa 70 rfl (str_eql _ _) ?_
    refine Wn ?_
    refine Wf rfl (by rfl) ?_
    refine Wj ?_
    refine zp3 ?_
    refine Wa 76 rfl (bsL cInt [_, _] rfl rfl) ?_
    refine zs4 ?_
    refine zR ?_
    kernel_rfl
   ·have n2 := oF hi4
    refine zp1 ?_
    refine Wa 79 rfl (str_eql _ _) ?_
    refine zs1 ?_
    refine Wi rfl (fun hi5 => ?_) (fun hi5 => ?_)
    ·obtain rfl := oT hi5
     have h : takesN [85, 77, 42] = 2 := by kernel_rfl
     have hl : 2 ≤ x.length := by omega
     refine Ws ?_
     refine W_drawU [0, 0, 1, 0, 0, 1, 0, 0, 0, 0, 0, 0] [0, 1, 2, 3, 4, 5, 6, 7, 8, 9, 10, 11] mG rfl (by kernel_rfl) ?_
     refine z3 ?_
     refine Xi tG rfl rfl rfl rfl (fun _ => rfl) (by omega) (iN cInt 1 (fun _ => rfl) 0 (by (simp only [dnL] at *; omega))) ?_
     refine z5 ?_
     refine z3 ?_
     refine Xi tG rfl rfl rfl rfl (fun _ => rfl) (by omega) (iN cInt 1 (fun _ => rfl) 0 (by (simp only [dnL] at *; omega))) ?_
     refine z5 ?_
     refine Xc rfl rfl rfl rfl (fun _ => dC rfl Tryz.func178 rfl rfl ((r_UMul (xat x 0) (xat x 1)) _)) ?_
     iterate 5 refine z3 ?_
     refine WU_nil ?_
     refine zp3 ?_
     refine Wa 92 rfl (bsL cInt [_, _] rfl rfl) ?_
     refine zs3 ?_
     refine zR ?_
     kernel_rfl
    ·have n3 := oF hi5
     refine zp1 ?_
     refine Wa 94 rfl (str_eql _ _) ?_
     refine zs1 ?_
     refine Wi rfl (fun hi6 => ?_) (fun hi6 => ?_)
     ·obtain rfl := oT hi6
      have h : takesN [77, 42] = 2 := by kernel_rfl
      have hl : 2 ≤ x.length := by omega
      refine Ws ?_
      refine W_drawU [0, 0, 1, 0, 0, 1, 0, 0, 0, 0, 0, 0] [0, 1, 2, 3, 4, 5, 6, 7, 8, 9, 10, 11] mG rfl (by kernel_rfl) ?_
      refine z3 ?_
      refine Xi tG rfl rfl rfl rfl (fun _ => rfl) (by omega) (iN cInt 1 (fun _ => rfl) 0 (by (simp only [dnL] at *; omega))) ?_
      refine z5 ?_
      refine z3 ?_
      refine Xi tG rfl rfl rfl rfl (fun _ => rfl) (by omega) (iN cInt 1 (fun _ => rfl) 0 (by (simp only [dnL] at *; omega))) ?_
      refine z5 ?_
      refine Xc rfl rfl rfl rfl (fun _ => dC rfl Tryz.func176 rfl rfl ((r_Mul (xat x 0) (xat x 1) f0 f1) _)) ?_
      iterate 5 refine z3 ?_
      refine WU_nil ?_
      refine zp3 ?_
      refine Wa 107 rfl (bsL cInt [_, _] rfl rfl) ?_
      refine zs3 ?_
      refine zR ?_
      kernel_rfl
     ·have n4 := oF hi6
      refine zp1 ?_
      refine Wa 109 rfl (str_eql _ _) ?_
      refine zs1 ?_
      refine Wi rfl (fun hi7 => ?_) (fun hi7 => ?_)
      ·obtain rfl := oT hi7
       have h : takesN [85, 77, 47, 77, 79, 68] = 3 := by kernel_rfl
       have hl : 3 ≤ x.length := by omega
       refine Ws ?_
       refine W_drawU [0, 0, 1, 0, 0, 1, 0, 0, 1, 0, 0, 0, 0, 0, 0, 0, 0] [0, 1, 2, 3, 4, 5, 6, 7, 8, 9, 10, 11, 12, 13, 14, 15, 16] mG rfl (by kernel_rfl) ?_
       refine z3 ?_
       refine Xi tG rfl rfl rfl rfl (fun _ => rfl) (by omega) (iN cInt 1 (fun _ => rfl) 0 (by (simp only [dnL] at *; omega))) ?_
       refine z5 ?_
       refine z3 ?_
       refine Xi tG rfl rfl rfl rfl (fun _ => rfl) (by omega) (iN cInt 1 (fun _ => rfl) 0 (by (simp only [dnL] at *; omega))) ?_
       refine z5 ?_
       refine z3 ?_
       refine Xi tG rfl rfl rfl rfl (fun _ => rfl) (by omega) (iN cInt 1 (fun _ => rfl) 0 (by (simp only [dnL] at *; omega))) ?_
       refine z5 ?_
       refine Xc rfl rfl rfl rfl (fun _ => dC rfl Tryz.func179 rfl rfl ((r_UDiv (xat x 0) (xat x 1) (xat x 2)) _)) ?_
       iterate 7 refine z3 ?_
       refine WU_nil ?_
       refine zp3 ?_
       refine Wa 126 rfl (bsL cInt [_, _] rfl rfl) ?_
       refine zs4 ?_
       refine zR ?_
       kernel_rfl
      ·have n5 := oF hi7
       refine zp1 ?_
       refine Wa 129 rfl (str_eql _ _) ?_
       refine zs1 ?_
       refine Wi rfl (fun hi8 => ?_) (fun hi8 => ?_)
       ·obtain rfl := oT hi8
        have h : takesN [83, 77, 47, 82, 69, 77] = 3 := by kernel_rfl
        have hl : 3 ≤ x.length := by omega
        refine Ws ?_
        refine W_drawU [0, 0, 1, 0, 0, 1, 0, 0, 1, 0, 0, 0, 0, 0, 0, 0, 0] [0, 1, 2, 3, 4, 5, 6, 7, 8, 9, 10, 11, 12, 13, 14, 15, 16] mG rfl (by kernel_rfl) ?_
        refine z3 ?_
        refine Xi tG rfl rfl rfl rfl (fun _ => rfl) (by omega) (iN cInt 1 (fun _ => rfl) 0 (by (simp only [dnL] at *; omega))) ?_
        refine z5 ?_
        refine z3 ?_
        refine Xi tG rfl rfl rfl rfl (fun _ => rfl) (by omega) (iN cInt 1 (fun _ => rfl) 0 (by (simp only [dnL] at *; omega))) ?_
        refine z5 ?_
        refine z3 ?_
        refine Xi tG rfl rfl rfl rfl (fun _ => rfl) (by omega) (iN cInt 1 (fun _ => rfl) 0 (by (simp only [dnL] at *; omega))) ?_
        refine z5 ?_
        refine Xc rfl rfl rfl rfl (fun _ => dC rfl Tryz.func180 rfl rfl ((r_SDiv (xat x 0) (xat x 1) (xat x 2) f1 f2) _)) ?_
        iterate 7 refine z3 ?_
        refine WU_nil ?_
        refine zp3 ?_
        refine Wa 146 rfl (bsL cInt [_, _] rfl rfl) ?_
        refine zs4 ?_
        refine zR ?_
        kernel_rfl
       ·have n6 := oF hi8
        refine zp1 ?_
        refine Wa 149 rfl (str_eql _ _) ?_
        refine zs1 ?_
        refine Wi rfl (fun hi9 => ?_) (fun hi9 => ?_)
        ·obtain rfl := oT hi9
         have h : takesN [70, 77, 47, 77, 79, 68] = 3 := by kernel_rfl
         have hl : 3 ≤ x.length := by omega
         refine Ws ?_
         refine W_drawU [0, 0, 1, 0, 0, 1, 0, 0, 1, 0, 0, 0, 0, 0, 0, 0, 0] [0, 1, 2, 3, 4, 5, 6, 7, 8, 9, 10, 11, 12, 13, 14, 15, 16] mG rfl (by kernel_rfl) ?_
         refine z3 ?_
         refine Xi tG rfl rfl rfl rfl (fun _ => rfl) (by omega) (iN cInt 1 (fun _ => rfl) 0 (by (simp only [dnL] at *; omega))) ?_
         refine z5 ?_
         refine z3 ?_
         refine Xi tG rfl rfl rfl rfl (fun _ => rfl) (by omega) (iN cInt 1 (fun _ => rfl) 0 (by (simp only [dnL] at *; omega))) ?_
         refine z5 ?_
         refine z3 ?_
         refine Xi tG rfl rfl rfl rfl (fun _ => rfl) (by omega) (iN cInt 1 (fun _ => rfl) 0 (by (simp only [dnL] at *; omega))) ?_
         refine z5 ?_
         refine Xc rfl rfl rfl rfl (fun _ => dC rfl Tryz.func177 rfl rfl ((r_FDiv (xat x 0) (xat x 1) (xat x 2) f1 f2) _)) ?_
         iterate 7 refine z3 ?_
         refine WU_nil ?_
         refine zp3 ?_
         refine Wa 166 rfl (bsL cInt [_, _] rfl rfl) ?_
         refine zs4 ?_
         refine zR ?_
         kernel_rfl
        ·have n7 := oF hi9
         refine zp1 ?_
         refine Wa 169 rfl (str_eql _ _) ?_
         refine zs1 ?_
         refine Wi rfl (fun hi10 => ?_) (fun hi10 => ?_)
         ·obtain rfl := oT hi10
          have h : takesN [83, 62, 68] = 1 := by kernel_rfl
          have hl : 1 ≤ x.length := by omega
          refine Ws ?_
          refine W_drawU [0, 0, 1, 0, 0, 1, 0, 0, 0, 0, 0, 0] [0, 1, 2, 3, 4, 5, 6, 7, 8, 9, 10, 11] mG rfl (by kernel_rfl) ?_
          refine z3 ?_
          refine Xi tG rfl rfl rfl rfl (fun _ => rfl) (by omega) (iN cInt 1 (fun _ => rfl) 0 (by (simp only [dnL] at *; omega))) ?_
          refine z5 ?_
          refine z3 ?_
          refine Xi tG rfl rfl rfl rfl (fun _ => rfl) (by omega) (iN cInt 1 (fun _ => rfl) 0 (by (simp only [dnL] at *; omega))) ?_
          refine z5 ?_
          refine z3 ?_
          refine Xc rfl rfl rfl rfl (fun _ => dC rfl Tryz.func181 rfl rfl ((ref_yes (decide (xat x 0 < 0))) _)) ?_
          refine z3 ?_
          refine Xa 178 rfl (bsL cInt [_, _] rfl rfl) ?_
          iterate 3 refine z3 ?_
          refine WU_nil ?_
          refine zR ?_
          kernel_rfl
         ·have n8 := oF hi10
          refine zp1 ?_
          refine Wa 180 rfl (str_eql _ _) ?_
          refine zs1 ?_
          refine Wi rfl (fun hi11 => ?_) (fun hi11 => ?_)
          ·obtain rfl := oT hi11
           have h : takesN [87, 73, 84, 72, 73, 78] = 3 := by kernel_rfl
           have hl : 3 ≤ x.length := by omega
           refine Ws ?_
           refine W_drawU [0, 0, 1, 0, 0, 1, 0, 0, 1, 0, 0, 0, 0, 0, 0] [0, 1, 2, 3, 4, 5, 6, 7, 8, 9, 10, 11, 12, 13, 14] mG rfl (by kernel_rfl) ?_
           refine z3 ?_
           refine Xi tG rfl rfl rfl rfl (fun _ => rfl) (by omega) (iN cInt 1 (fun _ => rfl) 0 (by (simp only [dnL] at *; omega))) ?_
           refine z5 ?_
           refine z3 ?_
           refine Xi tG rfl rfl rfl rfl (fun _ => rfl) (by omega) (iN cInt 1 (fun _ => rfl) 0 (by (simp only [dnL] at *; omega))) ?_
           refine z5 ?_
           refine z3 ?_
           refine Xi tG rfl rfl rfl rfl (fun _ => rfl) (by omega) (iN cInt 1 (fun _ => rfl) 0 (by (simp only [dnL] at *; omega))) ?_
           refine z5 ?_
           refine Xc rfl rfl rfl rfl (fun _ => dC rfl Tryz.func182 rfl rfl ((ref_Within (xat x 0) (xat x 1) (xat x 2)) _)) ?_
           refine Xc rfl rfl rfl rfl (fun _ => dC rfl Tryz.func181 rfl rfl ((ref_yes (decide (U (wrap64 (xat x 0 - xat x 1)) < U (wrap64 (xat x 2 - xat x 1))))) _)) ?_
           refine z3 ?_
           refine Xa 192 rfl (bsL cInt [_] rfl rfl) ?_
           iterate 3 refine z3 ?_
           refine WU_nil ?_
           refine zR ?_
           kernel_rfl
          ·have n9 := oF hi11
           refine zp1 ?_
           refine Wa 194 rfl (str_eql _ _) ?_
           refine zs1 ?_
           refine Wi rfl (fun hi12 => ?_) (fun hi12 => ?_)
           ·obtain rfl := oT hi12
            have h : takesN [84, 82, 85, 69] = 0 := by kernel_rfl
            have hl : 0 ≤ x.length := by omega
            refine zp1 ?_
            refine Wa 195 rfl (bsL cInt [_] rfl rfl) ?_
            refine zs3 ?_
            refine zR ?_
            kernel_rfl
           ·have n10 := oF hi12
            refine Ws ?_
            refine zp1 ?_
            refine Wa 197 rfl (str_eql _ _) ?_
            refine zs1 ?_
            refine Wi rfl (fun hi13 => ?_) (fun hi13 => ?_)
            ·obtain rfl := oT hi13
             have h : takesN [66, 65, 83, 69] = 0 := by kernel_rfl
             have hl : 0 ≤ x.length := by omega
             refine Wj ?_
             refine Wt rfl hi13 ?_
             refine zp1 ?_
             refine Wa 199 rfl (bsL cInt [_] rfl rfl) ?_
             refine zs3 ?_
             refine zR ?_
             kernel_rfl
            ·have n11 := oF hi13
             refine W_region rfl ?_
             refine z1 ?_
             refine Wa 198 rfl (str_eql _ _) ?_
             refine zs1 ?_
             refine Wi rfl (fun hi14 => ?_) (fun hi14 => ?_)
             ·obtain rfl := oT hi14
              have h : takesN [70, 65, 76, 83, 69] = 0 := by kernel_rfl
              have hl : 0 ≤ x.length := by omega
              refine zp1 ?_
              refine Wa 199 rfl (bsL cInt [_] rfl rfl) ?_
              refine zs3 ?_
              refine zR ?_
              kernel_rfl
             ·have n12 := oF hi14
              refine zp1 ?_
              refine Wa 201 rfl (str_eql _ _) ?_
              refine zs1 ?_
              refine Wi rfl (fun hi15 => ?_) (fun hi15 => ?_)
              ·obtain rfl := oT hi15
               have h : takesN [83, 84, 65, 84, 69] = 0 := by kernel_rfl
               have hl : 0 ≤ x.length := by omega
               refine zp1 ?_
               refine Wa 202 rfl (bsL cInt [_] rfl rfl) ?_
               refine zs3 ?_
               refine zR ?_
               kernel_rfl
              ·have n13 := oF hi15
               refine zp1 ?_
               refine Wa 204 rfl (str_eql _ _) ?_
               refine zs1 ?_
               refine Wi rfl (fun hi16 => ?_) (fun hi16 => ?_)
               ·obtain rfl := oT hi16
                have h : takesN [66, 76] = 0 := by kernel_rfl
                have hl : 0 ≤ x.length := by omega
                refine zp1 ?_
                refine Wa 205 rfl (bsL cInt [_] rfl rfl) ?_
                refine zs3 ?_
                refine zR ?_
                kernel_rfl
               ·have n14 := oF hi16
                refine Wj ?_
                refine zu3 ?_
                refine zR ?_
                rw [reckon_0 name x n0 n1 n2 n3 n4 n5 n6 n7 n8 n9 n10 n11 n12 n13 n14]; rfl
end Go.Proofs.YtphgdofmjpdhaaaGreat
namespace Go.Proofs.YtphgdofmjpdhaaaGreat
open Go.RowKit
set_option maxRecDepth 100000
set_option maxHeartbeats 4000000
def tSp (v : VVm) (r : Option (VVm × List Int × Int)) : PV := match r with
 | some q => tup3 (eVm q.1) (i64 q.2.2) (boo true)
 | none => tup3 (eVm v) (i64 0) (boo false)
@[simp] theorem flat_tSp (v : VVm) (r : Option (VVm × List Int × Int)) : Flat (tSp v r) := by cases r <;> simp [tSp]
theorem space_0 : ∀ (v : VVm) (name : Str) (x : List Int), ¬ name = [65, 76, 76, 79, 84] → ¬ name = [44] → ¬ name = [67, 44] → ¬ name = [65, 76, 73, 71, 78] → spaceS v name x = none := by
 intro v name x n0 n1 n2 n3
 unfold spaceS
 simp only [n0, n1, n2, n3, if_false]
theorem ref_space (v : VVm) (hv : VmOk v) (name : Str) (x : List Int) (hx : ∀ i, Fit64 (xat x i)) (hn : takesN name ≤ x.length) : PureC Tryz.prog 69 [eVm v, str name, sq cInt x] (tSp v (spaceS v name x)) := by
 have f0 := hx 0
 refine pW tG (rs := [.cell 6 36, .tmp 7, .tmp 8]) Tryz.func69 rfl rfl rfl (by simp) (by simp) (fun B => ?_)
 refine zu4 ?_
 refine zu4 ?_
 refine zu3 ?_
 refine zu1 ?_
 refine Ws ?_
 refine zu1 ?_
 refine Wl ?_
 refine zp1 ?_
 refine Wa 19 rfl (str_eql _ _) ?_
 refine zs1 ?_
 refine Wi rfl (fun hi1 => ?_) (fun hi1 => ?_)
 ·obtain rfl := oT hi1
  have h : takesN [65, 76, 76, 79, 84] = 1 := by kernel_rfl
  have hl : 1 ≤ x.length := by omega
  refine W_drawU [1, 0, 0, 0, 0, 0, 0, 0, 0, 0, 0, 0] [0, 1, 2, 3, 4, 5, 6, 7, 8, 9, 10, 11] mG rfl (by kernel_rfl) ?_
  refine z5 ?_
  refine Xc rfl rfl rfl rfl (fun _ => dC rfl Tryz.func190 rfl rfl ((ref_Start) _)) ?_
  iterate 2 refine z3 ?_
  refine Xi tG rfl rfl rfl rfl (fun _ => rfl) (by omega) (iN cInt 1 (fun _ => rfl) 0 (by (simp only [dnL] at *; omega))) ?_
  refine z3 ?_
  refine Xc rfl rfl rfl rfl (fun _ => dC rfl Tryz.func189 rfl rfl ((ref_Allot v.mem 1368 v.here (xat x 0) hv.mem hv.here (by unfold Fit64; omega) f0) _)) ?_
  iterate 5 refine z3 ?_
  refine WU_nil ?_
  refine zu3 ?_
  refine zu3 ?_
  refine zu5 ?_
  refine zR ?_
  kernel_rfl
 ·have n0 := oF hi1
  refine zp1 ?_
  refine Wa 31 rfl (str_eql _ _) ?_
  refine zs1 ?_
  refine Wi rfl (fun hi2 => ?_) (fun hi2 => ?_)
  ·obtain rfl := oT hi2
   have h : takesN [44] = 1 := by kernel_rfl
   have hl : 1 ≤ x.length := by omega
   refine W_drawU [1, 0, 0, 0, 0, 0, 0, 0, 0, 0, 3, 0, 0] [0, 1, 2, 3, 4, 5, 6, 7, 8, 9, 10, 11, 12] mG rfl (by kernel_rfl) ?_
   refine z5 ?_
   iterate 2 refine z3 ?_
   refine Xi tG rfl rfl rfl rfl (fun _ => rfl) (by omega) (iN cInt 1 (fun _ => rfl) 0 (by (simp only [dnL] at *; omega))) ?_
   refine z3 ?_
   refine Xc rfl rfl rfl rfl (fun _ => dC rfl Tryz.func191 rfl rfl ((ref_Comma v.mem v.here (xat x 0) hv.mem hv.here) _)) ?_
   iterate 4 refine z3 ?_
   refine WU_ev3 tG rfl rfl rfl rfl rfl trivial ?_
   iterate 2 refine z3 ?_
   refine WU_nil ?_
   refine zu3 ?_
   refine zu3 ?_
   refine zu5 ?_
   refine zR ?_
   kernel_rfl
  ·have n1 := oF hi2
   refine zp1 ?_
   refine Wa 43 rfl (str_eql _ _) ?_
   refine zs1 ?_
   refine Wi rfl (fun hi3 => ?_) (fun hi3 => ?_)
   ·obtain rfl := oT hi3
    have h : takesN [67, 44] = 1 := by kernel_rfl
    have hl : 1 ≤ x.length := by omega
    refine W_drawU [1, 0, 0, 0, 0, 0, 0, 0, 0, 0, 0, 0, 3, 0, 0] [0, 1, 2, 3, 4, 5, 6, 7, 8, 9, 10, 11, 12, 13, 14] mG rfl (by kernel_rfl) ?_
    refine z5 ?_
    iterate 2 refine z3 ?_
    refine Xi tG rfl rfl rfl rfl (fun _ => rfl) (by omega) (iN cInt 1 (fun _ => rfl) 0 (by (simp only [dnL] at *; omega))) ?_
    iterate 2 refine z3 ?_
    refine Xa 50 rfl (loB_pv _) ?_
    refine z3 ?_
    refine Xa 51 rfl (bsL cByte [_] rfl rfl) ?_
    refine Xc rfl rfl rfl rfl (fun _ => dC rfl Tryz.func192 rfl rfl ((ref_Lay v.mem v.here [loB (xat x 0)] hv.mem hv.here (by simp)) _)) ?_
    iterate 4 refine z3 ?_
    refine WU_ev3 tG rfl rfl rfl rfl rfl trivial ?_
    iterate 2 refine z3 ?_
    refine WU_nil ?_
    refine zu3 ?_
    refine zu3 ?_
    refine zu5 ?_
    refine zR ?_
    kernel_rfl
   ·have n2 := oF hi3
    refine zp1 ?_
    refine Wa 57 rfl (str_eql _ _) ?_
    refine zs1 ?_
    refine Wi rfl (fun hi4 => ?_) (fun hi4 => ?_)
    ·obtain rfl := oT hi4
     refine W_region rfl ?_
     refine zy2 ?_
     refine Wc rfl rfl (dC rfl Tryz.func193 rfl rfl ((ref_AlignUp v.mem v.here hv.mem hv.here) _)) ?_
     refine zy5 ?_
     refine zs2 ?_
     refine zu3 ?_
     refine zu3 ?_
     refine zu5 ?_
     refine zR ?_
     kernel_rfl
    ·have n3 := oF hi4
     refine zu4 ?_
     refine zR ?_
     rw [space_0 v name x n0 n1 n2 n3]; rfl
end Go.Proofs.YtphgdofmjpdhaaaGreat
namespace Go.Proofs.YtphgdofmjpdhaaaGreat
open Go.RowKit
set_option maxRecDepth 100000
set_option maxHeartbeats 4000000
def tTx (r : Option (Str × Int)) : PV := match r with
 | some q => tup3 (str q.1) (i64 q.2) (boo true)
 | none => tup3 (str []) (i64 0) (boo false)
@[simp] theorem flat_tTx (r : Option (Str × Int)) : Flat (tTx r) := by cases r <;> simp [tTx]
theorem text_0 : ∀ (v : VVm) (name : Str) (x : List Int), ¬ name = [69, 77, 73, 84] → ¬ name = [67, 82] → ¬ name = [83, 80, 65, 67, 69] → ¬ name = [83, 80, 65, 67, 69, 83] → ¬ name = [84, 89, 80, 69] → ¬ name = [46] → ¬ name = [85, 46] → textS v name x = none := by
 intro v name x n0 n1 n2 n3 n4 n5 n6
 unfold textS
 simp only [n0, n1, n2, n3, n4, n5, n6, if_false]
theorem text_sp (v : VVm) (x : List Int) (k : Nat) (h : (min (max (xat x 0) 0) (v.conf.out + 1)).toNat = k) : textS v [83, 80, 65, 67, 69, 83] x = some (List.replicate k 32, 0) := by
 have e : textS v [83, 80, 65, 67, 69, 83] x = some (pSpaces v x, 0) := by kernel_rfl
 rw [e, pSpaces, h]
theorem ref_text (v : VVm) (hv : VmOk v) (name : Str) (x : List Int) (hx : ∀ i, Fit64 (xat x i)) (hn : takesN name ≤ x.length) : PureC Tryz.prog 70 [eVm v, str name, sq cInt x] (tTx (textS v name x)) := by
 have f0 := hx 0
 have f1 := hx 1
 have ho := hv.out2
 have hs := showS_len (xat x 0) (baseS v)
 have hu := ushowS_len (xat x 0) (baseS v)
 refine pW tG (rs := [.tmp 6, .tmp 7, .tmp 8]) Tryz.func70 rfl rfl rfl (by simp) (by simp) (fun B => ?_)
 refine zu4 ?_
 refine zp1 ?_
 refine Wc rfl rfl (dC rfl Tryz.func194 rfl rfl ((ref_Base v hv.mem) _)) ?_
 refine zs1 ?_
 refine Ws ?_
 refine zu1 ?_
 refine Wl ?_
 refine zp1 ?_
 refine Wa 22 rfl (str_eql _ _) ?_
 refine zs1 ?_
 refine Wi rfl (fun hi1 => ?_) (fun hi1 => ?_)
 ·obtain rfl := oT hi1
  have h : takesN [69, 77, 73, 84] = 1 := by kernel_rfl
  have hl : 1 ≤ x.length := by omega
  refine zp1 ?_
  refine Wv tG rfl rfl rfl (by omega) (iN cInt 1 (fun _ => rfl) 0 (by (simp only [dnL] at *; omega))) ?_
  refine zy2 ?_
  refine Wa 26 rfl (loB_pv _) ?_
  refine z1 ?_
  refine Wa 27 rfl (bsL cByte [_] rfl rfl) ?_
  refine Wd rfl rfl (does_bytes_str (lO tG rfl) rfl (lO tG rfl) rfl (lO tG rfl) rfl rfl rfl) ?_
  refine zs3 ?_
  refine zR ?_
  kernel_rfl
 ·have n0 := oF hi1
  refine zp1 ?_
  refine Wa 30 rfl (str_eql _ _) ?_
  refine zs1 ?_
  refine Wi rfl (fun hi2 => ?_) (fun hi2 => ?_)
  ·obtain rfl := oT hi2
   refine zu3 ?_
   refine zR ?_
   kernel_rfl
  ·have n1 := oF hi2
   refine zp1 ?_
   refine Wa 32 rfl (str_eql _ _) ?_
   refine zs1 ?_
   refine Wi rfl (fun hi3 => ?_) (fun hi3 => ?_)
   ·obtain rfl := oT hi3
    refine zu3 ?_
    refine zR ?_
    kernel_rfl
   ·have n2 := oF hi3
    refine zp1 ?_
    refine Wa 34 rfl (str_eql _ _) ?_
    refine zs1 ?_
    refine Wi rfl (fun hi4 => ?_) (fun hi4 => ?_)
    ·obtain rfl := oT hi4
     have h : takesN [83, 80, 65, 67, 69, 83] = 1 := by kernel_rfl
     have hl : 1 ≤ x.length := by omega
     refine zu1 ?_
     refine Ws ?_
     refine zu1 ?_
     refine Wl ?_
     show W _ _ _ _ _ _ _
     refine W_loopS (fun (k : Nat) => [(2, sq cInt x), (3, .ptr 0 0), (10, str (List.replicate k 32)), (11, i64 k)]) (fun (k : Nat) => [.cells (cVm v) 36]) (fun (k : Nat) => []) (fun (k : Nat) => (k : Int) ≤ min (max (xat x 0) 0) (v.conf.out + 1)) (fun (k : Nat) => (v.conf.out + 1 - k).toNat) (0) (by omega) [] ?_ ?_
     ·exact fitT
     ·intro k hk
      refine Ws ?_
      refine zp2 ?_
      refine Wv tG rfl rfl rfl (by omega) (iN cInt 1 (fun _ => rfl) 0 (by (simp only [dnL] at *; omega))) ?_
      refine z1 ?_
      refine Wa 38 rfl ((show i64 (x.getD 0 default) = i64 (xat x 0) from rfl)) ?_
      refine zy2 ?_
      refine Wb 40 rfl (fun hg1 => ?_) (fun hg1 => ?_)
      ·have q1 : (k : Int) < xat x 0 := oT hg1
       refine zy5 ?_
       refine zs1 ?_
       refine Wi rfl (fun hi5 => ?_) (fun hi5 => ?_)
       ·have q2 : (k : Int) ≤ v.conf.out := oT hi5
        refine Wj ?_
        refine Ws ?_
        refine Wl ?_
        refine W_region rfl ?_
        refine z1 ?_
        refine z2 ?_ (q := (by simp only [str_size]; simp; omega))
        refine Wa 50 rfl (str_append _ _) ?_
        refine zs1 ?_
        refine W_region rfl ?_
        refine zs3 ?_
        exact ⟨k + 1, [], (by omega), (by omega), (fitT (sub := by repeat (first | exact subL_nil | refine subL_cons (by first | exact imp_of rfl | exact imp_of (show str (List.replicate k 32 ++ [32]) = str (List.replicate (k + 1) 32) by rw [List.replicate_succ']) | exact imp_of (congrArg i64 (by (rw [i64w]; unfold wrap64; omega)))) ?_)))⟩
       ·have q2 : ¬ (k : Int) ≤ v.conf.out := oF hi5
        refine W_exit ?_
        refine zu4 ?_
        refine zR ?_
        rw [text_sp v x k (by omega)]; rfl
      ·have q1 : ¬ (k : Int) < xat x 0 := oF hg1
       iterate 5 refine z6 ?_
       refine zs1 ?_
       refine Wf rfl rfl ?_
       refine W_exit ?_
       refine zu4 ?_
       refine zR ?_
       rw [text_sp v x k (by omega)]; rfl
    ·have n3 := oF hi4
     refine zp1 ?_
     refine Wa 53 rfl (str_eql _ _) ?_
     refine zs1 ?_
     refine Wi rfl (fun hi6 => ?_) (fun hi6 => ?_)
     ·obtain rfl := oT hi6
      have h : takesN [84, 89, 80, 69] = 2 := by kernel_rfl
      have hl : 2 ≤ x.length := by omega
      refine Ws ?_
      refine W_drawU [0, 1, 0, 0, 1, 0, 0, 1, 0, 0, 0, 0, 0, 0] [0, 1, 2, 3, 4, 5, 6, 7, 8, 9, 10, 11, 12, 13] mG rfl (by kernel_rfl) ?_
      refine z3 ?_
      refine z5 ?_
      refine z3 ?_
      refine Xi tG rfl rfl rfl rfl (fun _ => rfl) (by omega) (iN cInt 1 (fun _ => rfl) 0 (by (simp only [dnL] at *; omega))) ?_
      refine z5 ?_
      refine z3 ?_
      refine Xi tG rfl rfl rfl rfl (fun _ => rfl) (by omega) (iN cInt 1 (fun _ => rfl) 0 (by (simp only [dnL] at *; omega))) ?_
      refine z5 ?_
      refine Xc rfl rfl rfl rfl (fun _ => dC rfl Tryz.func195 rfl rfl ((ref_Text v.mem (xat x 0) (xat x 1) hv.mem f0 f1) _)) ?_
      iterate 5 refine z3 ?_
      refine WU_nil ?_
      refine zp1 ?_
      refine Wd rfl rfl (does_bytes_str (lO tG rfl) rfl (lO tG rfl) rfl (lO tG rfl) rfl rfl rfl) ?_
      refine zs4 ?_
      refine zR ?_
      kernel_rfl
     ·have n4 := oF hi6
      refine zp1 ?_
      refine Wa 70 rfl (str_eql _ _) ?_
      refine zs1 ?_
      refine Wi rfl (fun hi7 => ?_) (fun hi7 => ?_)
      ·obtain rfl := oT hi7
       have h : takesN [46] = 1 := by kernel_rfl
       have hl : 1 ≤ x.length := by omega
       refine zp1 ?_
       refine Wv tG rfl rfl rfl (by omega) (iN cInt 1 (fun _ => rfl) 0 (by (simp only [dnL] at *; omega))) ?_
       refine zy2 ?_
       refine Wc rfl rfl (dC rfl Tryz.func196 rfl rfl ((r_Show (xat x 0) (baseS v) f0) _)) ?_
       refine zs5 ?_
       refine zp1 ?_
       refine z2 ?_ (q := (by simp only [str_size]; ((simp_all; omega))))
       refine Wa 80 rfl (str_append _ _) ?_
       refine zs4 ?_
       refine zR ?_
       kernel_rfl
      ·have n5 := oF hi7
       refine zp1 ?_
       refine Wa 83 rfl (str_eql _ _) ?_
       refine zs1 ?_
       refine Wi rfl (fun hi8 => ?_) (fun hi8 => ?_)
       ·obtain rfl := oT hi8
        have h : takesN [85, 46] = 1 := by kernel_rfl
        have hl : 1 ≤ x.length := by omega
        refine zp1 ?_
        refine Wv tG rfl rfl rfl (by omega) (iN cInt 1 (fun _ => rfl) 0 (by (simp only [dnL] at *; omega))) ?_
        refine zy2 ?_
        refine Wc rfl rfl (dC rfl Tryz.func197 rfl rfl ((r_UShow (xat x 0) (baseS v)) _)) ?_
        refine zs5 ?_
        refine zp1 ?_
        refine z2 ?_ (q := (by simp only [str_size]; ((simp_all; omega))))
        refine Wa 93 rfl (str_append _ _) ?_
        refine zs4 ?_
        refine zR ?_
        kernel_rfl
       ·have n6 := oF hi8
        refine Wj ?_
        refine zu3 ?_
        refine zR ?_
        rw [text_0 v name x n0 n1 n2 n3 n4 n5 n6]; rfl
end Go.Proofs.YtphgdofmjpdhaaaGreat
namespace Go.Proofs.YtphgdofmjpdhaaaGreat
open Go.RowKit
set_option maxRecDepth 100000
set_option maxHeartbeats 4000000
def tNm (v : VVm) (r : Option (VVm × List Int × Int)) : PV := match r with
 | some q => tup4 (eVm q.1) (sq cInt q.2.1) (i64 q.2.2) (boo true)
 | none => tup4 (eVm v) (sq cInt []) (i64 0) (boo false)
@[simp] theorem flat_tNm (v : VVm) (r : Option (VVm × List Int × Int)) : Flat (tNm v r) := by cases r <;> simp [tNm]
theorem pics_0 : ∀ (v : VVm) (name : Str) (x : List Int), ¬ name = [60, 35] → ¬ name = [35] → ¬ name = [35, 83] → ¬ name = [72, 79, 76, 68] → ¬ name = [83, 73, 71, 78] → ¬ name = [35, 62] → picsS v name x = none := by
 intro v name x n0 n1 n2 n3 n4 n5
 unfold picsS
 simp only [n0, n1, n2, n3, n4, n5, if_false]
theorem pics_end (v : VVm) (x : List Int) : picsS v [35, 62] x = some (pEnd v) := by kernel_rfl
theorem ref_number (v : VVm) (hv : VmOk v) (hc : Fit64 v.conf.mem) (name : Str) (x : List Int) (hx : ∀ i, Fit64 (xat x i)) (hn : takesN name ≤ x.length) : PureC Tryz.prog 72 [eVm v, str name, sq cInt x] (tNm v (picsS v name x)) := by
 have f0 := hx 0
 have f1 := hx 1
 have he := picEnd_len v.pic
 have hp := hv.pic
 refine pW tG (rs := [.cell 6 36, .tmp 7, .tmp 8, .tmp 9]) Tryz.func72 rfl rfl rfl (by simp) (by simp) (fun B => ?_)
 refine zu5 ?_
 refine zu4 ?_
 refine zu1 ?_
 refine zu1 ?_
 refine Ws ?_
 refine zu1 ?_
 refine Wl ?_
 refine zp1 ?_
 refine Wa 26 rfl (str_eql _ _) ?_
 refine zs1 ?_
 refine Wi rfl (fun hi1 => ?_) (fun hi1 => ?_)
 ·obtain rfl := oT hi1
  refine W_region rfl ?_
  refine Wc rfl rfl (dC rfl Tryz.func198 rfl rfl ((ref_Begin) _)) ?_
  refine zs1 ?_
  refine zu3 ?_
  refine zp5 ?_
  refine zs2 ?_
  refine zR ?_
  kernel_rfl
 ·have n0 := oF hi1
  refine zp1 ?_
  refine Wa 29 rfl (str_eql _ _) ?_
  refine zs1 ?_
  refine Wi rfl (fun hi2 => ?_) (fun hi2 => ?_)
  ·obtain rfl := oT hi2
   have h : takesN [35] = 2 := by kernel_rfl
   have hl : 2 ≤ x.length := by omega
   refine Ws ?_
   refine W_drawU [1, 0, 0, 0, 0, 0, 0, 1, 0, 0, 0, 0, 0, 0, 0, 2, 3, 0, 0, 0] [0, 1, 2, 3, 4, 5, 6, 7, 8, 9, 10, 11, 12, 13, 14, 15, 16, 17, 18, 19] mG rfl (by kernel_rfl) ?_
   refine z5 ?_
   refine z3 ?_
   refine Xi tG rfl rfl rfl rfl (fun _ => rfl) (by omega) (iN cInt 1 (fun _ => rfl) 0 (by (simp only [dnL] at *; omega))) ?_
   iterate 2 refine z3 ?_
   refine Xi tG rfl rfl rfl rfl (fun _ => rfl) (by omega) (iN cInt 1 (fun _ => rfl) 0 (by (simp only [dnL] at *; omega))) ?_
   refine z3 ?_
   refine z5 ?_
   refine Xc rfl rfl rfl rfl (fun _ => dC rfl Tryz.func194 rfl rfl ((ref_Base v hv.mem) _)) ?_
   refine Xc rfl rfl rfl rfl (fun _ => dC rfl Tryz.func199 rfl rfl ((ref_PDigit v.pic (xat x 0) (xat x 1) (baseS v) hp) _)) ?_
   iterate 5 refine z3 ?_
   refine WU_ev2 tG rfl rfl rfl rfl rfl trivial rfl ?_
   refine WU_ev3 tG rfl rfl rfl rfl rfl trivial ?_
   iterate 3 refine z3 ?_
   refine WU_nil ?_
   refine zu2 ?_
   refine zu2 ?_
   refine W_region rfl ?_
   refine zy3 ?_
   refine Wa 49 rfl (bsL cInt [_, _] rfl rfl) ?_
   refine zs1 ?_
   refine zu3 ?_
   refine zp5 ?_
   refine zs2 ?_
   refine zR ?_
   kernel_rfl
  ·have n1 := oF hi2
   refine zp1 ?_
   refine Wa 51 rfl (str_eql _ _) ?_
   refine zs1 ?_
   refine Wi rfl (fun hi3 => ?_) (fun hi3 => ?_)
   ·obtain rfl := oT hi3
    have h : takesN [35, 83] = 2 := by kernel_rfl
    have hl : 2 ≤ x.length := by omega
    refine Ws ?_
    refine W_drawU [1, 0, 0, 0, 0, 0, 0, 1, 0, 0, 0, 0, 0, 3, 0] [0, 1, 2, 3, 4, 5, 6, 7, 8, 9, 10, 11, 12, 13, 14] mG rfl (by kernel_rfl) ?_
    refine z5 ?_
    refine z3 ?_
    refine Xi tG rfl rfl rfl rfl (fun _ => rfl) (by omega) (iN cInt 1 (fun _ => rfl) 0 (by (simp only [dnL] at *; omega))) ?_
    iterate 2 refine z3 ?_
    refine Xi tG rfl rfl rfl rfl (fun _ => rfl) (by omega) (iN cInt 1 (fun _ => rfl) 0 (by (simp only [dnL] at *; omega))) ?_
    refine z3 ?_
    refine z5 ?_
    refine Xc rfl rfl rfl rfl (fun _ => dC rfl Tryz.func194 rfl rfl ((ref_Base v hv.mem) _)) ?_
    refine Xc rfl rfl rfl rfl (fun _ => dC rfl Tryz.func200 rfl rfl ((ref_All v.pic (xat x 0) (xat x 1) (baseS v) hp) _)) ?_
    iterate 3 refine z3 ?_
    refine WU_ev3 tG rfl rfl rfl rfl rfl trivial ?_
    refine z3 ?_
    refine WU_nil ?_
    refine W_region rfl ?_
    refine z1 ?_
    refine Wa 65 rfl (bsL cInt [_, _] rfl rfl) ?_
    refine zs1 ?_
    refine zu3 ?_
    refine zp5 ?_
    refine zs2 ?_
    refine zR ?_
    kernel_rfl
   ·have n2 := oF hi3
    refine zp1 ?_
    refine Wa 67 rfl (str_eql _ _) ?_
    refine zs1 ?_
    refine Wi rfl (fun hi4 => ?_) (fun hi4 => ?_)
    ·obtain rfl := oT hi4
     have h : takesN [72, 79, 76, 68] = 1 := by kernel_rfl
     have hl : 1 ≤ x.length := by omega
     refine W_drawU [1, 0, 0, 0, 0, 0, 0, 0, 3, 0] [0, 1, 2, 3, 4, 5, 6, 7, 8, 9] mG rfl (by kernel_rfl) ?_
     refine z5 ?_
     refine z3 ?_
     refine Xi tG rfl rfl rfl rfl (fun _ => rfl) (by omega) (iN cInt 1 (fun _ => rfl) 0 (by (simp only [dnL] at *; omega))) ?_
     refine z3 ?_
     refine Xc rfl rfl rfl rfl (fun _ => dC rfl Tryz.func201 rfl rfl ((ref_Hold v.pic (xat x 0) hp) _)) ?_
     iterate 3 refine z3 ?_
     refine WU_ev3 tG rfl rfl rfl rfl rfl trivial ?_
     refine z3 ?_
     refine WU_nil ?_
     refine zu3 ?_
     refine zp5 ?_
     refine zs2 ?_
     refine zR ?_
     kernel_rfl
    ·have n3 := oF hi4
     refine zp1 ?_
     refine Wa 77 rfl (str_eql _ _) ?_
     refine zs1 ?_
     refine Wi rfl (fun hi5 => ?_) (fun hi5 => ?_)
     ·obtain rfl := oT hi5
      have h : takesN [83, 73, 71, 78] = 1 := by kernel_rfl
      have hl : 1 ≤ x.length := by omega
      refine W_drawU [1, 0, 0, 0, 0, 0, 0, 0, 3, 0] [0, 1, 2, 3, 4, 5, 6, 7, 8, 9] mG rfl (by kernel_rfl) ?_
      refine z5 ?_
      refine z3 ?_
      refine Xi tG rfl rfl rfl rfl (fun _ => rfl) (by omega) (iN cInt 1 (fun _ => rfl) 0 (by (simp only [dnL] at *; omega))) ?_
      refine z3 ?_
      refine Xc rfl rfl rfl rfl (fun _ => dC rfl Tryz.func202 rfl rfl ((ref_Sign v.pic (xat x 0) hp) _)) ?_
      iterate 3 refine z3 ?_
      refine WU_ev3 tG rfl rfl rfl rfl rfl trivial ?_
      refine z3 ?_
      refine WU_nil ?_
      refine zu3 ?_
      refine zp5 ?_
      refine zs2 ?_
      refine zR ?_
      kernel_rfl
     ·have n4 := oF hi5
      refine zp1 ?_
      refine Wa 87 rfl (str_eql _ _) ?_
      refine zs1 ?_
      refine Wi rfl (fun hi6 => ?_) (fun hi6 => ?_)
      ·obtain rfl := oT hi6
       refine zp1 ?_
       refine Wc rfl rfl (dC rfl Tryz.func203 rfl rfl ((ref_End v.pic hp) _)) ?_
       refine zs5 ?_
       refine Ws ?_
       refine zu2 ?_
       refine Wi rfl (fun hi7 => ?_) (fun hi7 => ?_)
       ·have z : ¬ (picEnd v.pic).2 = 0 := by simpa using hi7
        refine zp5 ?_
        refine zs1 ?_
        refine zR ?_
        rw [pics_end, pEnd, if_neg z]; rfl
       ·have z : (picEnd v.pic).2 = 0 := by simpa using hi7
        refine Wj ?_
        refine zp5 ?_
        refine zy3 ?_
        refine Wa 105 rfl (str_bytes _) ?_
        refine Wc rfl rfl (dC rfl Tryz.func204 rfl rfl ((ref_Write v.mem (W64 (v.conf.mem - 136)) (picEnd v.pic).1 hv.mem (w64_fit _) (by omega)) _)) ?_
        refine zy5 ?_
        refine zs1 ?_
        refine zu3 ?_
        refine zu2 ?_
        refine zu2 ?_
        refine W_region rfl ?_
        refine zy5 ?_
        refine z1 ?_
        refine Wa 118 rfl (str_len _) ?_
        refine z1 ?_
        refine Wa 119 rfl (bsL cInt [_, _] rfl rfl) ?_
        refine zs1 ?_
        refine zu3 ?_
        refine zp5 ?_
        refine zs2 ?_
        refine zR ?_
        rw [pics_end, pEnd, if_pos z]; rfl
      ·have n5 := oF hi6
       refine zu5 ?_
       refine zR ?_
       rw [pics_0 v name x n0 n1 n2 n3 n4 n5]; rfl
end Go.Proofs.YtphgdofmjpdhaaaGreat
namespace Go.Proofs.YtphgdofmjpdhaaaGreat
open Go.RowKit
set_option maxRecDepth 100000
set_option maxHeartbeats 4000000
def tRs (r : VVm × List Int × Int) : PV := tup3 (eVm r.1) (sq cInt r.2.1) (i64 r.2.2)
@[simp] theorem flat_tRs (r : VVm × List Int × Int) : Flat (tRs r) := by simp [tRs]
theorem rest_0 : ∀ (v : VVm) (name : Str) (x : List Int), ¬ name = [72, 69, 82, 69] → ¬ name = [65, 82, 71] → ¬ name = [83, 69, 76, 70] → ¬ name = [78, 79, 87] → ¬ name = [62, 66, 79, 68, 89] → restS v name x = (v, [], -1) := by
 intro v name x n0 n1 n2 n3 n4
 unfold restS
 simp only [n0, n1, n2, n3, n4, if_false]
theorem rest_body (v : VVm) (x : List Int) : restS v [62, 66, 79, 68, 89] x = pBody v x := by kernel_rfl
theorem ref_rest (v : VVm) (hm : v.mem.b.length ≤ 140737488355328) (name : Str) (x : List Int) (hx : ∀ i, Fit64 (xat x i)) (hn : takesN name ≤ x.length) : PureC Tryz.prog 74 [eVm v, str name, sq cInt x] (tRs (restS v name x)) := by
 have f0 := hx 0
 refine pW tG (rs := [.cell 6 36, .tmp 7, .tmp 8]) Tryz.func74 rfl rfl rfl (by simp) (by simp) (fun B => ?_)
 refine zu4 ?_
 refine Ws ?_
 refine zu1 ?_
 refine Wl ?_
 refine zp1 ?_
 refine Wa 13 rfl (str_eql _ _) ?_
 refine zs1 ?_
 refine Wi rfl (fun hi1 => ?_) (fun hi1 => ?_)
 ·obtain rfl := oT hi1
  refine Ws ?_
  refine V.W_drawU [4, 0, 4, 0, 7, 0, 0] [0, 1, 2, 3, 4, 5, 6] mG rfl (by kernel_rfl) ?_
  refine V.WU_rd 0 rfl rfl rfl rfl rfl (fun H2 h2 => does_load_ptr (lO tG rfl) rfl rfl h2 rfl) ?_
  refine V.z3 ?_
  refine V.WU_rd 0 rfl rfl rfl rfl rfl (fun H2 h2 => does_load_ptr (lO tG rfl) rfl rfl h2 rfl) ?_
  refine V.z3 ?_
  refine V.Xa 17 rfl (bsL cInt [_] rfl rfl) ?_
  refine V.WU_wr 1 tG rfl rfl rfl rfl rfl trivial rfl ?_
  iterate 2 refine V.z3 ?_
  refine V.WU_nil ?_
  refine zR ?_
  kernel_rfl
 ·have n0 := oF hi1
  refine zp1 ?_
  refine Wa 19 rfl (str_eql _ _) ?_
  refine zs1 ?_
  refine Wi rfl (fun hi2 => ?_) (fun hi2 => ?_)
  ·obtain rfl := oT hi2
   refine Ws ?_
   refine V.W_drawU [4, 0, 4, 0, 7, 0, 0] [0, 1, 2, 3, 4, 5, 6] mG rfl (by kernel_rfl) ?_
   refine V.WU_rd 0 rfl rfl rfl rfl rfl (fun H2 h2 => does_load_ptr (lO tG rfl) rfl rfl h2 rfl) ?_
   refine V.z3 ?_
   refine V.WU_rd 0 rfl rfl rfl rfl rfl (fun H2 h2 => does_load_ptr (lO tG rfl) rfl rfl h2 rfl) ?_
   refine V.z3 ?_
   refine V.Xa 23 rfl (bsL cInt [_] rfl rfl) ?_
   refine V.WU_wr 1 tG rfl rfl rfl rfl rfl trivial rfl ?_
   iterate 2 refine V.z3 ?_
   refine V.WU_nil ?_
   refine zR ?_
   kernel_rfl
  ·have n1 := oF hi2
   refine zp1 ?_
   refine Wa 25 rfl (str_eql _ _) ?_
   refine zs1 ?_
   refine Wi rfl (fun hi3 => ?_) (fun hi3 => ?_)
   ·obtain rfl := oT hi3
    refine Ws ?_
    refine V.W_drawU [4, 0, 4, 0, 7, 0, 0] [0, 1, 2, 3, 4, 5, 6] mG rfl (by kernel_rfl) ?_
    refine V.WU_rd 0 rfl rfl rfl rfl rfl (fun H2 h2 => does_load_ptr (lO tG rfl) rfl rfl h2 rfl) ?_
    refine V.z3 ?_
    refine V.WU_rd 0 rfl rfl rfl rfl rfl (fun H2 h2 => does_load_ptr (lO tG rfl) rfl rfl h2 rfl) ?_
    refine V.z3 ?_
    refine V.Xa 29 rfl (bsL cInt [_] rfl rfl) ?_
    refine V.WU_wr 1 tG rfl rfl rfl rfl rfl trivial rfl ?_
    iterate 2 refine V.z3 ?_
    refine V.WU_nil ?_
    refine zR ?_
    kernel_rfl
   ·have n2 := oF hi3
    refine zp1 ?_
    refine Wa 31 rfl (str_eql _ _) ?_
    refine zs1 ?_
    refine Wi rfl (fun hi4 => ?_) (fun hi4 => ?_)
    ·obtain rfl := oT hi4
     refine Ws ?_
     refine V.W_drawU [4, 0, 4, 0, 7, 0, 0] [0, 1, 2, 3, 4, 5, 6] mG rfl (by kernel_rfl) ?_
     refine V.WU_rd 0 rfl rfl rfl rfl rfl (fun H2 h2 => does_load_ptr (lO tG rfl) rfl rfl h2 rfl) ?_
     refine V.z3 ?_
     refine V.WU_rd 0 rfl rfl rfl rfl rfl (fun H2 h2 => does_load_ptr (lO tG rfl) rfl rfl h2 rfl) ?_
     refine V.z3 ?_
     refine V.Xa 35 rfl (bsL cInt [_] rfl rfl) ?_
     refine V.WU_wr 1 tG rfl rfl rfl rfl rfl trivial rfl ?_
     iterate 2 refine V.z3 ?_
     refine V.WU_nil ?_
     refine zR ?_
     kernel_rfl
    ·have n3 := oF hi4
     refine zp1 ?_
     refine Wa 37 rfl (str_eql _ _) ?_
     refine zs1 ?_
     refine Wi rfl (fun hi5 => ?_) (fun hi5 => ?_)
     ·obtain rfl := oT hi5
      have h : takesN [62, 66, 79, 68, 89] = 1 := by kernel_rfl
      have hl : 1 ≤ x.length := by omega
      refine Ws ?_
      refine V.W_drawU [4, 0, 0, 0, 0, 0, 0, 0, 0, 0] [0, 1, 2, 3, 4, 5, 6, 7, 8, 9] mG rfl (by kernel_rfl) ?_
      refine V.WU_rd 0 rfl rfl rfl rfl rfl (fun H2 h2 => does_load_ptr (lO tG rfl) rfl rfl h2 rfl) ?_
      refine V.z3 ?_
      refine V.Xi tG rfl rfl rfl rfl (fun _ => rfl) (by omega) (iN cInt 1 (fun _ => rfl) 0 (by (simp only [dnL] at *; omega))) ?_
      refine V.z3 ?_
      refine V.Xc rfl rfl rfl rfl (fun _ => dC rfl Tryz.func205 rfl rfl ((ref_Kind v (xat x 0) hm f0) _)) ?_
      iterate 5 refine V.z3 ?_
      refine V.WU_nil ?_
      refine Ws ?_
      refine zp3 ?_
      refine Wb 48 rfl (fun hg1 => ?_) (fun hg1 => ?_)
      ·have h0 : (vmKind v (xat x 0)).2 = 0 := beq_iff_eq.1 hg1
       refine zy3 ?_
       refine Wb 51 rfl (fun hg2 => ?_) (fun hg2 => ?_)
       ·have h1 : (vmKind v (xat x 0)).1 < 257 := oT hg2
        iterate 2 refine z6 ?_
        refine zs2 ?_
        refine Wt rfl rfl ?_
        refine zu4 ?_
        refine zR ?_
        (rw [rest_body, pBody, if_pos ⟨h0, by omega⟩]; rfl)
       ·have h1 : ¬ (vmKind v (xat x 0)).1 < 257 := oF hg2
        refine zs4 ?_
        refine Wi rfl (fun hi6 => ?_) (fun hi6 => ?_)
        ·have h2 : 260 < (vmKind v (xat x 0)).1 := oT hi6
         refine zu4 ?_
         refine zR ?_
         (rw [rest_body, pBody, if_pos ⟨h0, by omega⟩]; rfl)
        ·have h2 : ¬ 260 < (vmKind v (xat x 0)).1 := oF hi6
         refine Wj ?_
         refine Ws ?_
         refine V.W_drawU [4, 0, 0, 0, 0, 0, 0, 7, 0, 0] [0, 1, 2, 3, 4, 5, 6, 7, 8, 9] mG rfl (by kernel_rfl) ?_
         refine V.WU_rd 0 rfl rfl rfl rfl rfl (fun H2 h2 => does_load_ptr (lO tG rfl) rfl rfl h2 rfl) ?_
         refine V.z3 ?_
         refine V.Xi tG rfl rfl rfl rfl (fun _ => rfl) (by omega) (iN cInt 1 (fun _ => rfl) 0 (by (simp only [dnL] at *; omega))) ?_
         iterate 3 refine V.z3 ?_
         refine V.Xa 62 rfl (bsL cInt [_] rfl rfl) ?_
         refine V.z3 ?_
         refine V.WU_wr 1 tG rfl rfl rfl rfl rfl trivial rfl ?_
         iterate 2 refine V.z3 ?_
         refine V.WU_nil ?_
         refine zR ?_
         (rw [rest_body, pBody, if_neg (fun h => by omega)]; rfl)
      ·have h0 : ¬ (vmKind v (xat x 0)).2 = 0 := beq_eq_false_iff_ne.1 hg1
       iterate 6 refine z6 ?_
       refine zs1 ?_
       refine Wf rfl rfl ?_
       refine Wj ?_
       refine Ws ?_
       refine V.W_drawU [4, 0, 0, 0, 0, 0, 0, 7, 0, 0] [0, 1, 2, 3, 4, 5, 6, 7, 8, 9] mG rfl (by kernel_rfl) ?_
       refine V.WU_rd 0 rfl rfl rfl rfl rfl (fun H2 h2 => does_load_ptr (lO tG rfl) rfl rfl h2 rfl) ?_
       refine V.z3 ?_
       refine V.Xi tG rfl rfl rfl rfl (fun _ => rfl) (by omega) (iN cInt 1 (fun _ => rfl) 0 (by (simp only [dnL] at *; omega))) ?_
       iterate 3 refine V.z3 ?_
       refine V.Xa 62 rfl (bsL cInt [_] rfl rfl) ?_
       refine V.z3 ?_
       refine V.WU_wr 1 tG rfl rfl rfl rfl rfl trivial rfl ?_
       iterate 2 refine V.z3 ?_
       refine V.WU_nil ?_
       refine zR ?_
       (rw [rest_body, pBody, if_neg (fun h => by omega)]; rfl)
     ·have n4 := oF hi5
      refine Wj ?_
      refine zu4 ?_
      refine zR ?_
      (rw [rest_0 v name x n0 n1 n2 n3 n4]; rfl)
end Go.Proofs.YtphgdofmjpdhaaaGreat
namespace Go.Proofs.YtphgdofmjpdhaaaGreat
open Go.RowKit
set_option maxRecDepth 100000
set_option maxHeartbeats 4000000
theorem memory_0 : ∀ (v : VVm) (name : Str) (x : List Int), ¬ name = [64] → ¬ name = [71, 69, 84, 45, 83, 84, 65, 84, 69] → ¬ name = [67, 64] → ¬ name = [33] → ¬ name = [67, 33] → ¬ name = [43, 33] → ¬ name = [50, 64] → ¬ name = [50, 33] → ¬ name = [70, 73, 76, 76] → ¬ name = [77, 79, 86, 69] → ¬ name = [67, 79, 85, 78, 84] → ¬ name = [68, 69, 67, 73, 77, 65, 76] → ¬ name = [72, 69, 88] → ¬ name = [83, 69, 84, 45, 83, 84, 65, 84, 69] → ¬ name = [65, 84, 45, 83, 84, 65, 84, 69] → memoryS v name x = none := by
 intro v name x n0 n1 n2 n3 n4 n5 n6 n7 n8 n9 n10 n11 n12 n13 n14
 unfold memoryS
 simp only [n0, n1, n2, n3, n4, n5, n6, n7, n8, n9, n10, n11, n12, n13, n14, or_self, if_false]
theorem my_add (v : VVm) (x : List Int) : memoryS v [43, 33] x = some (pPut v (pAddTo v x)) := by kernel_rfl
theorem my_f2 (v : VVm) (x : List Int) : memoryS v [50, 64] x = some (pFetch2 v x) := by kernel_rfl
theorem my_s2 (v : VVm) (x : List Int) : memoryS v [50, 33] x = some (pPut v (pStore2 v x)) := by kernel_rfl
theorem my_set (v : VVm) (x : List Int) : memoryS v [83, 69, 84, 45, 83, 84, 65, 84, 69] x = some (pSetState v x) := by kernel_rfl
theorem my_at (v : VVm) (x : List Int) : memoryS v [65, 84, 45, 83, 84, 65, 84, 69] x = some (pAtState v x) := by kernel_rfl
theorem ref_memory (v : VVm) (hv : VmOk v) (name : Str) (x : List Int) (hx : ∀ i, Fit64 (xat x i)) (hn : takesN name ≤ x.length) : PureC Tryz.prog 68 [eVm v, str name, sq cInt x] (tNm v (memoryS v name x)) := by
 have f0 := hx 0
 have f1 := hx 1
 have f2 := hx 2
 have hb : v.mem.b.length ≤ 140737488355328 := by have := hv.mem.b; omega
 refine pW tG (rs := [.cell 6 36, .tmp 7, .tmp 8, .tmp 9]) Tryz.func68 rfl rfl rfl (by simp) (by simp) (fun B => ?_)
 refine zu5 ?_
 refine zu4 ?_
 refine zu1 ?_
 refine zu1 ?_
 refine zu1 ?_
 refine Ws ?_
 refine zu1 ?_
 refine Wl ?_
 refine Ws ?_
 refine zp1 ?_
 refine Wa 21 rfl (str_eql _ _) ?_
 refine zs1 ?_
 refine Wi rfl (fun hi1 => ?_) (fun hi1 => ?_)
 ·obtain rfl := oT hi1
  have h : takesN [64] = 1 := by kernel_rfl
  have hl : 1 ≤ x.length := by omega
  refine Wj ?_
  refine Wt rfl hi1 ?_
  refine Ws ?_
  refine W_drawU [1, 0, 0, 1, 0, 0, 0, 0, 0, 0] [0, 1, 2, 3, 4, 5, 6, 7, 8, 9] mG rfl (by kernel_rfl) ?_
  refine z5 ?_
  refine z3 ?_
  refine Xi tG rfl rfl rfl rfl (fun _ => rfl) (by omega) (iN cInt 1 (fun _ => rfl) 0 (by (simp only [dnL] at *; omega))) ?_
  refine z5 ?_
  refine Xc rfl rfl rfl rfl (fun _ => dC rfl Tryz.func183 rfl rfl ((ref_Fetch v.mem (xat x 0) hb f0) _)) ?_
  iterate 5 refine z3 ?_
  refine WU_nil ?_
  refine W_region rfl ?_
  refine zy2 ?_
  refine Wa 32 rfl (bsL cInt [_] rfl rfl) ?_
  refine zs1 ?_
  refine zu3 ?_
  refine zp5 ?_
  refine zs2 ?_
  refine zR ?_
  kernel_rfl
 ·have n0 := oF hi1
  refine W_region rfl ?_
  refine z1 ?_
  refine Wa 22 rfl (str_eql _ _) ?_
  refine zs1 ?_
  refine Wi rfl (fun hi2 => ?_) (fun hi2 => ?_)
  ·obtain rfl := oT hi2
   have h : takesN [71, 69, 84, 45, 83, 84, 65, 84, 69] = 1 := by kernel_rfl
   have hl : 1 ≤ x.length := by omega
   refine Ws ?_
   refine W_drawU [1, 0, 0, 1, 0, 0, 0, 0, 0, 0] [0, 1, 2, 3, 4, 5, 6, 7, 8, 9] mG rfl (by kernel_rfl) ?_
   refine z5 ?_
   refine z3 ?_
   refine Xi tG rfl rfl rfl rfl (fun _ => rfl) (by omega) (iN cInt 1 (fun _ => rfl) 0 (by (simp only [dnL] at *; omega))) ?_
   refine z5 ?_
   refine Xc rfl rfl rfl rfl (fun _ => dC rfl Tryz.func183 rfl rfl ((ref_Fetch v.mem (xat x 0) hb f0) _)) ?_
   iterate 5 refine z3 ?_
   refine WU_nil ?_
   refine W_region rfl ?_
   refine zy2 ?_
   refine Wa 32 rfl (bsL cInt [_] rfl rfl) ?_
   refine zs1 ?_
   refine zu3 ?_
   refine zp5 ?_
   refine zs2 ?_
   refine zR ?_
   kernel_rfl
  ·have n1 := oF hi2
   refine zp1 ?_
   refine Wa 34 rfl (str_eql _ _) ?_
   refine zs1 ?_
   refine Wi rfl (fun hi3 => ?_) (fun hi3 => ?_)
   ·obtain rfl := oT hi3
    have h : takesN [67, 64] = 1 := by kernel_rfl
    have hl : 1 ≤ x.length := by omega
    refine Ws ?_
    refine W_drawU [1, 0, 0, 1, 0, 0, 0, 0, 0, 0] [0, 1, 2, 3, 4, 5, 6, 7, 8, 9] mG rfl (by kernel_rfl) ?_
    refine z5 ?_
    refine z3 ?_
    refine Xi tG rfl rfl rfl rfl (fun _ => rfl) (by omega) (iN cInt 1 (fun _ => rfl) 0 (by (simp only [dnL] at *; omega))) ?_
    refine z5 ?_
    refine Xc rfl rfl rfl rfl (fun _ => dC rfl Tryz.func184 rfl rfl ((ref_FetchByte v.mem (xat x 0) hv.mem f0) _)) ?_
    iterate 5 refine z3 ?_
    refine WU_nil ?_
    refine W_region rfl ?_
    refine zy2 ?_
    refine Wa 44 rfl (bsL cInt [_] rfl rfl) ?_
    refine zs1 ?_
    refine zu3 ?_
    refine zp5 ?_
    refine zs2 ?_
    refine zR ?_
    kernel_rfl
   ·have n2 := oF hi3
    refine zp1 ?_
    refine Wa 46 rfl (str_eql _ _) ?_
    refine zs1 ?_
    refine Wi rfl (fun hi4 => ?_) (fun hi4 => ?_)
    ·obtain rfl := oT hi4
     have h : takesN [33] = 2 := by kernel_rfl
     have hl : 2 ≤ x.length := by omega
     refine W_drawU [1, 0, 0, 1, 0, 0, 1, 0, 0, 0, 0, 3, 0] [0, 1, 2, 3, 4, 5, 6, 7, 8, 9, 10, 11, 12] mG rfl (by kernel_rfl) ?_
     refine z5 ?_
     refine z3 ?_
     refine Xi tG rfl rfl rfl rfl (fun _ => rfl) (by omega) (iN cInt 1 (fun _ => rfl) 0 (by (simp only [dnL] at *; omega))) ?_
     refine z5 ?_
     refine z3 ?_
     refine Xi tG rfl rfl rfl rfl (fun _ => rfl) (by omega) (iN cInt 1 (fun _ => rfl) 0 (by (simp only [dnL] at *; omega))) ?_
     refine z5 ?_
     refine Xc rfl rfl rfl rfl (fun _ => dC rfl Tryz.func185 rfl rfl ((ref_Store v.mem (xat x 1) (xat x 0) hv.mem f1) _)) ?_
     iterate 3 refine z3 ?_
     refine WU_ev3 tG rfl rfl rfl rfl rfl trivial ?_
     refine z3 ?_
     refine WU_nil ?_
     refine zu3 ?_
     refine zp5 ?_
     refine zs2 ?_
     refine zR ?_
     kernel_rfl
    ·have n3 := oF hi4
     refine zp1 ?_
     refine Wa 59 rfl (str_eql _ _) ?_
     refine zs1 ?_
     refine Wi rfl (fun hi5 => ?_) (fun hi5 => ?_)
     ·obtain rfl := oT hi5
      have h : takesN [67, 33] = 2 := by kernel_rfl
      have hl : 2 ≤ x.length := by omega
      refine W_drawU [1, 0, 0, 1, 0, 0, 1, 0, 0, 0, 0, 3, 0] [0, 1, 2, 3, 4, 5, 6, 7, 8, 9, 10, 11, 12] mG rfl (by kernel_rfl) ?_
      refine z5 ?_
      refine z3 ?_
      refine Xi tG rfl rfl rfl rfl (fun _ => rfl) (by omega) (iN cInt 1 (fun _ => rfl) 0 (by (simp only [dnL] at *; omega))) ?_
      refine z5 ?_
      refine z3 ?_
      refine Xi tG rfl rfl rfl rfl (fun _ => rfl) (by omega) (iN cInt 1 (fun _ => rfl) 0 (by (simp only [dnL] at *; omega))) ?_
      refine z5 ?_
      refine Xc rfl rfl rfl rfl (fun _ => dC rfl Tryz.func186 rfl rfl ((ref_StoreByte v.mem (xat x 1) (xat x 0) hv.mem f1) _)) ?_
      iterate 3 refine z3 ?_
      refine WU_ev3 tG rfl rfl rfl rfl rfl trivial ?_
      refine z3 ?_
      refine WU_nil ?_
      refine zu3 ?_
      refine zp5 ?_
      refine zs2 ?_
      refine zR ?_
      kernel_rfl
     ·have n4 := oF hi5
      refine zp1 ?_
      refine Wa 72 rfl (str_eql _ _) ?_
      refine zs1 ?_
      refine Wi rfl (fun hi6 => ?_) (fun hi6 => ?_)
      ·obtain rfl := oT hi6
       have h : takesN [43, 33] = 2 := by kernel_rfl
       have hl : 2 ≤ x.length := by omega
       refine Ws ?_
       refine W_drawU [1, 0, 0, 1, 0, 0, 0, 0, 0, 0] [0, 1, 2, 3, 4, 5, 6, 7, 8, 9] mG rfl (by kernel_rfl) ?_
       refine z5 ?_
       refine z3 ?_
       refine Xi tG rfl rfl rfl rfl (fun _ => rfl) (by omega) (iN cInt 1 (fun _ => rfl) 0 (by (simp only [dnL] at *; omega))) ?_
       refine z5 ?_
       refine Xc rfl rfl rfl rfl (fun _ => dC rfl Tryz.func183 rfl rfl ((ref_Fetch v.mem (xat x 1) hb f1) _)) ?_
       iterate 5 refine z3 ?_
       refine WU_nil ?_
       refine zu2 ?_
       refine Wi rfl (fun hi7 => ?_) (fun hi7 => ?_)
       ·have z : (memFetch v.mem (xat x 1)).2 = 0 := by simpa using hi7
        refine W_drawU [1, 0, 0, 1, 0, 0, 0, 1, 0, 0, 0, 0, 0, 3, 0] [0, 1, 2, 3, 4, 5, 6, 7, 8, 9, 10, 11, 12, 13, 14] mG rfl (by kernel_rfl) ?_
        refine z5 ?_
        refine z3 ?_
        refine Xi tG rfl rfl rfl rfl (fun _ => rfl) (by omega) (iN cInt 1 (fun _ => rfl) 0 (by (simp only [dnL] at *; omega))) ?_
        refine z5 ?_
        iterate 2 refine z3 ?_
        refine Xi tG rfl rfl rfl rfl (fun _ => rfl) (by omega) (iN cInt 1 (fun _ => rfl) 0 (by (simp only [dnL] at *; omega))) ?_
        refine z5 ?_
        refine z3 ?_
        refine Xc rfl rfl rfl rfl (fun _ => dC rfl Tryz.func185 rfl rfl ((ref_Store v.mem (xat x 1) (W64 ((memFetch v.mem (xat x 1)).1 + xat x 0)) hv.mem f1) _)) ?_
        iterate 3 refine z3 ?_
        refine WU_ev3 tG rfl rfl rfl rfl rfl trivial ?_
        refine z3 ?_
        refine WU_nil ?_
        refine zu3 ?_
        refine zp5 ?_
        refine zs2 ?_
        refine zR ?_
        rw [my_add, pAddTo, if_pos z]; rfl
       ·have z : ¬ (memFetch v.mem (xat x 1)).2 = 0 := by simpa using hi7
        refine Wj ?_
        refine zu3 ?_
        refine zp5 ?_
        refine zs2 ?_
        refine zR ?_
        rw [my_add, pAddTo, if_neg z]; rfl
      ·have n5 := oF hi6
       refine zp1 ?_
       refine Wa 97 rfl (str_eql _ _) ?_
       refine zs1 ?_
       refine Wi rfl (fun hi8 => ?_) (fun hi8 => ?_)
       ·obtain rfl := oT hi8
        have h : takesN [50, 64] = 1 := by kernel_rfl
        have hl : 1 ≤ x.length := by omega
        refine Ws ?_
        refine W_drawU [1, 0, 0, 1, 0, 0, 0, 0, 0, 0] [0, 1, 2, 3, 4, 5, 6, 7, 8, 9] mG rfl (by kernel_rfl) ?_
        refine z5 ?_
        refine z3 ?_
        refine Xi tG rfl rfl rfl rfl (fun _ => rfl) (by omega) (iN cInt 1 (fun _ => rfl) 0 (by (simp only [dnL] at *; omega))) ?_
        refine z5 ?_
        refine Xc rfl rfl rfl rfl (fun _ => dC rfl Tryz.func183 rfl rfl ((ref_Fetch v.mem (xat x 0) hb f0) _)) ?_
        iterate 5 refine z3 ?_
        refine WU_nil ?_
        refine zu2 ?_
        refine zu2 ?_
        refine Wi rfl (fun hi9 => ?_) (fun hi9 => ?_)
        ·have z : (memFetch v.mem (xat x 0)).2 = 0 := by simpa using hi9
         refine Ws ?_
         refine W_drawU [1, 0, 0, 1, 0, 0, 0, 0, 0, 0, 0] [0, 1, 2, 3, 4, 5, 6, 7, 8, 9, 10] mG rfl (by kernel_rfl) ?_
         refine z5 ?_
         refine z3 ?_
         refine Xi tG rfl rfl rfl rfl (fun _ => rfl) (by omega) (iN cInt 1 (fun _ => rfl) 0 (by (simp only [dnL] at *; omega))) ?_
         refine z5 ?_
         refine z3 ?_
         refine Xc rfl rfl rfl rfl (fun _ => dC rfl Tryz.func183 rfl rfl ((ref_Fetch v.mem (W64 (xat x 0 + 8)) hb (w64_fit _)) _)) ?_
         iterate 5 refine z3 ?_
         refine WU_nil ?_
         refine W_region rfl ?_
         refine zy3 ?_
         refine Wa 120 rfl (bsL cInt [_, _] rfl rfl) ?_
         refine zs1 ?_
         refine zu3 ?_
         refine zp5 ?_
         refine zs2 ?_
         refine zR ?_
         rw [my_f2, pFetch2, if_pos z]; rfl
        ·have z : ¬ (memFetch v.mem (xat x 0)).2 = 0 := by simpa using hi9
         refine Wj ?_
         refine zu3 ?_
         refine zp5 ?_
         refine zs2 ?_
         refine zR ?_
         rw [my_f2, pFetch2, if_neg z]; rfl
       ·have n6 := oF hi8
        refine zp1 ?_
        refine Wa 122 rfl (str_eql _ _) ?_
        refine zs1 ?_
        refine Wi rfl (fun hi10 => ?_) (fun hi10 => ?_)
        ·obtain rfl := oT hi10
         have h : takesN [50, 33] = 3 := by kernel_rfl
         have hl : 3 ≤ x.length := by omega
         refine Ws ?_
         refine W_drawU [1, 0, 0, 1, 0, 0, 1, 0, 0, 0, 0, 3, 0] [0, 1, 2, 3, 4, 5, 6, 7, 8, 9, 10, 11, 12] mG rfl (by kernel_rfl) ?_
         refine z5 ?_
         refine z3 ?_
         refine Xi tG rfl rfl rfl rfl (fun _ => rfl) (by omega) (iN cInt 1 (fun _ => rfl) 0 (by (simp only [dnL] at *; omega))) ?_
         refine z5 ?_
         refine z3 ?_
         refine Xi tG rfl rfl rfl rfl (fun _ => rfl) (by omega) (iN cInt 1 (fun _ => rfl) 0 (by (simp only [dnL] at *; omega))) ?_
         refine z5 ?_
         refine Xc rfl rfl rfl rfl (fun _ => dC rfl Tryz.func185 rfl rfl ((ref_Store v.mem (xat x 2) (xat x 1) hv.mem f2) _)) ?_
         iterate 3 refine z3 ?_
         refine WU_ev3 tG rfl rfl rfl rfl rfl trivial ?_
         refine z3 ?_
         refine WU_nil ?_
         refine zu2 ?_
         refine Wi rfl (fun hi11 => ?_) (fun hi11 => ?_)
         ·have z : (memStore v.mem (xat x 2) (xat x 1)).2 = 0 := by simpa using hi11
          refine W_drawU [1, 0, 0, 1, 0, 0, 0, 1, 0, 0, 0, 0, 3, 0] [0, 1, 2, 3, 4, 5, 6, 7, 8, 9, 10, 11, 12, 13] mG rfl (by kernel_rfl) ?_
          refine z5 ?_
          refine z3 ?_
          refine Xi tG rfl rfl rfl rfl (fun _ => rfl) (by omega) (iN cInt 1 (fun _ => rfl) 0 (by (simp only [dnL] at *; omega))) ?_
          refine z5 ?_
          iterate 2 refine z3 ?_
          refine Xi tG rfl rfl rfl rfl (fun _ => rfl) (by omega) (iN cInt 1 (fun _ => rfl) 0 (by (simp only [dnL] at *; omega))) ?_
          refine z5 ?_
          refine Xc rfl rfl rfl rfl (fun _ => dC rfl Tryz.func185 rfl rfl ((ref_Store (memStore v.mem (xat x 2) (xat x 1)).1 (W64 (xat x 2 + 8)) (xat x 0) (memStore_ok hv.mem _ _ hv.old) (w64_fit _)) _)) ?_
          iterate 3 refine z3 ?_
          refine WU_ev3 tG rfl rfl rfl rfl rfl trivial ?_
          refine z3 ?_
          refine WU_nil ?_
          refine zu3 ?_
          refine zp5 ?_
          refine zs2 ?_
          refine zR ?_
          rw [my_s2, pStore2, if_pos z]; rfl
         ·have z : ¬ (memStore v.mem (xat x 2) (xat x 1)).2 = 0 := by simpa using hi11
          refine Wj ?_
          refine zu3 ?_
          refine zp5 ?_
          refine zs2 ?_
          refine zR ?_
          rw [my_s2, pStore2, if_neg z]; rfl
        ·have n7 := oF hi10
         refine zp1 ?_
         refine Wa 149 rfl (str_eql _ _) ?_
         refine zs1 ?_
         refine Wi rfl (fun hi12 => ?_) (fun hi12 => ?_)
         ·obtain rfl := oT hi12
          have h : takesN [70, 73, 76, 76] = 3 := by kernel_rfl
          have hl : 3 ≤ x.length := by omega
          refine W_drawU [1, 0, 0, 1, 0, 0, 1, 0, 0, 1, 0, 0, 0, 0, 3, 0] [0, 1, 2, 3, 4, 5, 6, 7, 8, 9, 10, 11, 12, 13, 14, 15] mG rfl (by kernel_rfl) ?_
          refine z5 ?_
          refine z3 ?_
          refine Xi tG rfl rfl rfl rfl (fun _ => rfl) (by omega) (iN cInt 1 (fun _ => rfl) 0 (by (simp only [dnL] at *; omega))) ?_
          refine z5 ?_
          refine z3 ?_
          refine Xi tG rfl rfl rfl rfl (fun _ => rfl) (by omega) (iN cInt 1 (fun _ => rfl) 0 (by (simp only [dnL] at *; omega))) ?_
          refine z5 ?_
          refine z3 ?_
          refine Xi tG rfl rfl rfl rfl (fun _ => rfl) (by omega) (iN cInt 1 (fun _ => rfl) 0 (by (simp only [dnL] at *; omega))) ?_
          refine z5 ?_
          refine Xc rfl rfl rfl rfl (fun _ => dC rfl Tryz.func187 rfl rfl ((ref_Fill v.mem (xat x 0) (xat x 1) (xat x 2) hv.mem f0 f1) _)) ?_
          iterate 3 refine z3 ?_
          refine WU_ev3 tG rfl rfl rfl rfl rfl trivial ?_
          refine z3 ?_
          refine WU_nil ?_
          refine zu3 ?_
          refine zp5 ?_
          refine zs2 ?_
          refine zR ?_
          kernel_rfl
         ·have n8 := oF hi12
          refine zp1 ?_
          refine Wa 165 rfl (str_eql _ _) ?_
          refine zs1 ?_
          refine Wi rfl (fun hi13 => ?_) (fun hi13 => ?_)
          ·obtain rfl := oT hi13
           have h : takesN [77, 79, 86, 69] = 3 := by kernel_rfl
           have hl : 3 ≤ x.length := by omega
           refine W_drawU [1, 0, 0, 1, 0, 0, 1, 0, 0, 1, 0, 0, 0, 0, 3, 0] [0, 1, 2, 3, 4, 5, 6, 7, 8, 9, 10, 11, 12, 13, 14, 15] mG rfl (by kernel_rfl) ?_
           refine z5 ?_
           refine z3 ?_
           refine Xi tG rfl rfl rfl rfl (fun _ => rfl) (by omega) (iN cInt 1 (fun _ => rfl) 0 (by (simp only [dnL] at *; omega))) ?_
           refine z5 ?_
           refine z3 ?_
           refine Xi tG rfl rfl rfl rfl (fun _ => rfl) (by omega) (iN cInt 1 (fun _ => rfl) 0 (by (simp only [dnL] at *; omega))) ?_
           refine z5 ?_
           refine z3 ?_
           refine Xi tG rfl rfl rfl rfl (fun _ => rfl) (by omega) (iN cInt 1 (fun _ => rfl) 0 (by (simp only [dnL] at *; omega))) ?_
           refine z5 ?_
           refine Xc rfl rfl rfl rfl (fun _ => dC rfl Tryz.func188 rfl rfl ((ref_Move v.mem (xat x 0) (xat x 1) (xat x 2) hv.mem f0 f1 f2) _)) ?_
           iterate 3 refine z3 ?_
           refine WU_ev3 tG rfl rfl rfl rfl rfl trivial ?_
           refine z3 ?_
           refine WU_nil ?_
           refine zu3 ?_
           refine zp5 ?_
           refine zs2 ?_
           refine zR ?_
           kernel_rfl
          ·have n9 := oF hi13
           refine zp1 ?_
           refine Wa 181 rfl (str_eql _ _) ?_
           refine zs1 ?_
           refine Wi rfl (fun hi14 => ?_) (fun hi14 => ?_)
           ·obtain rfl := oT hi14
            have h : takesN [67, 79, 85, 78, 84] = 1 := by kernel_rfl
            have hl : 1 ≤ x.length := by omega
            refine Ws ?_
            refine W_drawU [1, 0, 0, 1, 0, 0, 0, 0, 0, 0] [0, 1, 2, 3, 4, 5, 6, 7, 8, 9] mG rfl (by kernel_rfl) ?_
            refine z5 ?_
            refine z3 ?_
            refine Xi tG rfl rfl rfl rfl (fun _ => rfl) (by omega) (iN cInt 1 (fun _ => rfl) 0 (by (simp only [dnL] at *; omega))) ?_
            refine z5 ?_
            refine Xc rfl rfl rfl rfl (fun _ => dC rfl Tryz.func184 rfl rfl ((ref_FetchByte v.mem (xat x 0) hv.mem f0) _)) ?_
            iterate 5 refine z3 ?_
            refine WU_nil ?_
            refine W_region rfl ?_
            refine z1 ?_
            refine Wv tG rfl rfl rfl (by omega) (iN cInt 1 (fun _ => rfl) 0 (by (simp only [dnL] at *; omega))) ?_
            refine zy4 ?_
            refine Wa 195 rfl (bsL cInt [_, _] rfl rfl) ?_
            refine zs1 ?_
            refine zu3 ?_
            refine zp5 ?_
            refine zs2 ?_
            refine zR ?_
            kernel_rfl
           ·have n10 := oF hi14
            refine zp1 ?_
            refine Wa 197 rfl (str_eql _ _) ?_
            refine zs1 ?_
            refine Wi rfl (fun hi15 => ?_) (fun hi15 => ?_)
            ·obtain rfl := oT hi15
             refine W_region rfl ?_
             refine z1 ?_
             refine Wc rfl rfl (dC rfl Tryz.func185 rfl rfl ((ref_Store v.mem 0 10 hv.mem (by unfold Fit64; omega)) _)) ?_
             refine zs5 ?_
             refine zu3 ?_
             refine zp5 ?_
             refine zs2 ?_
             refine zR ?_
             kernel_rfl
            ·have n11 := oF hi15
             refine zp1 ?_
             refine Wa 204 rfl (str_eql _ _) ?_
             refine zs1 ?_
             refine Wi rfl (fun hi16 => ?_) (fun hi16 => ?_)
             ·obtain rfl := oT hi16
              refine W_region rfl ?_
              refine z1 ?_
              refine Wc rfl rfl (dC rfl Tryz.func185 rfl rfl ((ref_Store v.mem 0 16 hv.mem (by unfold Fit64; omega)) _)) ?_
              refine zs5 ?_
              refine zu3 ?_
              refine zp5 ?_
              refine zs2 ?_
              refine zR ?_
              kernel_rfl
             ·have n12 := oF hi16
              refine zp1 ?_
              refine Wa 211 rfl (str_eql _ _) ?_
              refine zs1 ?_
              refine Wi rfl (fun hi17 => ?_) (fun hi17 => ?_)
              ·obtain rfl := oT hi17
               have h : takesN [83, 69, 84, 45, 83, 84, 65, 84, 69] = 2 := by kernel_rfl
               have hl : 2 ≤ x.length := by omega
               refine Ws ?_
               refine W_drawU [1, 0, 0, 1, 0, 0, 0, 0, 0, 0, 0] [0, 1, 2, 3, 4, 5, 6, 7, 8, 9, 10] mG rfl (by kernel_rfl) ?_
               refine z5 ?_
               refine z3 ?_
               refine Xi tG rfl rfl rfl rfl (fun _ => rfl) (by omega) (iN cInt 1 (fun _ => rfl) 0 (by (simp only [dnL] at *; omega))) ?_
               refine z5 ?_
               refine z3 ?_
               refine Xc rfl rfl rfl rfl (fun _ => dC rfl Tryz.func183 rfl rfl ((ref_Fetch v.mem (W64 (xat x 1 + 8)) hb (w64_fit _)) _)) ?_
               iterate 5 refine z3 ?_
               refine WU_nil ?_
               refine Ws ?_
               refine zp3 ?_
               refine Wb 223 rfl (fun hg1 => ?_) (fun hg1 => ?_)
               ·have q1 : (memFetch v.mem (W64 (xat x 1 + 8))).2 = 0 := by simpa using hg1
                refine z1 ?_
                refine Wv tG rfl rfl rfl (by omega) (iN cInt 1 (fun _ => rfl) 0 (by (simp only [dnL] at *; omega))) ?_
                refine zy3 ?_
                refine Wb 228 rfl (fun hg2 => ?_) (fun hg2 => ?_)
                ·have q2 : xat x 0 < 0 := oT hg2
                 iterate 5 refine z6 ?_
                 refine zs2 ?_
                 refine Wt rfl rfl ?_
                 refine W_region rfl ?_
                 refine zs1 ?_
                 refine zu2 ?_
                 refine Wf rfl (by rfl) ?_
                 refine Wj ?_
                 refine zu3 ?_
                 refine zp5 ?_
                 refine zs2 ?_
                 refine zR ?_
                 rw [my_set, pSetState, show stated v (xat x 0) (xat x 1) = -24 from by unfold stated; rw [if_pos q1, if_pos (.inl q2)], if_neg (by decide)]; rfl
                ·have q2 : ¬ xat x 0 < 0 := oF hg2
                 refine z1 ?_
                 refine Wv tG rfl rfl rfl (by omega) (iN cInt 1 (fun _ => rfl) 0 (by (simp only [dnL] at *; omega))) ?_
                 refine zs5 ?_
                 refine Wi rfl (fun hi19 => ?_) (fun hi19 => ?_)
                 ·have q3 : (memFetch v.mem (W64 (xat x 1 + 8))).1 ≤ xat x 0 := oT hi19
                  refine W_region rfl ?_
                  refine zs1 ?_
                  refine zu2 ?_
                  refine Wf rfl (by rfl) ?_
                  refine Wj ?_
                  refine zu3 ?_
                  refine zp5 ?_
                  refine zs2 ?_
                  refine zR ?_
                  rw [my_set, pSetState, show stated v (xat x 0) (xat x 1) = -24 from by unfold stated; rw [if_pos q1, if_pos (.inr q3)], if_neg (by decide)]; rfl
                 ·have q3 : ¬ (memFetch v.mem (W64 (xat x 1 + 8))).1 ≤ xat x 0 := oF hi19
                  refine Wj ?_
                  refine zu2 ?_
                  refine Wt rfl (by omega) ?_
                  refine W_drawU [1, 0, 0, 1, 0, 0, 1, 0, 0, 0, 0, 3, 0] [0, 1, 2, 3, 4, 5, 6, 7, 8, 9, 10, 11, 12] mG rfl (by kernel_rfl) ?_
                  refine z5 ?_
                  refine z3 ?_
                  refine Xi tG rfl rfl rfl rfl (fun _ => rfl) (by omega) (iN cInt 1 (fun _ => rfl) 0 (by (simp only [dnL] at *; omega))) ?_
                  refine z5 ?_
                  refine z3 ?_
                  refine Xi tG rfl rfl rfl rfl (fun _ => rfl) (by omega) (iN cInt 1 (fun _ => rfl) 0 (by (simp only [dnL] at *; omega))) ?_
                  refine z5 ?_
                  refine Xc rfl rfl rfl rfl (fun _ => dC rfl Tryz.func185 rfl rfl ((ref_Store v.mem (xat x 1) (xat x 0) hv.mem f1) _)) ?_
                  iterate 3 refine z3 ?_
                  refine WU_ev3 tG rfl rfl rfl rfl rfl trivial ?_
                  refine z3 ?_
                  refine WU_nil ?_
                  refine zu3 ?_
                  refine zp5 ?_
                  refine zs2 ?_
                  refine zR ?_
                  rw [my_set, pSetState, show stated v (xat x 0) (xat x 1) = 0 from by unfold stated; rw [if_pos q1, if_neg (fun h => by omega)], if_pos rfl]; rfl
               ·have q1 : ¬ (memFetch v.mem (W64 (xat x 1 + 8))).2 = 0 := by simpa using hg1
                iterate 11 refine z6 ?_
                refine zs1 ?_
                refine Wf rfl rfl ?_
                refine Wj ?_
                refine zu2 ?_
                refine Wf rfl (by omega) ?_
                refine Wj ?_
                refine zu3 ?_
                refine zp5 ?_
                refine zs2 ?_
                refine zR ?_
                rw [my_set, pSetState, show stated v (xat x 0) (xat x 1) = (memFetch v.mem (W64 ((xat x 1) + 8))).2 from by unfold stated; rw [if_neg q1], if_neg q1]; rfl
              ·have n13 := oF hi17
               refine zp1 ?_
               refine Wa 250 rfl (str_eql _ _) ?_
               refine zs1 ?_
               refine Wi rfl (fun hi20 => ?_) (fun hi20 => ?_)
               ·obtain rfl := oT hi20
                have h : takesN [65, 84, 45, 83, 84, 65, 84, 69] = 3 := by kernel_rfl
                have hl : 3 ≤ x.length := by omega
                refine Ws ?_
                refine W_drawU [1, 0, 0, 1, 0, 0, 0, 0, 0, 0, 0] [0, 1, 2, 3, 4, 5, 6, 7, 8, 9, 10] mG rfl (by kernel_rfl) ?_
                refine z5 ?_
                refine z3 ?_
                refine Xi tG rfl rfl rfl rfl (fun _ => rfl) (by omega) (iN cInt 1 (fun _ => rfl) 0 (by (simp only [dnL] at *; omega))) ?_
                refine z5 ?_
                refine z3 ?_
                refine Xc rfl rfl rfl rfl (fun _ => dC rfl Tryz.func183 rfl rfl ((ref_Fetch v.mem (W64 (xat x 2 + 8)) hb (w64_fit _)) _)) ?_
                iterate 5 refine z3 ?_
                refine WU_nil ?_
                refine Ws ?_
                refine zp3 ?_
                refine Wb 262 rfl (fun hg3 => ?_) (fun hg3 => ?_)
                ·have q1 : (memFetch v.mem (W64 (xat x 2 + 8))).2 = 0 := by simpa using hg3
                 refine z1 ?_
                 refine Wv tG rfl rfl rfl (by omega) (iN cInt 1 (fun _ => rfl) 0 (by (simp only [dnL] at *; omega))) ?_
                 refine zy3 ?_
                 refine Wb 267 rfl (fun hg4 => ?_) (fun hg4 => ?_)
                 ·have q2 : xat x 1 < 0 := oT hg4
                  iterate 5 refine z6 ?_
                  refine zs2 ?_
                  refine Wt rfl rfl ?_
                  refine W_region rfl ?_
                  refine zs1 ?_
                  refine zu2 ?_
                  refine Wf rfl (by rfl) ?_
                  refine Wj ?_
                  refine zu3 ?_
                  refine zp5 ?_
                  refine zs2 ?_
                  refine zR ?_
                  rw [my_at, pAtState, show stated v (xat x 1) (xat x 2) = -24 from by unfold stated; rw [if_pos q1, if_pos (.inl q2)], if_neg (by decide)]; rfl
                 ·have q2 : ¬ xat x 1 < 0 := oF hg4
                  refine z1 ?_
                  refine Wv tG rfl rfl rfl (by omega) (iN cInt 1 (fun _ => rfl) 0 (by (simp only [dnL] at *; omega))) ?_
                  refine zs5 ?_
                  refine Wi rfl (fun hi22 => ?_) (fun hi22 => ?_)
                  ·have q3 : (memFetch v.mem (W64 (xat x 2 + 8))).1 ≤ xat x 1 := oT hi22
                   refine W_region rfl ?_
                   refine zs1 ?_
                   refine zu2 ?_
                   refine Wf rfl (by rfl) ?_
                   refine Wj ?_
                   refine zu3 ?_
                   refine zp5 ?_
                   refine zs2 ?_
                   refine zR ?_
                   rw [my_at, pAtState, show stated v (xat x 1) (xat x 2) = -24 from by unfold stated; rw [if_pos q1, if_pos (.inr q3)], if_neg (by decide)]; rfl
                  ·have q3 : ¬ (memFetch v.mem (W64 (xat x 2 + 8))).1 ≤ xat x 1 := oF hi22
                   refine Wj ?_
                   refine zu2 ?_
                   refine Wt rfl (by omega) ?_
                   refine W_drawU [1, 0, 0, 1, 0, 0, 0, 1, 0, 0, 0, 0, 1, 0, 0, 0, 0, 3, 0] [0, 1, 2, 3, 4, 5, 6, 7, 8, 9, 10, 11, 12, 13, 14, 15, 16, 17, 18] mG rfl (by kernel_rfl) ?_
                   refine z5 ?_
                   refine z3 ?_
                   refine Xi tG rfl rfl rfl rfl (fun _ => rfl) (by omega) (iN cInt 1 (fun _ => rfl) 0 (by (simp only [dnL] at *; omega))) ?_
                   refine z5 ?_
                   iterate 2 refine z3 ?_
                   refine Xi tG rfl rfl rfl rfl (fun _ => rfl) (by omega) (iN cInt 1 (fun _ => rfl) 0 (by (simp only [dnL] at *; omega))) ?_
                   refine z5 ?_
                   iterate 3 refine z3 ?_
                   refine Xi tG rfl rfl rfl rfl (fun _ => rfl) (by omega) (iN cInt 1 (fun _ => rfl) 0 (by (simp only [dnL] at *; omega))) ?_
                   refine z5 ?_
                   refine Xc rfl rfl rfl rfl (fun _ => dC rfl Tryz.func185 rfl rfl ((ref_Store v.mem (W64 (W64 (xat x 2 + 16) + W64 (8 * xat x 1))) (xat x 0) hv.mem (w64_fit _)) _)) ?_
                   iterate 3 refine z3 ?_
                   refine WU_ev3 tG rfl rfl rfl rfl rfl trivial ?_
                   refine z3 ?_
                   refine WU_nil ?_
                   refine zu3 ?_
                   refine zp5 ?_
                   refine zs2 ?_
                   refine zR ?_
                   rw [my_at, pAtState, show stated v (xat x 1) (xat x 2) = 0 from by unfold stated; rw [if_pos q1, if_neg (fun h => by omega)], if_pos rfl]; rfl
                ·have q1 : ¬ (memFetch v.mem (W64 (xat x 2 + 8))).2 = 0 := by simpa using hg3
                 iterate 11 refine z6 ?_
                 refine zs1 ?_
                 refine Wf rfl rfl ?_
                 refine Wj ?_
                 refine zu2 ?_
                 refine Wf rfl (by omega) ?_
                 refine Wj ?_
                 refine zu3 ?_
                 refine zp5 ?_
                 refine zs2 ?_
                 refine zR ?_
                 rw [my_at, pAtState, show stated v (xat x 1) (xat x 2) = (memFetch v.mem (W64 ((xat x 2) + 8))).2 from by unfold stated; rw [if_neg q1], if_neg q1]; rfl
               ·have n14 := oF hi20
                refine zu5 ?_
                refine zR ?_
                rw [memory_0 v name x n0 n1 n2 n3 n4 n5 n6 n7 n8 n9 n10 n11 n12 n13 n14]; rfl
end Go.Proofs.YtphgdofmjpdhaaaGreat
namespace Go.Proofs.YtphgdofmjpdhaaaGreat
open Go.RowKit
set_option maxRecDepth 100000
set_option maxHeartbeats 4000000
theorem done_reckon (v : VVm) (n : Int) (name : Str) (x : List Int) (h1 : ¬ n ≤ 58) (h2 : ¬ n ≤ 72) (r : List Int × Int) (e0 : reckonS name x = some r) (k0 : PureC Tryz.prog 67 [str name, sq cInt x] (tRk (some r))) : PureC Tryz.prog 33 [eVm v, i64 n, str name, sq cInt x] (tRs (doneS v n name x)) := by
 refine pW tG (rs := [.cell 8 36, .tmp 9, .tmp 10]) Tryz.func33 rfl rfl rfl (by simp) (by simp) (fun B => ?_)
 refine zu4 ?_
 refine Ws ?_
 refine zu2 ?_
 refine Wf rfl (by exact decide_eq_false h1) ?_
 refine Wj ?_
 refine Ws ?_
 refine zu2 ?_
 refine Wf rfl (by exact decide_eq_false h2) ?_
 refine Wj ?_
 refine zp2 ?_
 refine Wc rfl rfl (dC rfl Tryz.func67 rfl rfl ((k0) _)) ?_
 refine zy5 ?_
 refine zs2 ?_
 refine Ws ?_
 refine zu1 ?_
 refine Wt rfl (by rfl) ?_
 refine zp5 ?_
 refine zs1 ?_
 refine zR ?_
 unfold doneS; simp only [if_neg h1, if_neg h2, e0]; rfl
theorem done_memory (v : VVm) (n : Int) (name : Str) (x : List Int) (h1 : ¬ n ≤ 58) (h2 : ¬ n ≤ 72) (e0 : reckonS name x = none) (k0 : PureC Tryz.prog 67 [str name, sq cInt x] (tRk none)) (r : VVm × List Int × Int) (e1 : memoryS v name x = some r) (k1 : PureC Tryz.prog 68 [eVm v, str name, sq cInt x] (tNm v (some r))) : PureC Tryz.prog 33 [eVm v, i64 n, str name, sq cInt x] (tRs (doneS v n name x)) := by
 refine pW tG (rs := [.cell 8 36, .tmp 9, .tmp 10]) Tryz.func33 rfl rfl rfl (by simp) (by simp) (fun B => ?_)
 refine zu4 ?_
 refine Ws ?_
 refine zu2 ?_
 refine Wf rfl (by exact decide_eq_false h1) ?_
 refine Wj ?_
 refine Ws ?_
 refine zu2 ?_
 refine Wf rfl (by exact decide_eq_false h2) ?_
 refine Wj ?_
 refine zp2 ?_
 refine Wc rfl rfl (dC rfl Tryz.func67 rfl rfl ((k0) _)) ?_
 refine zy5 ?_
 refine zs2 ?_
 refine Ws ?_
 refine zu1 ?_
 refine Wf rfl (by rfl) ?_
 refine Wj ?_
 refine zp3 ?_
 refine Wc rfl rfl (dC rfl Tryz.func68 rfl rfl ((k1) _)) ?_
 refine zy5 ?_
 refine zs5 ?_
 refine Ws ?_
 refine zu1 ?_
 refine Wt rfl (by rfl) ?_
 refine zp5 ?_
 refine zs1 ?_
 refine zR ?_
 unfold doneS; simp only [if_neg h1, if_neg h2, e0, e1]; rfl
theorem done_space (v : VVm) (n : Int) (name : Str) (x : List Int) (h1 : ¬ n ≤ 58) (h2 : ¬ n ≤ 72) (e0 : reckonS name x = none) (k0 : PureC Tryz.prog 67 [str name, sq cInt x] (tRk none)) (e1 : memoryS v name x = none) (k1 : PureC Tryz.prog 68 [eVm v, str name, sq cInt x] (tNm v none)) (r : VVm × List Int × Int) (e2 : spaceS v name x = some r) (k2 : PureC Tryz.prog 69 [eVm v, str name, sq cInt x] (tSp v (some r))) (hl : r.2.1 = []) : PureC Tryz.prog 33 [eVm v, i64 n, str name, sq cInt x] (tRs (doneS v n name x)) := by
 refine pW tG (rs := [.cell 8 36, .tmp 9, .tmp 10]) Tryz.func33 rfl rfl rfl (by simp) (by simp) (fun B => ?_)
 refine zu4 ?_
 refine Ws ?_
 refine zu2 ?_
 refine Wf rfl (by exact decide_eq_false h1) ?_
 refine Wj ?_
 refine Ws ?_
 refine zu2 ?_
 refine Wf rfl (by exact decide_eq_false h2) ?_
 refine Wj ?_
 refine zp2 ?_
 refine Wc rfl rfl (dC rfl Tryz.func67 rfl rfl ((k0) _)) ?_
 refine zy5 ?_
 refine zs2 ?_
 refine Ws ?_
 refine zu1 ?_
 refine Wf rfl (by rfl) ?_
 refine Wj ?_
 refine zp3 ?_
 refine Wc rfl rfl (dC rfl Tryz.func68 rfl rfl ((k1) _)) ?_
 refine zy5 ?_
 refine zs5 ?_
 refine Ws ?_
 refine zu1 ?_
 refine Wf rfl (by rfl) ?_
 refine Wj ?_
 refine zp3 ?_
 refine Wc rfl rfl (dC rfl Tryz.func69 rfl rfl ((k2) _)) ?_
 refine zy5 ?_
 refine zs3 ?_
 refine Ws ?_
 refine zu1 ?_
 refine Wt rfl (by rfl) ?_
 refine zu5 ?_
 refine zR ?_
 unfold doneS; simp only [if_neg h1, if_neg h2, e0, e1, e2]; rw [tRs, hl]; rfl
theorem done_text_bad (v : VVm) (n : Int) (name : Str) (x : List Int) (h1 : ¬ n ≤ 58) (h2 : ¬ n ≤ 72) (e0 : reckonS name x = none) (k0 : PureC Tryz.prog 67 [str name, sq cInt x] (tRk none)) (e1 : memoryS v name x = none) (k1 : PureC Tryz.prog 68 [eVm v, str name, sq cInt x] (tNm v none)) (e2 : spaceS v name x = none) (k2 : PureC Tryz.prog 69 [eVm v, str name, sq cInt x] (tSp v none)) (r : Str × Int) (e3 : textS v name x = some r) (k3 : PureC Tryz.prog 70 [eVm v, str name, sq cInt x] (tTx (some r))) (hz : ¬ r.2 = 0) : PureC Tryz.prog 33 [eVm v, i64 n, str name, sq cInt x] (tRs (doneS v n name x)) := by
 refine pW tG (rs := [.cell 8 36, .tmp 9, .tmp 10]) Tryz.func33 rfl rfl rfl (by simp) (by simp) (fun B => ?_)
 refine zu4 ?_
 refine Ws ?_
 refine zu2 ?_
 refine Wf rfl (by exact decide_eq_false h1) ?_
 refine Wj ?_
 refine Ws ?_
 refine zu2 ?_
 refine Wf rfl (by exact decide_eq_false h2) ?_
 refine Wj ?_
 refine zp2 ?_
 refine Wc rfl rfl (dC rfl Tryz.func67 rfl rfl ((k0) _)) ?_
 refine zy5 ?_
 refine zs2 ?_
 refine Ws ?_
 refine zu1 ?_
 refine Wf rfl (by rfl) ?_
 refine Wj ?_
 refine zp3 ?_
 refine Wc rfl rfl (dC rfl Tryz.func68 rfl rfl ((k1) _)) ?_
 refine zy5 ?_
 refine zs5 ?_
 refine Ws ?_
 refine zu1 ?_
 refine Wf rfl (by rfl) ?_
 refine Wj ?_
 refine zp3 ?_
 refine Wc rfl rfl (dC rfl Tryz.func69 rfl rfl ((k2) _)) ?_
 refine zy5 ?_
 refine zs3 ?_
 refine Ws ?_
 refine zu1 ?_
 refine Wf rfl (by rfl) ?_
 refine Wj ?_
 refine zp3 ?_
 refine Wc rfl rfl (dC rfl Tryz.func70 rfl rfl ((k3) _)) ?_
 refine zy5 ?_
 refine zs2 ?_
 refine Ws ?_
 refine zu1 ?_
 refine Wt rfl (by rfl) ?_
 refine Ws ?_
 refine zu2 ?_
 refine Wt rfl (by simpa using hz) ?_
 refine zu5 ?_
 refine zR ?_
 unfold doneS; simp only [if_neg h1, if_neg h2, e0, e1, e2, e3, pPrint, if_neg hz]; rfl
theorem done_text_ok (v : VVm) (n : Int) (name : Str) (x : List Int) (h1 : ¬ n ≤ 58) (h2 : ¬ n ≤ 72) (e0 : reckonS name x = none) (k0 : PureC Tryz.prog 67 [str name, sq cInt x] (tRk none)) (e1 : memoryS v name x = none) (k1 : PureC Tryz.prog 68 [eVm v, str name, sq cInt x] (tNm v none)) (e2 : spaceS v name x = none) (k2 : PureC Tryz.prog 69 [eVm v, str name, sq cInt x] (tSp v none)) (r : Str × Int) (e3 : textS v name x = some r) (k3 : PureC Tryz.prog 70 [eVm v, str name, sq cInt x] (tTx (some r))) (hz : r.2 = 0) (pr : PureC Tryz.prog 71 [eVm v, str r.1] (tVm (vmPrint v r.1))) : PureC Tryz.prog 33 [eVm v, i64 n, str name, sq cInt x] (tRs (doneS v n name x)) := by
 refine pW tG (rs := [.cell 8 36, .tmp 9, .tmp 10]) Tryz.func33 rfl rfl rfl (by simp) (by simp) (fun B => ?_)
 refine zu4 ?_
 refine Ws ?_
 refine zu2 ?_
 refine Wf rfl (by exact decide_eq_false h1) ?_
 refine Wj ?_
 refine Ws ?_
 refine zu2 ?_
 refine Wf rfl (by exact decide_eq_false h2) ?_
 refine Wj ?_
 refine zp2 ?_
 refine Wc rfl rfl (dC rfl Tryz.func67 rfl rfl ((k0) _)) ?_
 refine zy5 ?_
 refine zs2 ?_
 refine Ws ?_
 refine zu1 ?_
 refine Wf rfl (by rfl) ?_
 refine Wj ?_
 refine zp3 ?_
 refine Wc rfl rfl (dC rfl Tryz.func68 rfl rfl ((k1) _)) ?_
 refine zy5 ?_
 refine zs5 ?_
 refine Ws ?_
 refine zu1 ?_
 refine Wf rfl (by rfl) ?_
 refine Wj ?_
 refine zp3 ?_
 refine Wc rfl rfl (dC rfl Tryz.func69 rfl rfl ((k2) _)) ?_
 refine zy5 ?_
 refine zs3 ?_
 refine Ws ?_
 refine zu1 ?_
 refine Wf rfl (by rfl) ?_
 refine Wj ?_
 refine zp3 ?_
 refine Wc rfl rfl (dC rfl Tryz.func70 rfl rfl ((k3) _)) ?_
 refine zy5 ?_
 refine zs2 ?_
 refine Ws ?_
 refine zu1 ?_
 refine Wt rfl (by rfl) ?_
 refine Ws ?_
 refine zu2 ?_
 refine Wf rfl (by simpa using hz) ?_
 refine Wj ?_
 refine zp2 ?_
 refine Wc rfl rfl (dC rfl Tryz.func71 rfl rfl ((pr) _)) ?_
 refine zy5 ?_
 refine zs1 ?_
 refine zu5 ?_
 refine zR ?_
 unfold doneS; simp only [if_neg h1, if_neg h2, e0, e1, e2, e3, pPrint, if_pos hz]; rfl
theorem done_number (v : VVm) (n : Int) (name : Str) (x : List Int) (h1 : ¬ n ≤ 58) (h2 : ¬ n ≤ 72) (e0 : reckonS name x = none) (k0 : PureC Tryz.prog 67 [str name, sq cInt x] (tRk none)) (e1 : memoryS v name x = none) (k1 : PureC Tryz.prog 68 [eVm v, str name, sq cInt x] (tNm v none)) (e2 : spaceS v name x = none) (k2 : PureC Tryz.prog 69 [eVm v, str name, sq cInt x] (tSp v none)) (e3 : textS v name x = none) (k3 : PureC Tryz.prog 70 [eVm v, str name, sq cInt x] (tTx none)) (r : VVm × List Int × Int) (e4 : picsS v name x = some r) (k4 : PureC Tryz.prog 72 [eVm v, str name, sq cInt x] (tNm v (some r))) : PureC Tryz.prog 33 [eVm v, i64 n, str name, sq cInt x] (tRs (doneS v n name x)) := by
 refine pW tG (rs := [.cell 8 36, .tmp 9, .tmp 10]) Tryz.func33 rfl rfl rfl (by simp) (by simp) (fun B => ?_)
 refine zu4 ?_
 refine Ws ?_
 refine zu2 ?_
 refine Wf rfl (by exact decide_eq_false h1) ?_
 refine Wj ?_
 refine Ws ?_
 refine zu2 ?_
 refine Wf rfl (by exact decide_eq_false h2) ?_
 refine Wj ?_
 refine zp2 ?_
 refine Wc rfl rfl (dC rfl Tryz.func67 rfl rfl ((k0) _)) ?_
 refine zy5 ?_
 refine zs2 ?_
 refine Ws ?_
 refine zu1 ?_
 refine Wf rfl (by rfl) ?_
 refine Wj ?_
 refine zp3 ?_
 refine Wc rfl rfl (dC rfl Tryz.func68 rfl rfl ((k1) _)) ?_
 refine zy5 ?_
 refine zs5 ?_
 refine Ws ?_
 refine zu1 ?_
 refine Wf rfl (by rfl) ?_
 refine Wj ?_
 refine zp3 ?_
 refine Wc rfl rfl (dC rfl Tryz.func69 rfl rfl ((k2) _)) ?_
 refine zy5 ?_
 refine zs3 ?_
 refine Ws ?_
 refine zu1 ?_
 refine Wf rfl (by rfl) ?_
 refine Wj ?_
 refine zp3 ?_
 refine Wc rfl rfl (dC rfl Tryz.func70 rfl rfl ((k3) _)) ?_
 refine zy5 ?_
 refine zs2 ?_
 refine Ws ?_
 refine zu1 ?_
 refine Wf rfl (by rfl) ?_
 refine Wj ?_
 refine zp3 ?_
 refine Wc rfl rfl (dC rfl Tryz.func72 rfl rfl ((k4) _)) ?_
 refine zy5 ?_
 refine zs5 ?_
 refine Ws ?_
 refine zu1 ?_
 refine Wt rfl (by rfl) ?_
 refine zp5 ?_
 refine zs1 ?_
 refine zR ?_
 unfold doneS; simp only [if_neg h1, if_neg h2, e0, e1, e2, e3, e4]; rfl
theorem done_ask (v : VVm) (n : Int) (name : Str) (x : List Int) (h1 : ¬ n ≤ 58) (h2 : ¬ n ≤ 72) (e0 : reckonS name x = none) (k0 : PureC Tryz.prog 67 [str name, sq cInt x] (tRk none)) (e1 : memoryS v name x = none) (k1 : PureC Tryz.prog 68 [eVm v, str name, sq cInt x] (tNm v none)) (e2 : spaceS v name x = none) (k2 : PureC Tryz.prog 69 [eVm v, str name, sq cInt x] (tSp v none)) (e3 : textS v name x = none) (k3 : PureC Tryz.prog 70 [eVm v, str name, sq cInt x] (tTx none)) (e4 : picsS v name x = none) (k4 : PureC Tryz.prog 72 [eVm v, str name, sq cInt x] (tNm v none)) (r : VVm × List Int × Int) (e5 : askS2 v name x = some r) (k5 : PureC Tryz.prog 73 [eVm v, str name, sq cInt x] (tNm v (some r))) : PureC Tryz.prog 33 [eVm v, i64 n, str name, sq cInt x] (tRs (doneS v n name x)) := by
 refine pW tG (rs := [.cell 8 36, .tmp 9, .tmp 10]) Tryz.func33 rfl rfl rfl (by simp) (by simp) (fun B => ?_)
 refine zu4 ?_
 refine Ws ?_
 refine zu2 ?_
 refine Wf rfl (by exact decide_eq_false h1) ?_
 refine Wj ?_
 refine Ws ?_
 refine zu2 ?_
 refine Wf rfl (by exact decide_eq_false h2) ?_
 refine Wj ?_
 refine zp2 ?_
 refine Wc rfl rfl (dC rfl Tryz.func67 rfl rfl ((k0) _)) ?_
 refine zy5 ?_
 refine zs2 ?_
 refine Ws ?_
 refine zu1 ?_
 refine Wf rfl (by rfl) ?_
 refine Wj ?_
 refine zp3 ?_
 refine Wc rfl rfl (dC rfl Tryz.func68 rfl rfl ((k1) _)) ?_
 refine zy5 ?_
 refine zs5 ?_
 refine Ws ?_
 refine zu1 ?_
 refine Wf rfl (by rfl) ?_
 refine Wj ?_
 refine zp3 ?_
 refine Wc rfl rfl (dC rfl Tryz.func69 rfl rfl ((k2) _)) ?_
 refine zy5 ?_
 refine zs3 ?_
 refine Ws ?_
 refine zu1 ?_
 refine Wf rfl (by rfl) ?_
 refine Wj ?_
 refine zp3 ?_
 refine Wc rfl rfl (dC rfl Tryz.func70 rfl rfl ((k3) _)) ?_
 refine zy5 ?_
 refine zs2 ?_
 refine Ws ?_
 refine zu1 ?_
 refine Wf rfl (by rfl) ?_
 refine Wj ?_
 refine zp3 ?_
 refine Wc rfl rfl (dC rfl Tryz.func72 rfl rfl ((k4) _)) ?_
 refine zy5 ?_
 refine zs5 ?_
 refine Ws ?_
 refine zu1 ?_
 refine Wf rfl (by rfl) ?_
 refine Wj ?_
 refine zp3 ?_
 refine Wc rfl rfl (dC rfl Tryz.func73 rfl rfl ((k5) _)) ?_
 refine zy5 ?_
 refine zs5 ?_
 refine Ws ?_
 refine zu1 ?_
 refine Wt rfl (by rfl) ?_
 refine zp5 ?_
 refine zs1 ?_
 refine zR ?_
 unfold doneS; simp only [if_neg h1, if_neg h2, e0, e1, e2, e3, e4, e5]; rfl
theorem done_rest (v : VVm) (n : Int) (name : Str) (x : List Int) (h1 : ¬ n ≤ 58) (h2 : ¬ n ≤ 72) (e0 : reckonS name x = none) (k0 : PureC Tryz.prog 67 [str name, sq cInt x] (tRk none)) (e1 : memoryS v name x = none) (k1 : PureC Tryz.prog 68 [eVm v, str name, sq cInt x] (tNm v none)) (e2 : spaceS v name x = none) (k2 : PureC Tryz.prog 69 [eVm v, str name, sq cInt x] (tSp v none)) (e3 : textS v name x = none) (k3 : PureC Tryz.prog 70 [eVm v, str name, sq cInt x] (tTx none)) (e4 : picsS v name x = none) (k4 : PureC Tryz.prog 72 [eVm v, str name, sq cInt x] (tNm v none)) (e5 : askS2 v name x = none) (k5 : PureC Tryz.prog 73 [eVm v, str name, sq cInt x] (tNm v none)) (r : VVm × List Int × Int) (e6 : restS v name x = r) (k6 : PureC Tryz.prog 74 [eVm v, str name, sq cInt x] (tRs r)) : PureC Tryz.prog 33 [eVm v, i64 n, str name, sq cInt x] (tRs (doneS v n name x)) := by
 refine pW tG (rs := [.cell 8 36, .tmp 9, .tmp 10]) Tryz.func33 rfl rfl rfl (by simp) (by simp) (fun B => ?_)
 refine zu4 ?_
 refine Ws ?_
 refine zu2 ?_
 refine Wf rfl (by exact decide_eq_false h1) ?_
 refine Wj ?_
 refine Ws ?_
 refine zu2 ?_
 refine Wf rfl (by exact decide_eq_false h2) ?_
 refine Wj ?_
 refine zp2 ?_
 refine Wc rfl rfl (dC rfl Tryz.func67 rfl rfl ((k0) _)) ?_
 refine zy5 ?_
 refine zs2 ?_
 refine Ws ?_
 refine zu1 ?_
 refine Wf rfl (by rfl) ?_
 refine Wj ?_
 refine zp3 ?_
 refine Wc rfl rfl (dC rfl Tryz.func68 rfl rfl ((k1) _)) ?_
 refine zy5 ?_
 refine zs5 ?_
 refine Ws ?_
 refine zu1 ?_
 refine Wf rfl (by rfl) ?_
 refine Wj ?_
 refine zp3 ?_
 refine Wc rfl rfl (dC rfl Tryz.func69 rfl rfl ((k2) _)) ?_
 refine zy5 ?_
 refine zs3 ?_
 refine Ws ?_
 refine zu1 ?_
 refine Wf rfl (by rfl) ?_
 refine Wj ?_
 refine zp3 ?_
 refine Wc rfl rfl (dC rfl Tryz.func70 rfl rfl ((k3) _)) ?_
 refine zy5 ?_
 refine zs2 ?_
 refine Ws ?_
 refine zu1 ?_
 refine Wf rfl (by rfl) ?_
 refine Wj ?_
 refine zp3 ?_
 refine Wc rfl rfl (dC rfl Tryz.func72 rfl rfl ((k4) _)) ?_
 refine zy5 ?_
 refine zs5 ?_
 refine Ws ?_
 refine zu1 ?_
 refine Wf rfl (by rfl) ?_
 refine Wj ?_
 refine zp3 ?_
 refine Wc rfl rfl (dC rfl Tryz.func73 rfl rfl ((k5) _)) ?_
 refine zy5 ?_
 refine zs5 ?_
 refine Ws ?_
 refine zu1 ?_
 refine Wf rfl (by rfl) ?_
 refine Wj ?_
 refine zp3 ?_
 refine Wc rfl rfl (dC rfl Tryz.func74 rfl rfl ((k6) _)) ?_
 refine zy5 ?_
 refine zs1 ?_
 refine zR ?_
 unfold doneS; simp only [if_neg h1, if_neg h2, e0, e1, e2, e3, e4, e5, e6]; rfl
theorem done_two (v : VVm) (n : Int) (name : Str) (x : List Int) (h1 : n ≤ 58) (hl : 2 ≤ x.length) (f0 : Fit64 (xat x 0)) (f1 : Fit64 (xat x 1)) : PureC Tryz.prog 33 [eVm v, i64 n, str name, sq cInt x] (tRs (doneS v n name x)) := by
 refine pW tG (rs := [.cell 8 36, .tmp 9, .tmp 10]) Tryz.func33 rfl rfl rfl (by simp) (by simp) (fun B => ?_)
 refine zu4 ?_
 refine Ws ?_
 refine zu2 ?_
 refine Wt rfl (by exact decide_eq_true h1) ?_
 refine Ws ?_
 refine W_drawU [0, 0, 0, 1, 0, 0, 1, 0, 0, 0, 0, 0, 0, 0, 0] [0, 1, 2, 3, 4, 5, 6, 7, 8, 9, 10, 11, 12, 13, 14] mG rfl (by kernel_rfl) ?_
 iterate 2 refine z3 ?_
 refine Xi tG rfl rfl rfl rfl (fun _ => rfl) (by omega) (iN cInt 1 (fun _ => rfl) 0 (by (simp only [dnL] at *; omega))) ?_
 refine z5 ?_
 refine z3 ?_
 refine Xi tG rfl rfl rfl rfl (fun _ => rfl) (by omega) (iN cInt 1 (fun _ => rfl) 0 (by (simp only [dnL] at *; omega))) ?_
 refine z5 ?_
 refine Xc rfl rfl rfl rfl (fun _ => dC rfl Tryz.func65 rfl rfl ((ref_Two name (xat x 0) (xat x 1) f0 f1) _)) ?_
 iterate 7 refine z3 ?_
 refine WU_nil ?_
 refine zp3 ?_
 refine Wa 55 rfl (bsL cInt [_] rfl rfl) ?_
 refine zs4 ?_
 refine zR ?_
 unfold doneS; simp only [if_pos h1]; rfl
theorem done_one (v : VVm) (n : Int) (name : Str) (x : List Int) (h1 : ¬ n ≤ 58) (h2 : n ≤ 72) (hl : 1 ≤ x.length) (f0 : Fit64 (xat x 0)) : PureC Tryz.prog 33 [eVm v, i64 n, str name, sq cInt x] (tRs (doneS v n name x)) := by
 refine pW tG (rs := [.cell 8 36, .tmp 9, .tmp 10]) Tryz.func33 rfl rfl rfl (by simp) (by simp) (fun B => ?_)
 refine zu4 ?_
 refine Ws ?_
 refine zu2 ?_
 refine Wf rfl (by exact decide_eq_false h1) ?_
 refine Wj ?_
 refine Ws ?_
 refine zu2 ?_
 refine Wt rfl (by exact decide_eq_true h2) ?_
 refine zp2 ?_
 refine Wv tG rfl rfl rfl (by omega) (iN cInt 1 (fun _ => rfl) 0 (by (simp only [dnL] at *; omega))) ?_
 refine z1 ?_
 refine Wc rfl rfl (dC rfl Tryz.func66 rfl rfl ((ref_One name (xat x 0) f0) _)) ?_
 refine zs5 ?_
 refine zp3 ?_
 refine Wa 69 rfl (bsL cInt [_] rfl rfl) ?_
 refine zs3 ?_
 refine zR ?_
 unfold doneS; simp only [if_neg h1, if_pos h2]; rfl
end Go.Proofs.YtphgdofmjpdhaaaGreat
namespace Go.Proofs.YtphgdofmjpdhaaaGreat
open Go.RowKit
namespace V
section
variable {P : Program} {B : Nat → Nat → Prop} {n : Nat} {ops : Array Oper} {cl : Nat → Nat} {md : Region.Mode}
theorem anyU_first2 {Q : (Nat → PV) → List Ob → Prop} {i : Nat} {oi : Oper} {x : PV} (hi : ops[i]? = some oi) (D : List Nat) (hDi : i ∈ D) (hD : ∀ j ∈ D, j ≠ i → ∃ oj e, ops[j]? = some oj ∧ e ∈ oj.after ∧ Region.binds md e = true ∧ e.on ∈ D) : ∀ (fuel : Nat) (listed : Array Bool) (T : Nat → PV) (H Hi : List Ob),
  (∀ j ∈ D, listed.getD j true = false) →
  (∀ j oj, ops[j]? = some oj → j ∉ D → listed.getD j true = false → oi.apart ops oj = true ∧ compatU (cl i) (cl j) = true) →
  i ∈ Region.ready md ops listed → YU P B ops oi T H x Hi → FU P B ops (cl i) oi T H x Hi → anyU P B md ops cl Q fuel (listed.setIfInBounds i true) (updD oi.dst x T) Hi → anyU P B md ops cl Q (fuel + 1) listed T H := by
 intro fuel
 have self : ∀ (fuel : Nat) (listed : Array Bool) (T : Nat → PV) (H Hi : List Ob), YU P B ops oi T H x Hi → FU P B ops (cl i) oi T H x Hi → anyU P B md ops cl Q fuel (listed.setIfInBounds i true) (updD oi.dst x T) Hi → qU P B ops cl i (anyU P B md ops cl Q fuel (listed.setIfInBounds i true)) T H := by
  intro fuel listed T H Hi hy hf h
  unfold qU
  simp only [hi]
  exact ⟨x, Hi, hy, hf, h⟩
 induction fuel with
 | zero =>
  intro listed T H Hi _ _ hr hy hf h
  refine ⟨fun h0 => (by rw [h0] at hr; cases hr), fun j hj => ?_⟩
  by_cases hji : j = i
  ·subst hji; exact self 0 listed T H Hi hy hf h
  ·have := ready_mono hj hji
   rw [h.1] at this
   cases this
 | succ fuel ih =>
  intro listed T H Hi hun0 hfree hr hy hf h
  refine ⟨fun h0 => (by rw [h0] at hr; cases hr), fun j hj => ?_⟩
  by_cases hji : j = i
  ·subst hji; exact self (fuel + 1) listed T H Hi hy hf h
  ·have h1 := h.2 j (ready_mono hj hji)
   obtain ⟨hjun, oj, hoj, hall⟩ := mem_ready.1 hj
   have hnot : j ∉ D := fun hjD => by
    obtain ⟨oj2, e, k1, k2, k3, k4⟩ := hD j hjD hji
    rw [hoj] at k1
    obtain rfl := Option.some.inj k1
    have a1 := hall e k2 k3
    have a0 := hun0 e.on k4
    rcases Nat.lt_or_ge e.on listed.size with h' | h'
    ·simp [h'] at a0 a1; rw [a0] at a1; cases a1
    ·simp [Array.getElem?_eq_none h'] at a1
   obtain ⟨hap, hcp⟩ := hfree j oj hoj hnot hjun
   obtain ⟨l1, l2, l3⟩ := apart_looks hap
   unfold qU at h1 ⊢
   simp only [hoj] at h1 ⊢
   obtain ⟨y, Hj, hyj, hfj, hk⟩ := h1
   obtain ⟨H', k1, k2, k3, k4⟩ := swapU hcp (fun t ht => updD_look (l1 t ht)) (fun t ht => updD_look (l2 t ht)) hy hf hyj hfj
   refine ⟨y, H', k1, k2, ih (listed.setIfInBounds j true) _ H' Hj (fun k hk => ?_) (fun k ok hk hki hun => ?_) (ready_mono hr (Ne.symm hji)) k3 k4 ?_⟩
   ·rw [getD_set_ne true (by rintro rfl; exact hnot hk)]; exact hun0 k hk
   ·refine hfree k ok hk hki ?_
    by_cases hjk : j = k
    ·subst hjk; exact hjun
    ·rw [getD_set_ne true hjk] at hun; exact hun
   ·rw [Array.setIfInBounds_comm _ _ hji, updD_comm _ _ _ l3]
    exact hk
def depsU (md : Region.Mode) (ops : Array Oper) : Nat → List Nat → List Nat
 | 0, D => D
 | k + 1, D => depsU md ops k (D ++ ((ops.toList.zipIdx.filter fun q => !D.contains q.2 && (q.1.after.any fun e => Region.binds md e && D.contains e.on)).map (·.2)))
def freeD (md : Region.Mode) (ops : Array Oper) (cl : Nat → Nat) (listed : Array Bool) (i : Nat) (oi : Oper) (D : List Nat) : Bool :=
 D.contains i && (D.all fun j => Nat.beq j i || (match ops[j]? with | some oj => oj.after.any fun e => Region.binds md e && D.contains e.on | none => false)) && (D.all fun j => !listed.getD j true) &&
  ops.toList.zipIdx.all fun q => D.contains q.2 || listed.getD q.2 true || (oi.apart ops q.1 && compatU (cl i) (cl q.2))
def lexD (md : Region.Mode) (ops : Array Oper) (cl : Nat → Nat) : List Nat → Array Bool → Bool
 | [], listed => (Region.ready md ops listed).isEmpty
 | i :: l, listed => (Region.ready md ops listed).contains i && (match ops[i]? with | some oi => freeD md ops cl listed i oi (depsU md ops 6 [i]) | none => false) && lexD md ops cl l (listed.setIfInBounds i true)
theorem anyU_lexD {Q : (Nat → PV) → List Ob → Prop} : ∀ (l : List Nat) (listed : Array Bool) (T : Nat → PV) (H : List Ob), lexD md ops cl l listed = true → WU P B n ops cl l T H Q → anyU P B md ops cl Q l.length listed T H
 | [], listed, T, H, hB, h => ⟨by simpa [lexD] using hB, h⟩
 | i :: l, listed, T, H, hB, h => by
  simp only [lexD, Bool.and_eq_true] at hB
  obtain ⟨⟨hr, hf⟩, hB'⟩ := hB
  obtain ⟨o, ho, x, H', hy, hfu, hK⟩ := h
  rw [ho] at hf
  simp only [freeD, Bool.and_eq_true] at hf
  obtain ⟨⟨⟨f1, f2⟩, f3⟩, f4⟩ := hf
  refine anyU_first2 ho (depsU md ops 6 [i]) (by simpa using f1) (fun j hj hji => ?_) l.length listed T H H' (fun j hj => ?_) (fun j oj hj hjD hun => ?_) (by simpa using hr) hy hfu (anyU_lexD l _ _ _ hB' hK)
  ·have := List.all_eq_true.1 f2 j hj
   rw [Bool.or_eq_true, Nat.beq_eq] at this
   rcases this with h | h
   ·exact absurd h hji
   ·cases hoj : ops[j]? with
    | none => rw [hoj] at h; cases h
    | some oj =>
     rw [hoj] at h
     obtain ⟨e, he, h3⟩ := Array.any_eq_true'.1 h
     rw [Bool.and_eq_true] at h3
     exact ⟨oj, e, rfl, he, h3.1, by simpa using h3.2⟩
  ·have := List.all_eq_true.1 f3 j hj
   simpa using this
  ·have h1 := List.all_eq_true.1 f4 (oj, j) (zip_get (by rw [Array.getElem?_toList]; exact hj))
   simp only [Bool.or_eq_true, Bool.and_eq_true] at h1
   rcases h1 with (h1 | h1) | h1
   ·exact absurd (by simpa using h1) hjD
   ·rw [hun] at h1; cases h1
   ·exact h1
def lexDB (md : Region.Mode) (ops : Array Oper) (cl : List Nat) (ord : List Nat) : Bool := Nat.beq ord.length ops.size && lexD md ops (clOf cl) ord (Array.replicate ops.size false)
variable {T : Nat → PV} {H : List Ob} {Q : Exit → (Nat → PV) → List Ob → Prop}
theorem W_drawD {id : Nat} (cl ord : List Nat) (hm : P.follows .mixedOrders = true) (hall : dstsOk n ops = true) (hB : lexDB .any ops cl ord = true) (h : WU P B n ops (clOf cl) ord T H (fun T' H' => Q .normal T' H')) : W P B n (.region id ops true) T H Q := by
 intro σ w a g
 simp only [lexDB, Bool.and_eq_true, Nat.beq_eq] at hB
 refine wp_region_any hm ?_
 have hd : Grows w { w with drawn := w.drawn + 1 } := Grows.drew w
 obtain ⟨s', st⟩ := grow_sim g.sim hd
 have hA := anyU_lexD (P := P) (B := B) (n := n) (md := .any) ord (Array.replicate ops.size false) T H hB.2 h
 rw [hB.1] at hA
 exact anyU_sound (P := P) (md := .any) hall (H0 := H) (σ0 := σ) (w0 := w) (Q' := Post B n H σ w Q) (fun T' H' σ' w' a' g' st' hq => ⟨T', H', σ', hq, g', st'⟩) ops.size _ T H σ _ a ⟨s', fun i => (g.rep i).mono st.le, g.size, g.defers⟩ st hA
theorem WU_does2 {o : Oper} {E : List Ob} {x : PV} {i : Nat} {l : List Nat} {d : Option Tmp} {K : (Nat → PV) → List Ob → Prop} (h0 : ops[i]? = some o) (hc : cl i = 2) (hd : nfD n o.dst = some d) (hw : wantedA ops T o = some true) (h : Does P B o T H x (H ++ E)) (k : WU P B n ops cl l (updD d x T) (H ++ E) K) : WU P B n ops cl (i :: l) T H K :=
 ⟨o, h0, x, H ++ E, .inl ⟨hw, .inl h⟩, by rw [hc]; exact ⟨E, rfl⟩, (nfD_eq hd).1 ▸ k⟩
end
end V
end Go.Proofs.YtphgdofmjpdhaaaGreat
