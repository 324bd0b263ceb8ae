import Derived.Lib.AppendZerosOnto
import Derived.Lib.SliceRun
import Derived.Lib.Walk
import Derived.Test.YtphgdofmjpdhaaaGreatPk3
set_option linter.unusedVariables false
set_option linter.unusedSimpArgs false
namespace Go.Proofs.YtphgdofmjpdhaaaGreat
open Go.RowKit
set_option maxRecDepth 100000
set_option maxHeartbeats 4000000
inductive Op1 where
 | abs
 | neg
 | inv
 | inc
 | dec
 | dbl
 | half
 | cells
 | algn
 | cellp
 | eq0
 | lt0
 | ne0
 | gt0
deriving DecidableEq
def names1 : List (Str × Op1) := [([65, 66, 83], .abs), ([78, 69, 71, 65, 84, 69], .neg), ([73, 78, 86, 69, 82, 84], .inv), ([49, 43], .inc), ([49, 45], .dec), ([50, 42], .dbl), ([50, 47], .half), ([67, 69, 76, 76, 83], .cells), ([65, 76, 73, 71, 78, 69, 68], .algn), ([67, 69, 76, 76, 43], .cellp), ([48, 61], .eq0), ([48, 60], .lt0), ([48, 60, 62], .ne0), ([48, 62], .gt0)]
def op1 (s : Str) : Option Op1 := names1.lookup s
def flagS (b : Bool) : Int := if b then -1 else 0
def one (o : Op1) (a : Int) : Int := match o with
 | .abs => if 0 ≤ a then a else wrap64 (-a)
 | .neg => wrap64 (-a)
 | .inv => -1 - a
 | .inc => wrap64 (a + 1)
 | .dec => wrap64 (a - 1)
 | .dbl => wrap64 (a + a)
 | .half => a / 2
 | .cells => wrap64 (a * 8)
 | .algn => if a % 8 = 0 then a else wrap64 (a - a % 8 + 8)
 | .cellp => wrap64 (a + 8)
 | .eq0 => flagS (decide (a = 0))
 | .lt0 => flagS (decide (a < 0))
 | .ne0 => flagS (!decide (a = 0))
 | .gt0 => flagS (decide (0 < a))
def oneS (name : Str) (a : Int) : Int × Bool := match op1 name with
 | some o => (one o a, true)
 | none => (0, false)
def tOne (r : Int × Bool) : PV := tup2 (i64 r.1) (boo r.2)
@[simp] theorem flat_tOne (r : Int × Bool) : Flat (tOne r) := by simp [tOne]
theorem oneS_of {name : Str} {o : Op1} {a : Int} (h : op1 name = some o) : oneS name a = (one o a, true) := by unfold oneS; rw [h]
theorem oneS_no {name : Str} {a : Int} (h : op1 name = none) : oneS name a = (0, false) := by unfold oneS; rw [h]
theorem op1_none {s : Str} (h0 : s ≠ [65, 66, 83]) (h1 : s ≠ [78, 69, 71, 65, 84, 69]) (h2 : s ≠ [73, 78, 86, 69, 82, 84]) (h3 : s ≠ [49, 43]) (h4 : s ≠ [49, 45]) (h5 : s ≠ [50, 42]) (h6 : s ≠ [50, 47]) (h7 : s ≠ [67, 69, 76, 76, 83]) (h8 : s ≠ [65, 76, 73, 71, 78, 69, 68]) (h9 : s ≠ [67, 69, 76, 76, 43]) (h10 : s ≠ [48, 61]) (h11 : s ≠ [48, 60]) (h12 : s ≠ [48, 60, 62]) (h13 : s ≠ [48, 62]) : op1 s = none := by
 unfold op1 names1
 simp only [List.lookup]
 simp [beq_eq_false_iff_ne.2 h0, beq_eq_false_iff_ne.2 h1, beq_eq_false_iff_ne.2 h2, beq_eq_false_iff_ne.2 h3, beq_eq_false_iff_ne.2 h4, beq_eq_false_iff_ne.2 h5, beq_eq_false_iff_ne.2 h6, beq_eq_false_iff_ne.2 h7, beq_eq_false_iff_ne.2 h8, beq_eq_false_iff_ne.2 h9, beq_eq_false_iff_ne.2 h10, beq_eq_false_iff_ne.2 h11, beq_eq_false_iff_ne.2 h12, beq_eq_false_iff_ne.2 h13]
theorem ar_neg (a : Int) : wrap64 (0 - a) = wrap64 (-a) := congrArg wrap64 (by omega)
theorem ar_inv {a : Int} (ha : -9223372036854775808 ≤ a ∧ a ≤ 9223372036854775807) : wrap64 ((BitVec.ofInt 64 (-1) ^^^ BitVec.ofInt 64 a).toNat : Int) = -1 - a := by
 have h1 : BitVec.ofInt 64 (-1) = BitVec.allOnes 64 := by decide
 rw [h1, BitVec.allOnes_xor, BitVec.toNat_not, BitVec.toNat_ofInt]
 have h2 : ((2 ^ 64 : Nat) : Int) = 18446744073709551616 := by decide
 have h3 : (2 ^ 64 : Nat) = 18446744073709551616 := by decide
 rw [h2, h3]
 unfold wrap64
 omega
theorem ar_dbl (a : Int) : wrap64 (a * 2 ^ min (Int.toNat 1) IntKind.i64.bits) = wrap64 (a + a) := by
 have : (2 : Int) ^ min (Int.toNat 1) IntKind.i64.bits = 2 := rfl
 rw [this]; exact congrArg wrap64 (by omega)
theorem ar_half (a : Int) : a.fdiv (2 ^ min (Int.toNat 1) IntKind.i64.bits) = a / 2 := by
 have : (2 : Int) ^ min (Int.toNat 1) IntKind.i64.bits = 2 := rfl
 rw [this, Int.fdiv_eq_ediv_of_nonneg _ (by omega)]
theorem bv_split (x m : BitVec 64) : (x &&& m) + (x &&& ~~~ m) = x := by
 have h1 : (x &&& m) &&& (x &&& ~~~ m) = 0#64 := by
  ext i hi
  simp only [BitVec.getElem_and, BitVec.getElem_not, BitVec.getElem_zero]
  cases x[i] <;> cases m[i] <;> rfl
 rw [BitVec.add_eq_or_of_and_eq_zero _ _ h1]
 ext i hi
 simp only [BitVec.getElem_or, BitVec.getElem_and, BitVec.getElem_not]
 cases x[i] <;> cases m[i] <;> rfl
theorem bv_low (x : BitVec 64) : (x &&& ~~~ 7#64).toNat = x.toNat - x.toNat % 8 := by
 have h2 := bv_split x 7#64
 have h4 := congrArg BitVec.toNat h2
 rw [BitVec.toNat_add] at h4
 have h5 : (x &&& 7#64).toNat = x.toNat % 8 := by rw [BitVec.toNat_and]; exact Nat.and_two_pow_sub_one_eq_mod x.toNat 3
 have h6 : (x &&& ~~~ 7#64).toNat ≤ x.toNat := by rw [BitVec.toNat_and]; exact Nat.and_le_left
 have h7 : (2 ^ 64 : Nat) = 18446744073709551616 := by decide
 have h8 := x.isLt
 rw [h5] at h4
 rw [h7] at h4 h8
 omega
theorem ar_algn {a : Int} (ha : -9223372036854775808 ≤ a ∧ a ≤ 9223372036854775807) : wrap64 ((BitVec.ofInt 64 (IntKind.i64.wrap (IntKind.i64.wrap (a + 8) - 1)) &&& ~~~ BitVec.ofInt 64 7).toNat : Int) = if a % 8 = 0 then a else wrap64 (a - a % 8 + 8) := by
 have h1 : BitVec.ofInt 64 7 = 7#64 := by decide
 rw [h1, bv_low, BitVec.toNat_ofInt]
 have h2 : ((2 ^ 64 : Nat) : Int) = 18446744073709551616 := by decide
 rw [h2, i64w, i64w]
 unfold wrap64
 split <;> omega
theorem pv_one {x y : Int} (h : x = y) : tup2 (.val (.int .i64 x)) (.val (.bool true)) = tOne (y, true) := by rw [h]; rfl
theorem alu_flag (b : Bool) : PureC Tryz.prog 207 [boo b] (i64 (flagS b)) := by
 refine pW tG (rs := [.tmp 2]) Tryz.func207 rfl rfl rfl (by simp) (by simp) (fun B => ?_)
 refine zu1 ?_
 refine Ws ?_
 refine zu1 ?_
 refine Wi rfl (fun hi1 => ?_) (fun hi1 => ?_)
 ·refine zu1 ?_
  refine zR ?_
  simp_all [flagS, i64]
 ·refine Wj ?_
  refine zu1 ?_
  refine zR ?_
  simp_all [flagS, i64]
theorem alu_asked1 (b : Bool) : PureC Tryz.prog 209 [boo b] (tOne (flagS b, true)) := by
 refine pW tG (rs := [.tmp 2, .tmp 3]) Tryz.func209 rfl rfl rfl (by simp) (by simp) (fun B => ?_)
 refine zu2 ?_
 refine zp1 ?_
 refine Wc rfl rfl (dC rfl Tryz.func207 rfl rfl ((alu_flag b) _)) ?_
 refine zs2 ?_
 refine zR ?_
 rfl
def askS (name : Str) (a : Int) : Int × Bool := if name = [48, 61] then (one .eq0 a, true) else if name = [48, 60] then (one .lt0 a, true) else if name = [48, 60, 62] then (one .ne0 a, true) else if name = [48, 62] then (one .gt0 a, true) else (0, false)
theorem askS_one {s : Str} {a : Int} (h0 : s ≠ [65, 66, 83]) (h1 : s ≠ [78, 69, 71, 65, 84, 69]) (h2 : s ≠ [73, 78, 86, 69, 82, 84]) (h3 : s ≠ [49, 43]) (h4 : s ≠ [49, 45]) (h5 : s ≠ [50, 42]) (h6 : s ≠ [50, 47]) (h7 : s ≠ [67, 69, 76, 76, 83]) (h8 : s ≠ [65, 76, 73, 71, 78, 69, 68]) (h9 : s ≠ [67, 69, 76, 76, 43]) : askS s a = oneS s a := by
 unfold askS
 by_cases h10 : s = [48, 61]
 ·subst h10; rfl
 rw [if_neg h10]
 by_cases h11 : s = [48, 60]
 ·subst h11; rfl
 rw [if_neg h11]
 by_cases h12 : s = [48, 60, 62]
 ·subst h12; rfl
 rw [if_neg h12]
 by_cases h13 : s = [48, 62]
 ·subst h13; rfl
 rw [if_neg h13]
 exact (oneS_no (op1_none h0 h1 h2 h3 h4 h5 h6 h7 h8 h9 h10 h11 h12 h13)).symm
theorem alu_asked (name : Str) (a : Int) : PureC Tryz.prog 84 [str name, i64 a] (tOne (askS name a)) := by
 refine pW tG (rs := [.tmp 4, .tmp 5]) Tryz.func84 rfl rfl rfl (by simp) (by simp) (fun B => ?_)
 refine zu2 ?_
 refine zu1 ?_
 refine Ws ?_
 refine zu1 ?_
 refine Wl ?_
 refine zp1 ?_
 refine Wa 9 rfl (str_eql _ _) ?_
 refine zs1 ?_
 refine Wi rfl (fun hi1 => ?_) (fun hi1 => ?_)
 ·obtain rfl := oT hi1
  refine zp3 ?_
  refine Wc rfl rfl (doesCWv rfl rfl Tryz.func209 rfl rfl (alu_asked1 _ _)) ?_
  refine zs4 ?_
  refine zR ?_
  exact congrArg tOne (Prod.ext (congrArg flagS (by rfl)) rfl)
 ·refine zp1 ?_
  refine Wa 17 rfl (str_eql _ _) ?_
  refine zs1 ?_
  refine Wi rfl (fun hi2 => ?_) (fun hi2 => ?_)
  ·obtain rfl := oT hi2
   refine zp3 ?_
   refine Wc rfl rfl (doesCWv rfl rfl Tryz.func209 rfl rfl (alu_asked1 _ _)) ?_
   refine zs4 ?_
   refine zR ?_
   exact congrArg tOne (Prod.ext (congrArg flagS (by rfl)) rfl)
  ·refine zp1 ?_
   refine Wa 25 rfl (str_eql _ _) ?_
   refine zs1 ?_
   refine Wi rfl (fun hi3 => ?_) (fun hi3 => ?_)
   ·obtain rfl := oT hi3
    refine zp3 ?_
    refine Wc rfl rfl (doesCWv rfl rfl Tryz.func209 rfl rfl (alu_asked1 _ _)) ?_
    refine zs4 ?_
    refine zR ?_
    exact congrArg tOne (Prod.ext (congrArg flagS (by rfl)) rfl)
   ·refine zp1 ?_
    refine Wa 33 rfl (str_eql _ _) ?_
    refine zs1 ?_
    refine Wi rfl (fun hi4 => ?_) (fun hi4 => ?_)
    ·obtain rfl := oT hi4
     refine zp3 ?_
     refine Wc rfl rfl (doesCWv rfl rfl Tryz.func209 rfl rfl (alu_asked1 _ _)) ?_
     refine zs4 ?_
     refine zR ?_
     exact congrArg tOne (Prod.ext (congrArg flagS (by rfl)) rfl)
    ·refine Wj ?_
     refine zu2 ?_
     refine zR ?_
     have h1 := oF hi1
     have h2 := oF hi2
     have h3 := oF hi3
     have h4 := oF hi4
     rw [askS, if_neg h1, if_neg h2, if_neg h3, if_neg h4]; rfl
theorem alu_One (name : Str) (a : Int) (ha : -9223372036854775808 ≤ a ∧ a ≤ 9223372036854775807) : PureC Tryz.prog 54 [str name, i64 a] (tOne (oneS name a)) := by
 refine pW tG (rs := [.tmp 4, .tmp 5]) Tryz.func54 rfl rfl rfl (by simp) (by simp) (fun B => ?_)
 refine zu2 ?_
 refine Ws ?_
 refine zu1 ?_
 refine Wl ?_
 refine Ws ?_
 refine Wl ?_
 refine Ws ?_
 refine Wl ?_
 refine Ws ?_
 refine Wl ?_
 refine Ws ?_
 refine Wl ?_
 refine Ws ?_
 refine Wl ?_
 refine Ws ?_
 refine Wl ?_
 refine Ws ?_
 refine Wl ?_
 refine Ws ?_
 refine Wl ?_
 refine Ws ?_
 refine Wl ?_
 refine Ws ?_
 refine Wl ?_
 iterate 2 refine Ws ?_
 refine zp1 ?_
 refine Wa 8 rfl (str_eql _ _) ?_
 refine zs1 ?_
 refine Wi rfl (fun hi1 => ?_) (fun hi1 => ?_)
 ·obtain rfl := oT hi1
  refine W_exit ?_
  refine zu2 ?_
  refine Wi rfl (fun hi2 => ?_) (fun hi2 => ?_)
  ·refine zu3 ?_
   refine zR ?_
   refine (pv_one (y := one .abs a) ?_).trans (congrArg tOne (oneS_of (o := .abs) rfl).symm)
   simp only [one]; (((try simp only [dnL] at *); rw [if_pos (by omega)]))
  ·refine Wj ?_
   refine Ws ?_
   refine zu4 ?_
   refine zR ?_
   refine (pv_one (y := one .abs a) ?_).trans (congrArg tOne (oneS_of (o := .abs) rfl).symm)
   simp only [one]; (((try simp only [dnL] at *); rw [if_neg (by omega), i64w]; exact ar_neg a))
 ·refine Wj ?_
  refine Ws ?_
  refine zp1 ?_
  refine Wa 10 rfl (str_eql _ _) ?_
  refine zs1 ?_
  refine Wi rfl (fun hi3 => ?_) (fun hi3 => ?_)
  ·obtain rfl := oT hi3
   refine W_exit ?_
   refine Ws ?_
   refine zu4 ?_
   refine zR ?_
   refine (pv_one (y := one .neg a) ?_).trans (congrArg tOne (oneS_of (o := .neg) rfl).symm)
   simp only [one]; ((rw [i64w]; exact ar_neg a))
  ·refine Wj ?_
   refine Ws ?_
   refine zp1 ?_
   refine Wa 12 rfl (str_eql _ _) ?_
   refine zs1 ?_
   refine Wi rfl (fun hi4 => ?_) (fun hi4 => ?_)
   ·obtain rfl := oT hi4
    refine W_exit ?_
    refine Ws ?_
    refine zu4 ?_
    refine zR ?_
    refine (pv_one (y := one .inv a) ?_).trans (congrArg tOne (oneS_of (o := .inv) rfl).symm)
    simp only [one]; ((rw [i64w]; exact ar_inv ha))
   ·refine Wj ?_
    refine Ws ?_
    refine zp1 ?_
    refine Wa 14 rfl (str_eql _ _) ?_
    refine zs1 ?_
    refine Wi rfl (fun hi5 => ?_) (fun hi5 => ?_)
    ·obtain rfl := oT hi5
     refine W_exit ?_
     refine Ws ?_
     refine zu4 ?_
     refine zR ?_
     refine (pv_one (y := one .inc a) ?_).trans (congrArg tOne (oneS_of (o := .inc) rfl).symm)
     simp only [one]; ((rw [i64w]; done))
    ·refine Wj ?_
     refine Ws ?_
     refine zp1 ?_
     refine Wa 16 rfl (str_eql _ _) ?_
     refine zs1 ?_
     refine Wi rfl (fun hi6 => ?_) (fun hi6 => ?_)
     ·obtain rfl := oT hi6
      refine W_exit ?_
      refine Ws ?_
      refine zu4 ?_
      refine zR ?_
      refine (pv_one (y := one .dec a) ?_).trans (congrArg tOne (oneS_of (o := .dec) rfl).symm)
      simp only [one]; ((rw [i64w]; done))
     ·refine Wj ?_
      refine Ws ?_
      refine zp1 ?_
      refine Wa 18 rfl (str_eql _ _) ?_
      refine zs1 ?_
      refine Wi rfl (fun hi7 => ?_) (fun hi7 => ?_)
      ·obtain rfl := oT hi7
       refine W_exit ?_
       refine Ws ?_
       refine zu4 ?_
       refine zR ?_
       refine (pv_one (y := one .dbl a) ?_).trans (congrArg tOne (oneS_of (o := .dbl) rfl).symm)
       simp only [one]; ((rw [i64w]; exact ar_dbl a))
      ·refine Wj ?_
       refine Ws ?_
       refine zp1 ?_
       refine Wa 20 rfl (str_eql _ _) ?_
       refine zs1 ?_
       refine Wi rfl (fun hi8 => ?_) (fun hi8 => ?_)
       ·obtain rfl := oT hi8
        refine W_exit ?_
        refine Ws ?_
        refine zu4 ?_
        refine zR ?_
        refine (pv_one (y := one .half a) ?_).trans (congrArg tOne (oneS_of (o := .half) rfl).symm)
        simp only [one]; exact ar_half a
       ·refine Wj ?_
        refine Ws ?_
        refine zp1 ?_
        refine Wa 22 rfl (str_eql _ _) ?_
        refine zs1 ?_
        refine Wi rfl (fun hi9 => ?_) (fun hi9 => ?_)
        ·obtain rfl := oT hi9
         refine W_exit ?_
         refine Ws ?_
         refine zu4 ?_
         refine zR ?_
         refine (pv_one (y := one .cells a) ?_).trans (congrArg tOne (oneS_of (o := .cells) rfl).symm)
         simp only [one]; ((rw [i64w]; done))
        ·refine Wj ?_
         refine Ws ?_
         refine zp1 ?_
         refine Wa 24 rfl (str_eql _ _) ?_
         refine zs1 ?_
         refine Wi rfl (fun hi10 => ?_) (fun hi10 => ?_)
         ·obtain rfl := oT hi10
          refine W_exit ?_
          refine Ws ?_
          refine zp5 ?_
          refine zs1 ?_
          refine zR ?_
          refine (pv_one (y := one .algn a) ?_).trans (congrArg tOne (oneS_of (o := .algn) rfl).symm)
          simp only [one]; ((rw [i64w]; exact ar_algn ha))
         ·refine Wj ?_
          refine zp1 ?_
          refine Wa 26 rfl (str_eql _ _) ?_
          refine zs1 ?_
          refine Wi rfl (fun hi11 => ?_) (fun hi11 => ?_)
          ·obtain rfl := oT hi11
           refine W_exit ?_
           refine Ws ?_
           refine zu4 ?_
           refine zR ?_
           refine (pv_one (y := one .cellp a) ?_).trans (congrArg tOne (oneS_of (o := .cellp) rfl).symm)
           simp only [one]; ((rw [i64w]; done))
          ·refine Wj ?_
           refine W_exit ?_
           refine zp2 ?_
           refine Wc rfl rfl (dC rfl Tryz.func84 rfl rfl ((alu_asked name a) _)) ?_
           refine zs4 ?_
           refine zR ?_
           rw [askS_one (oF hi1) (oF hi3) (oF hi4) (oF hi5) (oF hi6) (oF hi7) (oF hi8) (oF hi9) (oF hi10) (oF hi11)]; rfl
end Go.Proofs.YtphgdofmjpdhaaaGreat
namespace Go.Proofs.YtphgdofmjpdhaaaGreat
open Go.RowKit
set_option maxRecDepth 100000
set_option maxHeartbeats 4000000
theorem ref_yes2 (b : Bool) : PureC Tryz.prog 175 [boo b] (tOne (flagS b, true)) := by
 refine pW tG (rs := [.tmp 2, .tmp 3]) Tryz.func175 rfl rfl rfl (by simp) (by simp) (fun B => ?_)
 refine zu2 ?_
 refine Ws ?_
 refine zu1 ?_
 refine Wi rfl (fun hi1 => ?_) (fun hi1 => ?_)
 ·refine zu2 ?_
  refine zR ?_
  simp_all [flagS, tOne, tup2, i64, boo]
 ·refine Wj ?_
  refine zu2 ?_
  refine zR ?_
  simp_all [flagS, tOne, tup2, i64, boo]
theorem pv_oneI {x y : Int} (h : x = y) : tup2 (i64 x) (.val (.bool true)) = tOne (y, true) := by rw [h]; rfl
theorem fit2 : Fit 2 := by unfold Fit; omega
theorem fit8b : Fit 8 := by unfold Fit; omega
theorem fdiv2 (a : Int) (ha : Fit a) : wrap64 (a.fdiv 2) = a / 2 := by
 rw [Int.fdiv_eq_ediv_of_nonneg _ (by omega)]; unfold Fit at ha; unfold wrap64; omega
theorem fmod8 (a : Int) : a.fmod 8 = a % 8 := Int.fmod_eq_emod_of_nonneg _ (by omega)
theorem div2 (a : Int) : divS a 2 = (wrap64 (a.fdiv 2), a.fmod 2, 0) := by unfold divS; rw [if_neg (by omega)]
theorem div8 (a : Int) : divS a 8 = (wrap64 (a.fdiv 8), a.fmod 8, 0) := by unfold divS; rw [if_neg (by omega)]
theorem ref_One (name : Str) (a : Int) (ha : Fit a) : PureC Tryz.prog 66 [str name, i64 a] (tOne (oneS name a)) := by
 have hf := ha
 unfold Fit at hf
 refine pW tG (rs := [.tmp 4, .tmp 5]) Tryz.func66 rfl rfl rfl (by simp) (by simp) (fun B => ?_)
 refine zu2 ?_
 refine Ws ?_
 refine zu1 ?_
 refine Wl ?_
 refine zp1 ?_
 refine Wa 14 rfl (str_eql _ _) ?_
 refine zs1 ?_
 refine Wi rfl (fun hi1 => ?_) (fun hi1 => ?_)
 ·obtain rfl := oT hi1
  refine zu4 ?_
  refine zR ?_
  refine (pv_oneI (y := one .neg a) ?_).trans (congrArg tOne (oneS_of (o := .neg) rfl).symm)
  simp only [one, div2, div8, fmod8] at *; ((rw [i64w]; exact congrArg wrap64 (by omega)))
 ·refine zp1 ?_
  refine Wa 18 rfl (str_eql _ _) ?_
  refine zs1 ?_
  refine Wi rfl (fun hi2 => ?_) (fun hi2 => ?_)
  ·obtain rfl := oT hi2
   refine Ws ?_
   refine zu2 ?_
   refine Wi rfl (fun hi3 => ?_) (fun hi3 => ?_)
   ·refine zu4 ?_
    refine zR ?_
    refine (pv_oneI (y := one .abs a) ?_).trans (congrArg tOne (oneS_of (o := .abs) rfl).symm)
    simp only [one, div2, div8, fmod8] at *; (((try simp only [dnL] at *); rw [if_neg (by omega), i64w]; exact congrArg wrap64 (by omega)))
   ·refine Wj ?_
    refine zu3 ?_
    refine zR ?_
    refine (pv_oneI (y := one .abs a) ?_).trans (congrArg tOne (oneS_of (o := .abs) rfl).symm)
    simp only [one, div2, div8, fmod8] at *; (((try simp only [dnL] at *); rw [if_pos (by omega)]; done))
  ·refine zp1 ?_
   refine Wa 25 rfl (str_eql _ _) ?_
   refine zs1 ?_
   refine Wi rfl (fun hi4 => ?_) (fun hi4 => ?_)
   ·obtain rfl := oT hi4
    refine zu4 ?_
    refine zR ?_
    refine (pv_oneI (y := one .inv a) ?_).trans (congrArg tOne (oneS_of (o := .inv) rfl).symm)
    simp only [one, div2, div8, fmod8] at *; ((rw [i64w]; unfold wrap64; omega))
   ·refine zp1 ?_
    refine Wa 29 rfl (str_eql _ _) ?_
    refine zs1 ?_
    refine Wi rfl (fun hi5 => ?_) (fun hi5 => ?_)
    ·obtain rfl := oT hi5
     refine zu4 ?_
     refine zR ?_
     refine (pv_oneI (y := one .inc a) ?_).trans (congrArg tOne (oneS_of (o := .inc) rfl).symm)
     simp only [one, div2, div8, fmod8] at *; ((rw [i64w]; done))
    ·refine zp1 ?_
     refine Wa 33 rfl (str_eql _ _) ?_
     refine zs1 ?_
     refine Wi rfl (fun hi6 => ?_) (fun hi6 => ?_)
     ·obtain rfl := oT hi6
      refine zu4 ?_
      refine zR ?_
      refine (pv_oneI (y := one .dec a) ?_).trans (congrArg tOne (oneS_of (o := .dec) rfl).symm)
      simp only [one, div2, div8, fmod8] at *; ((rw [i64w]; done))
     ·refine zp1 ?_
      refine Wa 37 rfl (str_eql _ _) ?_
      refine zs1 ?_
      refine Wi rfl (fun hi7 => ?_) (fun hi7 => ?_)
      ·obtain rfl := oT hi7
       refine zu5 ?_
       refine zR ?_
       refine (pv_oneI (y := one .dbl a) ?_).trans (congrArg tOne (oneS_of (o := .dbl) rfl).symm)
       simp only [one, div2, div8, fmod8] at *; ((rw [i64w]; done))
      ·refine zp1 ?_
       refine Wa 42 rfl (str_eql _ _) ?_
       refine zs1 ?_
       refine Wi rfl (fun hi8 => ?_) (fun hi8 => ?_)
       ·obtain rfl := oT hi8
        refine zp1 ?_
        refine Wc rfl rfl (dC rfl Tryz.func173 rfl rfl ((r_Div a 2 ha fit2) _)) ?_
        refine zy5 ?_
        refine zs2 ?_
        refine zu3 ?_
        refine zR ?_
        refine (pv_oneI (y := one .half a) ?_).trans (congrArg tOne (oneS_of (o := .half) rfl).symm)
        simp only [one, div2, div8, fmod8] at *; exact fdiv2 a ha
       ·refine zp1 ?_
        refine Wa 51 rfl (str_eql _ _) ?_
        refine zs1 ?_
        refine Wi rfl (fun hi9 => ?_) (fun hi9 => ?_)
        ·obtain rfl := oT hi9
         refine zp2 ?_
         refine Wc rfl rfl (dC rfl Tryz.func175 rfl rfl ((ref_yes2 _) _)) ?_
         refine zs4 ?_
         refine zR ?_
         refine congrArg tOne (Eq.trans ?_ (oneS_of (o := .eq0) rfl).symm)
         simp only [one] <;> rfl
        ·refine zp1 ?_
         refine Wa 58 rfl (str_eql _ _) ?_
         refine zs1 ?_
         refine Wi rfl (fun hi10 => ?_) (fun hi10 => ?_)
         ·obtain rfl := oT hi10
          refine zp2 ?_
          refine Wc rfl rfl (dC rfl Tryz.func175 rfl rfl ((ref_yes2 _) _)) ?_
          refine zs4 ?_
          refine zR ?_
          refine congrArg tOne (Eq.trans ?_ (oneS_of (o := .lt0) rfl).symm)
          simp only [one] <;> first | rfl | (congr 2; done) | (congr 2; rw [Bool.eq_iff_iff] <;> simp)
         ·refine zp1 ?_
          refine Wa 65 rfl (str_eql _ _) ?_
          refine zs1 ?_
          refine Wi rfl (fun hi11 => ?_) (fun hi11 => ?_)
          ·obtain rfl := oT hi11
           refine zp2 ?_
           refine Wc rfl rfl (dC rfl Tryz.func175 rfl rfl ((ref_yes2 _) _)) ?_
           refine zs4 ?_
           refine zR ?_
           refine congrArg tOne (Eq.trans ?_ (oneS_of (o := .ne0) rfl).symm)
           simp only [one] <;> rfl
          ·refine zp1 ?_
           refine Wa 72 rfl (str_eql _ _) ?_
           refine zs1 ?_
           refine Wi rfl (fun hi12 => ?_) (fun hi12 => ?_)
           ·obtain rfl := oT hi12
            refine zp2 ?_
            refine Wc rfl rfl (dC rfl Tryz.func175 rfl rfl ((ref_yes2 _) _)) ?_
            refine zs4 ?_
            refine zR ?_
            refine congrArg tOne (Eq.trans ?_ (oneS_of (o := .gt0) rfl).symm)
            simp only [one] <;> first | rfl | (congr 2; done) | (congr 2; rw [Bool.eq_iff_iff] <;> simp)
           ·refine zp1 ?_
            refine Wa 79 rfl (str_eql _ _) ?_
            refine zs1 ?_
            refine Wi rfl (fun hi13 => ?_) (fun hi13 => ?_)
            ·obtain rfl := oT hi13
             refine zu4 ?_
             refine zR ?_
             refine (pv_oneI (y := one .cells a) ?_).trans (congrArg tOne (oneS_of (o := .cells) rfl).symm)
             simp only [one, div2, div8, fmod8] at *; ((rw [i64w]; exact congrArg wrap64 (by omega)))
            ·refine zp1 ?_
             refine Wa 83 rfl (str_eql _ _) ?_
             refine zs1 ?_
             refine Wi rfl (fun hi14 => ?_) (fun hi14 => ?_)
             ·obtain rfl := oT hi14
              refine zu4 ?_
              refine zR ?_
              refine (pv_oneI (y := one .cellp a) ?_).trans (congrArg tOne (oneS_of (o := .cellp) rfl).symm)
              simp only [one, div2, div8, fmod8] at *; ((rw [i64w]; done))
             ·refine zp1 ?_
              refine Wa 87 rfl (str_eql _ _) ?_
              refine zs1 ?_
              refine Wi rfl (fun hi15 => ?_) (fun hi15 => ?_)
              ·obtain rfl := oT hi15
               refine zp1 ?_
               refine Wc rfl rfl (dC rfl Tryz.func173 rfl rfl ((r_Div a 8 ha fit8b) _)) ?_
               refine zy5 ?_
               refine zs2 ?_
               refine Ws ?_
               refine zu2 ?_
               refine Wi rfl (fun hi16 => ?_) (fun hi16 => ?_)
               ·refine zu3 ?_
                refine zR ?_
                refine (pv_oneI (y := one .algn a) ?_).trans (congrArg tOne (oneS_of (o := .algn) rfl).symm)
                simp only [one, div2, div8, fmod8] at *; (((try simp only [dnL] at *); rw [if_pos (by omega)]; done))
               ·refine Wj ?_
                refine zp5 ?_
                refine zs1 ?_
                refine zR ?_
                refine (pv_oneI (y := one .algn a) ?_).trans (congrArg tOne (oneS_of (o := .algn) rfl).symm)
                simp only [one, div2, div8, fmod8] at *; (((try simp only [dnL] at *); rw [if_neg (by omega), i64w, i64w]; unfold wrap64; omega))
              ·refine Wj ?_
               refine zu2 ?_
               refine zR ?_
               rw [oneS_no (op1_none (oF hi2) (oF hi1) (oF hi4) (oF hi5) (oF hi6) (oF hi7) (oF hi8) (oF hi13) (oF hi15) (oF hi14) (oF hi9) (oF hi10) (oF hi11) (oF hi12))]; rfl
end Go.Proofs.YtphgdofmjpdhaaaGreat
namespace Go.Proofs.YtphgdofmjpdhaaaGreat
open Go.RowKit
set_option maxRecDepth 100000
set_option maxHeartbeats 4000000
inductive Op2 where
 | quo
 | rem
 | add
 | sub
 | mul
 | and
 | or
 | xor
 | shl
 | shr
 | min
 | max
 | eq
 | ne
 | lt
 | gt
 | le
 | ge
 | ult
 | ugt
deriving DecidableEq
def names2 : List (Str × Op2) := [([47], .quo), ([77, 79, 68], .rem), ([43], .add), ([45], .sub), ([42], .mul), ([65, 78, 68], .and), ([79, 82], .or), ([88, 79, 82], .xor), ([76, 83, 72, 73, 70, 84], .shl), ([82, 83, 72, 73, 70, 84], .shr), ([77, 73, 78], .min), ([77, 65, 88], .max), ([61], .eq), ([60, 62], .ne), ([60], .lt), ([62], .gt), ([60, 61], .le), ([62, 61], .ge), ([85, 60], .ult), ([85, 62], .ugt)]
def op2 (s : Str) : Option Op2 := names2.lookup s
def andS (a b : Int) : Int := wrap64 ((BitVec.ofInt 64 a &&& BitVec.ofInt 64 b).toNat : Int)
def orS (a b : Int) : Int := wrap64 ((BitVec.ofInt 64 a ||| BitVec.ofInt 64 b).toNat : Int)
def xorS (a b : Int) : Int := wrap64 ((BitVec.ofInt 64 a ^^^ BitVec.ofInt 64 b).toNat : Int)
def shiftS (a by_ : Int) (up : Bool) : Int := if 63 < U by_ then 0 else if up then S (U a * 2 ^ U by_ % 18446744073709551616) else S (U a / 2 ^ U by_)
def two (o : Op2) (a b : Int) : Int × Int := match o with
 | .quo => ((divS a b).1, (divS a b).2.2)
 | .rem => ((divS a b).2.1, (divS a b).2.2)
 | .add => (wrap64 (a + b), 0)
 | .sub => (wrap64 (a - b), 0)
 | .mul => (wrap64 (a * b), 0)
 | .and => (andS a b, 0)
 | .or => (orS a b, 0)
 | .xor => (xorS a b, 0)
 | .shl => (shiftS a b true, 0)
 | .shr => (shiftS a b false, 0)
 | .min => (if b < a then b else a, 0)
 | .max => (if a < b then b else a, 0)
 | .eq => (flagS (decide (a = b)), 0)
 | .ne => (flagS (!decide (a = b)), 0)
 | .lt => (flagS (decide (a < b)), 0)
 | .gt => (flagS (decide (b < a)), 0)
 | .le => (flagS (decide (a ≤ b)), 0)
 | .ge => (flagS (decide (b ≤ a)), 0)
 | .ult => (flagS (decide (U a < U b)), 0)
 | .ugt => (flagS (decide (U b < U a)), 0)
def twoS (name : Str) (a b : Int) : Int × Bool × Int := match op2 name with
 | some o => ((two o a b).1, true, (two o a b).2)
 | none => (0, false, 0)
def tTwo (r : Int × Bool × Int) : PV := tup3 (i64 r.1) (boo r.2.1) (i64 r.2.2)
@[simp] theorem flat_tTwo (r : Int × Bool × Int) : Flat (tTwo r) := by simp [tTwo]
theorem twoS_no {name : Str} {a b : Int} (h : op2 name = none) : twoS name a b = (0, false, 0) := by unfold twoS; rw [h]
theorem op2_none {s : Str} (h0 : s ≠ [47]) (h1 : s ≠ [77, 79, 68]) (h2 : s ≠ [43]) (h3 : s ≠ [45]) (h4 : s ≠ [42]) (h5 : s ≠ [65, 78, 68]) (h6 : s ≠ [79, 82]) (h7 : s ≠ [88, 79, 82]) (h8 : s ≠ [76, 83, 72, 73, 70, 84]) (h9 : s ≠ [82, 83, 72, 73, 70, 84]) (h10 : s ≠ [77, 73, 78]) (h11 : s ≠ [77, 65, 88]) (h12 : s ≠ [61]) (h13 : s ≠ [60, 62]) (h14 : s ≠ [60]) (h15 : s ≠ [62]) (h16 : s ≠ [60, 61]) (h17 : s ≠ [62, 61]) (h18 : s ≠ [85, 60]) (h19 : s ≠ [85, 62]) : op2 s = none := by
 unfold op2 names2
 simp only [List.lookup]
 simp [beq_eq_false_iff_ne.2 h0, beq_eq_false_iff_ne.2 h1, beq_eq_false_iff_ne.2 h2, beq_eq_false_iff_ne.2 h3, beq_eq_false_iff_ne.2 h4, beq_eq_false_iff_ne.2 h5, beq_eq_false_iff_ne.2 h6, beq_eq_false_iff_ne.2 h7, beq_eq_false_iff_ne.2 h8, beq_eq_false_iff_ne.2 h9, beq_eq_false_iff_ne.2 h10, beq_eq_false_iff_ne.2 h11, beq_eq_false_iff_ne.2 h12, beq_eq_false_iff_ne.2 h13, beq_eq_false_iff_ne.2 h14, beq_eq_false_iff_ne.2 h15, beq_eq_false_iff_ne.2 h16, beq_eq_false_iff_ne.2 h17, beq_eq_false_iff_ne.2 h18, beq_eq_false_iff_ne.2 h19]
def heldS (name : Str) (a b : Int) : Int × Bool := if name = [61] then ((two .eq a b).1, true) else if name = [60, 62] then ((two .ne a b).1, true) else if name = [62] then ((two .gt a b).1, true) else if name = [60] then ((two .lt a b).1, true) else if name = [60, 61] then ((two .le a b).1, true) else if name = [62, 61] then ((two .ge a b).1, true) else if name = [85, 62] then ((two .ugt a b).1, true) else if name = [85, 60] then ((two .ult a b).1, true) else (0, false)
theorem alu_held (name : Str) (a b : Int) : PureC Tryz.prog 83 [str name, i64 a, i64 b] (tOne (heldS name a b)) := by
 refine pW tG (rs := [.tmp 6, .tmp 7]) Tryz.func83 rfl rfl rfl (by simp) (by simp) (fun B => ?_)
 refine zu2 ?_
 refine Ws ?_
 refine zu1 ?_
 refine Wl ?_
 refine Ws ?_
 refine Wl ?_
 refine Ws ?_
 refine Wl ?_
 refine Ws ?_
 refine Wl ?_
 refine Ws ?_
 refine Wl ?_
 refine Ws ?_
 refine Wl ?_
 refine Ws ?_
 refine Wl ?_
 refine Ws ?_
 refine Wl ?_
 refine Ws ?_
 refine Wl ?_
 iterate 2 refine Ws ?_
 refine zp1 ?_
 refine Wa 10 rfl (str_eql _ _) ?_
 refine zs1 ?_
 refine Wi rfl (fun hi1 => ?_) (fun hi1 => ?_)
 ·obtain rfl := oT hi1
  refine W_exit ?_
  refine Ws ?_
  refine zp3 ?_
  refine Wc rfl rfl (dC rfl Tryz.func207 rfl rfl ((alu_flag _) _)) ?_
  refine zs2 ?_
  refine zR ?_
  refine congrArg tOne (show (flagS _, true) = ((two .eq a b).1, true) from ?_)
  simp only [two] <;> rfl
 ·refine Wj ?_
  refine Ws ?_
  refine zp1 ?_
  refine Wa 12 rfl (str_eql _ _) ?_
  refine zs1 ?_
  refine Wi rfl (fun hi2 => ?_) (fun hi2 => ?_)
  ·obtain rfl := oT hi2
   refine W_exit ?_
   refine Ws ?_
   refine zp3 ?_
   refine Wc rfl rfl (dC rfl Tryz.func207 rfl rfl ((alu_flag _) _)) ?_
   refine zs2 ?_
   refine zR ?_
   refine congrArg tOne (show (flagS _, true) = ((two .ne a b).1, true) from ?_)
   simp only [two] <;> rfl
  ·refine Wj ?_
   refine Ws ?_
   refine zp1 ?_
   refine Wa 14 rfl (str_eql _ _) ?_
   refine zs1 ?_
   refine Wi rfl (fun hi3 => ?_) (fun hi3 => ?_)
   ·obtain rfl := oT hi3
    refine W_exit ?_
    refine W_region rfl ?_
    refine zs4 ?_
    refine Ws ?_
    refine zp3 ?_
    refine Wc rfl rfl (dC rfl Tryz.func207 rfl rfl ((alu_flag _) _)) ?_
    refine zs2 ?_
    refine zR ?_
    refine congrArg tOne (show (flagS _, true) = ((two .gt a b).1, true) from ?_)
    simp only [two] <;> first | rfl | (congr 2; done) | (congr 2; rw [Bool.eq_iff_iff] <;> simp)
   ·refine Wj ?_
    refine Ws ?_
    refine zp1 ?_
    refine Wa 16 rfl (str_eql _ _) ?_
    refine zs1 ?_
    refine Wi rfl (fun hi4 => ?_) (fun hi4 => ?_)
    ·obtain rfl := oT hi4
     refine W_exit ?_
     refine Ws ?_
     refine zp3 ?_
     refine Wc rfl rfl (dC rfl Tryz.func207 rfl rfl ((alu_flag _) _)) ?_
     refine zs2 ?_
     refine zR ?_
     refine congrArg tOne (show (flagS _, true) = ((two .lt a b).1, true) from ?_)
     simp only [two] <;> first | rfl | (congr 2; done) | (congr 2; rw [Bool.eq_iff_iff] <;> simp)
    ·refine Wj ?_
     refine Ws ?_
     refine zp1 ?_
     refine Wa 18 rfl (str_eql _ _) ?_
     refine zs1 ?_
     refine Wi rfl (fun hi5 => ?_) (fun hi5 => ?_)
     ·obtain rfl := oT hi5
      refine W_exit ?_
      refine W_region rfl ?_
      refine zs4 ?_
      refine Ws ?_
      refine zp3 ?_
      refine Wc rfl rfl (dC rfl Tryz.func207 rfl rfl ((alu_flag _) _)) ?_
      refine zs2 ?_
      refine zR ?_
      refine congrArg tOne (show (flagS _, true) = ((two .le a b).1, true) from ?_)
      simp only [two] <;> first | rfl | (congr 2; done) | (congr 2; rw [Bool.eq_iff_iff] <;> simp)
     ·refine Wj ?_
      refine Ws ?_
      refine zp1 ?_
      refine Wa 20 rfl (str_eql _ _) ?_
      refine zs1 ?_
      refine Wi rfl (fun hi6 => ?_) (fun hi6 => ?_)
      ·obtain rfl := oT hi6
       refine W_exit ?_
       refine Ws ?_
       refine zp3 ?_
       refine Wc rfl rfl (dC rfl Tryz.func207 rfl rfl ((alu_flag _) _)) ?_
       refine zs2 ?_
       refine zR ?_
       refine congrArg tOne (show (flagS _, true) = ((two .ge a b).1, true) from ?_)
       simp only [two] <;> first | rfl | (congr 2; done) | (congr 2; rw [Bool.eq_iff_iff] <;> simp)
      ·refine Wj ?_
       refine Ws ?_
       refine zp1 ?_
       refine Wa 22 rfl (str_eql _ _) ?_
       refine zs1 ?_
       refine Wi rfl (fun hi7 => ?_) (fun hi7 => ?_)
       ·obtain rfl := oT hi7
        refine W_exit ?_
        refine W_region rfl ?_
        refine zs4 ?_
        refine Ws ?_
        refine zp2 ?_
        refine Wc rfl rfl (dC rfl Tryz.func208 rfl rfl ((k_ULess _ _) _)) ?_
        refine Wc rfl rfl (dC rfl Tryz.func207 rfl rfl ((alu_flag _) _)) ?_
        refine zs2 ?_
        refine zR ?_
        refine congrArg tOne (show (flagS _, true) = ((two .ugt a b).1, true) from ?_)
        simp only [two] <;> first | rfl | (congr 2; done) | (congr 2; rw [Bool.eq_iff_iff] <;> simp)
       ·refine Wj ?_
        refine zp1 ?_
        refine Wa 24 rfl (str_eql _ _) ?_
        refine zs1 ?_
        refine Wi rfl (fun hi8 => ?_) (fun hi8 => ?_)
        ·obtain rfl := oT hi8
         refine W_exit ?_
         refine Ws ?_
         refine zp2 ?_
         refine Wc rfl rfl (dC rfl Tryz.func208 rfl rfl ((k_ULess _ _) _)) ?_
         refine Wc rfl rfl (dC rfl Tryz.func207 rfl rfl ((alu_flag _) _)) ?_
         refine zs2 ?_
         refine zR ?_
         refine congrArg tOne (show (flagS _, true) = ((two .ult a b).1, true) from ?_)
         simp only [two] <;> first | rfl | (congr 2; done) | (congr 2; rw [Bool.eq_iff_iff] <;> simp)
        ·refine Wj ?_
         refine W_exit ?_
         refine zu2 ?_
         refine zR ?_
         rw [heldS, if_neg (oF hi1), if_neg (oF hi2), if_neg (oF hi3), if_neg (oF hi4), if_neg (oF hi5), if_neg (oF hi6), if_neg (oF hi7), if_neg (oF hi8)]; rfl
theorem alu_Within (x lo hi : Int) : PureC Tryz.prog 103 [i64 x, i64 lo, i64 hi] (boo (decide (U (wrap64 (x - lo)) < U (wrap64 (hi - lo))))) := by
 refine pW tG (rs := [.tmp 6]) Tryz.func103 rfl rfl rfl (by simp) (by simp) (fun B => ?_)
 refine zu1 ?_
 refine zp5 ?_
 refine z1 ?_
 refine Wc rfl rfl (dC rfl Tryz.func208 rfl rfl ((k_ULess _ _) _)) ?_
 refine zs1 ?_
 refine zR ?_
 simp only [i64w]; rfl
theorem bin_shl {t : TypeId} {x y : Operand} {a b : Int} (h : 0 ≤ b) : binA .shl t x y (.int .u64 a) (.int .u64 b) = some (.int .u64 (IntKind.u64.wrap (a * 2 ^ min b.toNat 64))) := by
 have h1 : ¬ b < 0 := by omega
 simp only [binA, eqGuard, binOp, Op.shift, if_neg h1]; rfl
theorem bin_shr {t : TypeId} {x y : Operand} {a b : Int} (h : 0 ≤ b) : binA .shr t x y (.int .u64 a) (.int .u64 b) = some (.int .u64 (a.fdiv (2 ^ min b.toNat 64))) := by
 have h1 : ¬ b < 0 := by omega
 simp only [binA, eqGuard, binOp, Op.shift, if_neg h1]; rfl
theorem pvU (x : Int) : PV.val (.int .u64 (IntKind.u64.wrap x)) = .val (.int .u64 (U x : Int)) := by rw [U_wrap]
theorem U_lt2 (x : Int) : U x < 18446744073709551616 := by unfold U; omega
theorem shl_val (a b : Int) : IntKind.i64.wrap (IntKind.u64.wrap ((U a : Int) * 2 ^ min ((U b : Int)).toNat 64)) = shiftS a b true := by
 unfold shiftS
 rw [Int.toNat_natCast, i64w, IntKind.wrap_u64]
 by_cases h : 63 < U b
 ·rw [if_pos h, Nat.min_eq_right (by omega)]
  have e : (2 : Int) ^ 64 = 18446744073709551616 := by decide
  rw [e, Int.mul_emod_left]; unfold wrap64; omega
 ·rw [if_neg h, Nat.min_eq_left (by omega), if_pos rfl]
  unfold S
  congr 1
theorem shr_val (a b : Int) : IntKind.i64.wrap ((U a : Int).fdiv (2 ^ min ((U b : Int)).toNat 64)) = shiftS a b false := by
 unfold shiftS
 have hp : ∀ n : Nat, (0 : Int) ≤ 2 ^ n := fun n => Int.pow_nonneg (by omega)
 rw [Int.toNat_natCast, i64w, Int.fdiv_eq_ediv_of_nonneg _ (hp _)]
 by_cases h : 63 < U b
 ·rw [if_pos h, Nat.min_eq_right (by omega)]
  have e : (2 : Int) ^ 64 = 18446744073709551616 := by decide
  have := U_lt2 a
  rw [e, Int.ediv_eq_zero_of_lt (by omega) (by omega)]; unfold wrap64; omega
 ·rw [if_neg h, Nat.min_eq_left (by omega), if_neg (by simp)]
  unfold S
  congr 1
theorem alu_shift (a by_ : Int) (up : Bool) : PureC Tryz.prog 82 [i64 a, i64 by_, boo up] (i64 (shiftS a by_ up)) := by
 refine pW tG (rs := [.tmp 6]) Tryz.func82 rfl rfl rfl (by simp) (by simp) (fun B => ?_)
 refine zu1 ?_
 refine zp2 ?_
 refine Wa 9 rfl (pvU by_) ?_
 refine zs1 ?_
 refine Ws ?_
 refine zu1 ?_
 refine Wi rfl (fun hi1 => ?_) (fun hi1 => ?_)
 ·obtain rfl := hi1
  refine zp2 ?_
  refine Wa 12 rfl (pvU a) ?_
  refine z1 ?_
  refine Wd rfl rfl (does_bin rfl rfl rfl (bin_shl (by omega))) ?_
  refine zs2 ?_
  refine zR ?_
  exact congrArg i64 (shl_val a by_)
 ·obtain rfl := hi1
  refine Wj ?_
  refine zp2 ?_
  refine Wa 17 rfl (pvU a) ?_
  refine z1 ?_
  refine Wd rfl rfl (does_bin rfl rfl rfl (bin_shr (by omega))) ?_
  refine zs2 ?_
  refine zR ?_
  exact congrArg i64 (shr_val a by_)
end Go.Proofs.YtphgdofmjpdhaaaGreat
namespace Go.Proofs.YtphgdofmjpdhaaaGreat
open Go.RowKit
set_option maxRecDepth 100000
set_option maxHeartbeats 40000000
theorem tw_quo (a b : Int) : twoS [47] a b = ((two .quo a b).1, true, (two .quo a b).2) := rfl
theorem tw_rem (a b : Int) : twoS [77, 79, 68] a b = ((two .rem a b).1, true, (two .rem a b).2) := rfl
theorem tw_add (a b : Int) : twoS [43] a b = ((two .add a b).1, true, (two .add a b).2) := rfl
theorem tw_sub (a b : Int) : twoS [45] a b = ((two .sub a b).1, true, (two .sub a b).2) := rfl
theorem tw_mul (a b : Int) : twoS [42] a b = ((two .mul a b).1, true, (two .mul a b).2) := rfl
theorem tw_and (a b : Int) : twoS [65, 78, 68] a b = ((two .and a b).1, true, (two .and a b).2) := rfl
theorem tw_or (a b : Int) : twoS [79, 82] a b = ((two .or a b).1, true, (two .or a b).2) := rfl
theorem tw_xor (a b : Int) : twoS [88, 79, 82] a b = ((two .xor a b).1, true, (two .xor a b).2) := rfl
theorem tw_shl (a b : Int) : twoS [76, 83, 72, 73, 70, 84] a b = ((two .shl a b).1, true, (two .shl a b).2) := rfl
theorem tw_shr (a b : Int) : twoS [82, 83, 72, 73, 70, 84] a b = ((two .shr a b).1, true, (two .shr a b).2) := rfl
theorem tw_min (a b : Int) : twoS [77, 73, 78] a b = ((two .min a b).1, true, (two .min a b).2) := rfl
theorem tw_max (a b : Int) : twoS [77, 65, 88] a b = ((two .max a b).1, true, (two .max a b).2) := rfl
theorem held_two {s : Str} {a b : Int} (h0 : s ≠ [47]) (h1 : s ≠ [77, 79, 68]) (h2 : s ≠ [43]) (h3 : s ≠ [45]) (h4 : s ≠ [42]) (h5 : s ≠ [65, 78, 68]) (h6 : s ≠ [79, 82]) (h7 : s ≠ [88, 79, 82]) (h8 : s ≠ [76, 83, 72, 73, 70, 84]) (h9 : s ≠ [82, 83, 72, 73, 70, 84]) (h10 : s ≠ [77, 73, 78]) (h11 : s ≠ [77, 65, 88]) : tTwo (twoS s a b) = tup3 (i64 (heldS s a b).1) (boo (heldS s a b).2) (i64 0) := by
 unfold heldS
 by_cases h12 : s = [61]
 ·subst h12; rfl
 rw [if_neg h12]
 by_cases h13 : s = [60, 62]
 ·subst h13; rfl
 rw [if_neg h13]
 by_cases h15 : s = [62]
 ·subst h15; rfl
 rw [if_neg h15]
 by_cases h14 : s = [60]
 ·subst h14; rfl
 rw [if_neg h14]
 by_cases h16 : s = [60, 61]
 ·subst h16; rfl
 rw [if_neg h16]
 by_cases h17 : s = [62, 61]
 ·subst h17; rfl
 rw [if_neg h17]
 by_cases h19 : s = [85, 62]
 ·subst h19; rfl
 rw [if_neg h19]
 by_cases h18 : s = [85, 60]
 ·subst h18; rfl
 rw [if_neg h18]
 rw [twoS_no (op2_none h0 h1 h2 h3 h4 h5 h6 h7 h8 h9 h10 h11 h12 h13 h14 h15 h16 h17 h18 h19)]; rfl
theorem alu_Two (name : Str) (a b : Int) (hb : Fit b) : PureC Tryz.prog 52 [str name, i64 a, i64 b] (tTwo (twoS name a b)) := by
 refine pW tG (rs := [.tmp 6, .tmp 7, .tmp 8]) Tryz.func52 rfl rfl rfl (by simp) (by simp) (fun B => ?_)
 refine zu3 ?_
 refine Ws ?_
 refine zu1 ?_
 refine Wl ?_
 refine Ws ?_
 refine zp1 ?_
 refine Wa 16 rfl (str_eql _ _) ?_
 refine zs1 ?_
 refine Wi rfl (fun hi1 => ?_) (fun hi1 => ?_)
 ·refine Wj ?_
  refine Wt rfl hi1 ?_
  refine zp2 ?_
  refine Wc rfl rfl (dC rfl Tryz.func81 rfl rfl ((k_Div a b hb) _)) ?_
  refine zy5 ?_
  refine zs2 ?_
  refine Ws ?_
  refine zp2 ?_
  refine Wa 26 rfl (str_eql _ _) ?_
  refine Wn ?_
  refine Wi rfl (fun hi2 => ?_) (fun hi2 => ?_)
  ·refine W_region rfl ?_
   refine zs2 ?_
   refine zu5 ?_
   refine zR ?_
   (exfalso; (try simp only [dnL] at *); simp_all; done)
  ·refine Wj ?_
   refine zu5 ?_
   refine zR ?_
   ((try simp only [dnL] at *); simp_all [tTwo, tup3, i64, boo, i64w, two, andS, orS, xorS, IntKind.bits, tw_quo, tw_rem, tw_add, tw_sub, tw_mul, tw_and, tw_or, tw_xor, tw_shl, tw_shr, tw_min, tw_max]; done)
 ·refine W_region rfl ?_
  refine z1 ?_
  refine Wa 17 rfl (str_eql _ _) ?_
  refine zs1 ?_
  refine Wi rfl (fun hi3 => ?_) (fun hi3 => ?_)
  ·refine zp2 ?_
   refine Wc rfl rfl (dC rfl Tryz.func81 rfl rfl ((k_Div a b hb) _)) ?_
   refine zy5 ?_
   refine zs2 ?_
   refine Ws ?_
   refine zp2 ?_
   refine Wa 26 rfl (str_eql _ _) ?_
   refine Wn ?_
   refine Wi rfl (fun hi2 => ?_) (fun hi2 => ?_)
   ·refine W_region rfl ?_
    refine zs2 ?_
    refine zu5 ?_
    refine zR ?_
    ((try simp only [dnL] at *); simp_all [tTwo, tup3, i64, boo, i64w, two, andS, orS, xorS, IntKind.bits, tw_quo, tw_rem, tw_add, tw_sub, tw_mul, tw_and, tw_or, tw_xor, tw_shl, tw_shr, tw_min, tw_max]; done)
   ·refine Wj ?_
    refine zu5 ?_
    refine zR ?_
    (exfalso; (try simp only [dnL] at *); simp_all; done)
  ·refine zp1 ?_
   refine Wa 31 rfl (str_eql _ _) ?_
   refine zs1 ?_
   refine Wi rfl (fun hi4 => ?_) (fun hi4 => ?_)
   ·refine zp5 ?_
    refine zs1 ?_
    refine zR ?_
    ((try simp only [dnL] at *); simp_all [tTwo, tup3, i64, boo, i64w, two, andS, orS, xorS, IntKind.bits, tw_quo, tw_rem, tw_add, tw_sub, tw_mul, tw_and, tw_or, tw_xor, tw_shl, tw_shr, tw_min, tw_max]; done)
   ·refine zp1 ?_
    refine Wa 36 rfl (str_eql _ _) ?_
    refine zs1 ?_
    refine Wi rfl (fun hi5 => ?_) (fun hi5 => ?_)
    ·refine zp5 ?_
     refine zs1 ?_
     refine zR ?_
     ((try simp only [dnL] at *); simp_all [tTwo, tup3, i64, boo, i64w, two, andS, orS, xorS, IntKind.bits, tw_quo, tw_rem, tw_add, tw_sub, tw_mul, tw_and, tw_or, tw_xor, tw_shl, tw_shr, tw_min, tw_max]; done)
    ·refine zp1 ?_
     refine Wa 41 rfl (str_eql _ _) ?_
     refine zs1 ?_
     refine Wi rfl (fun hi6 => ?_) (fun hi6 => ?_)
     ·refine zp5 ?_
      refine zs1 ?_
      refine zR ?_
      ((try simp only [dnL] at *); simp_all [tTwo, tup3, i64, boo, i64w, two, andS, orS, xorS, IntKind.bits, tw_quo, tw_rem, tw_add, tw_sub, tw_mul, tw_and, tw_or, tw_xor, tw_shl, tw_shr, tw_min, tw_max]; done)
     ·refine zp1 ?_
      refine Wa 46 rfl (str_eql _ _) ?_
      refine zs1 ?_
      refine Wi rfl (fun hi7 => ?_) (fun hi7 => ?_)
      ·refine zp5 ?_
       refine zs1 ?_
       refine zR ?_
       ((try simp only [dnL] at *); subst_vars; exact congrArg (fun z => tup3 (i64 z) (boo true) (i64 0)) (i64w _))
      ·refine zp1 ?_
       refine Wa 51 rfl (str_eql _ _) ?_
       refine zs1 ?_
       refine Wi rfl (fun hi8 => ?_) (fun hi8 => ?_)
       ·refine zp5 ?_
        refine zs1 ?_
        refine zR ?_
        ((try simp only [dnL] at *); subst_vars; exact congrArg (fun z => tup3 (i64 z) (boo true) (i64 0)) (i64w _))
       ·refine zp1 ?_
        refine Wa 56 rfl (str_eql _ _) ?_
        refine zs1 ?_
        refine Wi rfl (fun hi9 => ?_) (fun hi9 => ?_)
        ·refine zp5 ?_
         refine zs1 ?_
         refine zR ?_
         ((try simp only [dnL] at *); subst_vars; exact congrArg (fun z => tup3 (i64 z) (boo true) (i64 0)) (i64w _))
        ·refine Ws ?_
         refine zp1 ?_
         refine Wa 61 rfl (str_eql _ _) ?_
         refine zs1 ?_
         refine Wi rfl (fun hi10 => ?_) (fun hi10 => ?_)
         ·refine Wj ?_
          refine Wt rfl hi10 ?_
          refine zp4 ?_
          refine Wa 66 rfl (str_eql _ _) ?_
          refine Wc rfl rfl (dC rfl Tryz.func82 rfl rfl ((alu_shift a b _) _)) ?_
          refine zs3 ?_
          refine zR ?_
          ((try simp only [dnL] at *); simp_all [tTwo, tup3, i64, boo, i64w, two, andS, orS, xorS, IntKind.bits, tw_quo, tw_rem, tw_add, tw_sub, tw_mul, tw_and, tw_or, tw_xor, tw_shl, tw_shr, tw_min, tw_max]; done)
         ·refine W_region rfl ?_
          refine z1 ?_
          refine Wa 62 rfl (str_eql _ _) ?_
          refine zs1 ?_
          refine Wi rfl (fun hi11 => ?_) (fun hi11 => ?_)
          ·refine zp4 ?_
           refine Wa 66 rfl (str_eql _ _) ?_
           refine Wc rfl rfl (dC rfl Tryz.func82 rfl rfl ((alu_shift a b _) _)) ?_
           refine zs3 ?_
           refine zR ?_
           ((try simp only [dnL] at *); simp_all [tTwo, tup3, i64, boo, i64w, two, andS, orS, xorS, IntKind.bits, tw_quo, tw_rem, tw_add, tw_sub, tw_mul, tw_and, tw_or, tw_xor, tw_shl, tw_shr, tw_min, tw_max]; done)
          ·refine zp1 ?_
           refine Wa 69 rfl (str_eql _ _) ?_
           refine zs1 ?_
           refine Wi rfl (fun hi12 => ?_) (fun hi12 => ?_)
           ·refine zp5 ?_
            refine zs1 ?_
            refine zR ?_
            ((try simp only [dnL] at *); simp_all [tTwo, tup3, i64, boo, i64w, two, andS, orS, xorS, IntKind.bits, tw_quo, tw_rem, tw_add, tw_sub, tw_mul, tw_and, tw_or, tw_xor, tw_shl, tw_shr, tw_min, tw_max]; done)
           ·refine zp1 ?_
            refine Wa 74 rfl (str_eql _ _) ?_
            refine zs1 ?_
            refine Wi rfl (fun hi13 => ?_) (fun hi13 => ?_)
            ·refine zp5 ?_
             refine zs1 ?_
             refine zR ?_
             ((try simp only [dnL] at *); simp_all [tTwo, tup3, i64, boo, i64w, two, andS, orS, xorS, IntKind.bits, tw_quo, tw_rem, tw_add, tw_sub, tw_mul, tw_and, tw_or, tw_xor, tw_shl, tw_shr, tw_min, tw_max]; done)
            ·refine Wj ?_
             refine zp3 ?_
             refine Wc rfl rfl (dC rfl Tryz.func83 rfl rfl ((alu_held name a b) _)) ?_
             refine zs5 ?_
             refine zu5 ?_
             refine zR ?_
             ((try simp only [dnL] at *); exact (held_two (by assumption) (by assumption) (by assumption) (by assumption) (by assumption) (by assumption) (by assumption) (by assumption) (by assumption) (by assumption) (by assumption) (by assumption)).symm)
end Go.Proofs.YtphgdofmjpdhaaaGreat
namespace Go.Proofs.YtphgdofmjpdhaaaGreat
open Go.RowKit
set_option maxRecDepth 100000
set_option maxHeartbeats 4000000
def shU (a : Int) (k : Nat) (up : Bool) : Nat := if up then U a * 2 ^ k % 18446744073709551616 else U a / 2 ^ k
theorem shU_zero (a : Int) (up : Bool) : PV.val (.int .u64 (U a : Int)) = .val (.int .u64 (shU a 0 up : Int)) := by
 have := U_lt2 a
 unfold shU
 rw [Nat.pow_zero, Nat.mul_one, Nat.div_one, Nat.mod_eq_of_lt this]
 split <;> rfl
theorem shU_mul (a : Int) (k : Nat) : PV.val (.int .u64 (IntKind.u64.wrap (2 * (shU a k true : Int)))) = .val (.int .u64 (shU a (k + 1) true : Int)) := by
 refine congrArg (fun z => PV.val (Value.int .u64 z)) ?_
 have h : shU a (k + 1) true = 2 * shU a k true % 18446744073709551616 := by
  unfold shU
  rw [if_pos rfl, if_pos rfl, Nat.mul_mod_mod, Nat.pow_succ]
  congr 1
  rw [Nat.mul_comm 2, Nat.mul_assoc]
 rw [IntKind.wrap_u64, h]
 omega
theorem shU_div (a : Int) (k : Nat) : (shU a k false : Int).tdiv 2 = (shU a (k + 1) false : Int) := by
 have h : shU a (k + 1) false = shU a k false / 2 := by
  unfold shU
  rw [if_neg (by simp), if_neg (by simp), Nat.pow_succ, Nat.div_div_eq_div_mul]
 rw [h, Int.tdiv_eq_ediv_of_nonneg (by omega)]
 omega
theorem shU_divw (a : Int) (k : Nat) : IntKind.u64.wrap ((shU a k false : Int).tdiv 2) = (shU a (k + 1) false : Int) := by
 have h1 : shU a (k + 1) false ≤ U a := by unfold shU; rw [if_neg (by simp)]; exact Nat.div_le_self _ _
 have h2 := U_lt2 a
 rw [shU_div, IntKind.wrap_u64]
 omega
theorem shU_end {a b : Int} {up : Bool} {k : Nat} (h0 : 0 ≤ b) (h1 : b ≤ 63) (hk : (k : Int) = b) : wrap64 (shU a k up : Int) = shiftS a b up := by
 have hu : U b = k := by unfold U; omega
 have h63 : ¬ 63 < k := by omega
 unfold shiftS shU
 rw [hu]
 cases up <;> simp [h63, S]
theorem shiftS_out {a b : Int} {up : Bool} (hb : Fit b) (h : b < 0 ∨ b > 63) : shiftS a b up = 0 := by
 have hu : 63 < U b := by unfold Fit at hb; unfold U; omega
 unfold shiftS
 rw [if_pos hu]
theorem ref_shifted (a by_ : Int) (up : Bool) (hb : Fit by_) : PureC Tryz.prog 174 [i64 a, i64 by_, boo up] (i64 (shiftS a by_ up)) := by
 refine pW tG (rs := [.tmp 6]) Tryz.func174 rfl rfl rfl (by simp) (by simp) (fun B => ?_)
 refine zu1 ?_
 refine Ws ?_
 refine zp3 ?_
 refine Wb 11 rfl (fun hg1 => ?_) (fun hg1 => ?_)
 ·refine z6 ?_
  refine z6 ?_
  refine zs1 ?_
  refine Wt rfl rfl ?_
  refine zu1 ?_
  refine zR ?_
  exact congrArg i64 (shiftS_out hb (by (try simp only [dnL] at *); omega)).symm
 ·refine zs3 ?_
  refine Wi rfl (fun hi1 => ?_) (fun hi1 => ?_)
  ·refine zu1 ?_
   refine zR ?_
   exact congrArg i64 (shiftS_out hb (by (try simp only [dnL] at *); omega)).symm
  ·refine Wj ?_
   refine zp2 ?_
   refine Wa 16 rfl ((pvU a).trans (shU_zero a up)) ?_
   refine zs1 ?_
   refine Ws ?_
   refine zu1 ?_
   refine Wl ?_
   show W _ _ _ _ _ _ _
   refine W_loopS (fun (k : Nat) => [(1, i64 by_), (2, boo up), (7, .val (.int .u64 (shU a k up : Int))), (8, i64 k)]) (fun (k : Nat) => []) (fun (k : Nat) => []) (fun (k : Nat) => (k : Int) ≤ by_ ∧ by_ ≤ 63) (fun (k : Nat) => by_.toNat - k) (0) (by (try simp only [dnL] at *); omega) [] ?_ ?_
   ·exact fitT
   ·intro k hk
    refine Ws ?_
    refine zu3 ?_
    refine Wi rfl (fun hi2 => ?_) (fun hi2 => ?_)
    ·refine Wj ?_
     refine Ws ?_
     refine Wl ?_
     refine zu1 ?_
     refine Wi rfl (fun hi3 => ?_) (fun hi3 => ?_)
     ·obtain rfl := hi3
      refine W_region rfl ?_
      refine zy2 ?_
      refine Wa 24 rfl (shU_mul a k) ?_
      refine zs1 ?_
      refine W_region rfl ?_
      refine zs3 ?_
      exact ⟨k + 1, [], (by (try simp only [dnL] at *); omega), (by (try simp only [dnL] at *); omega), fitT⟩
     ·obtain rfl := hi3
      refine W_region rfl ?_
      refine zy2 ?_
      refine Wa 26 rfl (congrArg (fun z => PV.val (Value.int .u64 z)) (shU_divw a k)) ?_
      refine zs1 ?_
      refine W_region rfl ?_
      refine zs3 ?_
      exact ⟨k + 1, [], (by (try simp only [dnL] at *); omega), (by (try simp only [dnL] at *); omega), fitT⟩
    ·refine W_exit ?_
     refine zu3 ?_
     refine zR ?_
     exact congrArg i64 ((i64w _).trans (shU_end (by (try simp only [dnL] at *); omega) (by (try simp only [dnL] at *); omega) (by (try simp only [dnL] at *); omega)))
theorem ref_Within (x lo hi : Int) : PureC Tryz.prog 182 [i64 x, i64 lo, i64 hi] (boo (decide (U (wrap64 (x - lo)) < U (wrap64 (hi - lo))))) := by
 refine pW tG (rs := [.tmp 6]) Tryz.func182 rfl rfl rfl (by simp) (by simp) (fun B => ?_)
 refine zu1 ?_
 refine zp5 ?_
 refine zy5 ?_
 refine zs2 ?_
 refine zR ?_
 exact congrArg boo (by rw [Bool.eq_iff_iff]; simp only [decide_eq_true_eq, IntKind.wrap_u64]; unfold U wrap64; omega)
end Go.Proofs.YtphgdofmjpdhaaaGreat
namespace Go.Proofs.YtphgdofmjpdhaaaGreat
open Go.RowKit
set_option maxRecDepth 100000
set_option maxHeartbeats 4000000
theorem pic_Sign (p : VPic) (n : Int) (hp : p.b.length ≤ 1000000) : PureC Tryz.prog 159 [ePic p, i64 n] (tPic (picSign p n)) := by
 refine pW tG (rs := [.cell 4 32, .tmp 5]) Tryz.func159 rfl rfl rfl (by simp) (by simp) (fun B => ?_)
 refine zu3 ?_
 refine Ws ?_
 refine zu2 ?_
 refine Wi rfl (fun hi1 => ?_) (fun hi1 => ?_)
 ·have h0 : 0 ≤ n := by (try simp only [dnL] at *); omega
  refine zu3 ?_
  refine zR ?_
  rw [picSign, if_pos h0]; rfl
 ·have h0 : ¬ 0 ≤ n := by (try simp only [dnL] at *); omega
  refine Wj ?_
  refine zp1 ?_
  refine Wc rfl rfl (dC rfl Tryz.func158 rfl rfl ((pic_Hold p 45 hp) _)) ?_
  refine zs4 ?_
  refine zR ?_
  rw [picSign, if_neg h0]; rfl
theorem ref_Sign (p : VPic) (n : Int) (hp : p.b.length ≤ 1000000) : PureC Tryz.prog 202 [ePic p, i64 n] (tPic (picSign p n)) := by
 refine pW tG (rs := [.cell 4 32, .tmp 5]) Tryz.func202 rfl rfl rfl (by simp) (by simp) (fun B => ?_)
 refine zu3 ?_
 refine Ws ?_
 refine zu2 ?_
 refine Wi rfl (fun hi1 => ?_) (fun hi1 => ?_)
 ·have h0 : 0 ≤ n := by (try simp only [dnL] at *); omega
  refine zu3 ?_
  refine zR ?_
  rw [picSign, if_pos h0]; rfl
 ·have h0 : ¬ 0 ≤ n := by (try simp only [dnL] at *); omega
  refine Wj ?_
  refine zp1 ?_
  refine Wc rfl rfl (dC rfl Tryz.func201 rfl rfl ((ref_Hold p 45 hp) _)) ?_
  refine zs4 ?_
  refine zR ?_
  rw [picSign, if_neg h0]; rfl
def digOf (p : VPic) (lo hi base : Int) : VPic × Int := picHold p (digS (udivS lo (udivS hi 0 base).2.1 base).2.1)
def picDigit (p : VPic) (lo hi base : Int) : VPic × Int × Int × Int :=
 if base < 2 ∨ 36 < base then (p, lo, hi, -24) else
  if (digOf p lo hi base).2 = 0 then ((digOf p lo hi base).1, (udivS lo (udivS hi 0 base).2.1 base).1, (udivS hi 0 base).1, 0) else (p, lo, hi, (digOf p lo hi base).2)
def tDig (r : VPic × Int × Int × Int) : PV := tup4 (ePic r.1) (i64 r.2.1) (i64 r.2.2.1) (i64 r.2.2.2)
@[simp] theorem flat_tDig (r : VPic × Int × Int × Int) : Flat (tDig r) := by simp [tDig]
theorem digS_wrap (n : Int) : IntKind.i64.wrap (digS n) = digS n := by rw [i64w]; unfold digS wrap64; split <;> (try split) <;> omega
theorem pic_Digit (p : VPic) (lo hi base : Int) (hp : p.b.length ≤ 1000000) : PureC Tryz.prog 155 [ePic p, i64 lo, i64 hi, i64 base] (tDig (picDigit p lo hi base)) := by
 refine pW tG (rs := [.cell 8 32, .tmp 9, .tmp 10, .tmp 11]) Tryz.func155 rfl rfl rfl (by simp) (by simp) (fun B => ?_)
 refine zu5 ?_
 refine Ws ?_
 refine zp3 ?_
 refine Wb 22 rfl (fun hg1 => ?_) (fun hg1 => ?_)
 ·refine z6 ?_
  refine z6 ?_
  refine zs1 ?_
  refine Wt rfl rfl ?_
  refine zp5 ?_
  refine zs2 ?_
  refine zR ?_
  rw [picDigit, if_pos (by (try simp only [dnL] at *); omega)]; rfl
 ·refine zs3 ?_
  refine Wi rfl (fun hi1 => ?_) (fun hi1 => ?_)
  ·have hb : base < 2 ∨ 36 < base := by (try simp only [dnL] at *); omega
   refine zp5 ?_
   refine zs2 ?_
   refine zR ?_
   rw [picDigit, if_pos hb]; rfl
  ·have hb : ¬ (base < 2 ∨ 36 < base) := by (try simp only [dnL] at *); omega
   refine Wj ?_
   refine zp2 ?_
   refine Wc rfl rfl (dC rfl Tryz.func96 rfl rfl ((k_UDiv hi 0 base) _)) ?_
   refine zy5 ?_
   refine zs2 ?_
   refine zp3 ?_
   refine Wc rfl rfl (dC rfl Tryz.func96 rfl rfl ((k_UDiv lo _ base) _)) ?_
   refine zy5 ?_
   refine zs2 ?_
   refine Ws ?_
   refine W_drawU [1, 0, 0, 0, 0, 0, 0, 0, 2, 3, 0] [0, 1, 2, 3, 4, 5, 6, 7, 8, 9, 10] mG rfl (by kernel_rfl) ?_
   refine z5 ?_
   refine z3 ?_
   refine Xc rfl rfl rfl rfl (fun _ => dC rfl Tryz.func237 rfl rfl ((k_Digit _) _)) ?_
   refine z3 ?_
   refine Xa 48 rfl (congrArg (fun z => PV.val (Value.int .i64 z)) (digS_wrap _)) ?_
   refine Xc rfl rfl rfl rfl (fun _ => dC rfl Tryz.func158 rfl rfl ((pic_Hold p _ hp) _)) ?_
   iterate 3 refine z3 ?_
   refine WU_ev2 tG rfl rfl rfl rfl rfl trivial rfl ?_
   refine WU_ev3 tG rfl rfl rfl rfl rfl trivial ?_
   refine z3 ?_
   refine WU_nil ?_
   refine Ws ?_
   refine zu2 ?_
   refine Wi rfl (fun hi2 => ?_) (fun hi2 => ?_)
   ·have h0 : ¬ (digOf p lo hi base).2 = 0 := by (try simp only [dnL] at *); exact hi2
    refine zp5 ?_
    refine zs3 ?_
    refine zR ?_
    rw [picDigit, if_neg hb, if_neg h0]; rfl
   ·have h0 : (digOf p lo hi base).2 = 0 := by (try simp only [dnL] at *); exact hi2
    refine Wj ?_
    refine zp5 ?_
    refine zs2 ?_
    refine zR ?_
    rw [picDigit, if_neg hb, if_pos h0]; rfl
theorem bin_quo64 {t : TypeId} {x y : Operand} {a b : Int} (h : b ≠ 0) : binA .quo t x y (.int .u64 a) (.int .u64 b) = some (.int .u64 (IntKind.u64.wrap (a.tdiv b))) := by
 simp only [binA, eqGuard, binOp, Op.intDiv]
 rw [if_neg h]; rfl
theorem bin_rem64 {t : TypeId} {x y : Operand} {a b : Int} (h : b ≠ 0) : binA .rem t x y (.int .u64 a) (.int .u64 b) = some (.int .u64 (a.tmod b)) := by
 simp only [binA, eqGuard, binOp, Op.intDiv]
 rw [if_neg h]; rfl
theorem udiv0 {hi base : Int} (h : 2 ≤ base ∧ base ≤ 36) : udivS hi 0 base = (S (U hi / U base), S (U hi % U base), 0) := by
 have h0 : U 0 = 0 := rfl
 have h1 : U base ≠ 0 := by unfold U; omega
 unfold udivS PU
 rw [h0, if_neg (by omega), if_neg (by omega), Nat.zero_mul, Nat.zero_add]
theorem ref_PDigit (p : VPic) (lo hi base : Int) (hp : p.b.length ≤ 1000000) : PureC Tryz.prog 199 [ePic p, i64 lo, i64 hi, i64 base] (tDig (picDigit p lo hi base)) := by
 refine pW tG (rs := [.cell 8 32, .tmp 9, .tmp 10, .tmp 11]) Tryz.func199 rfl rfl rfl (by simp) (by simp) (fun B => ?_)
 refine zu5 ?_
 refine Ws ?_
 refine zp3 ?_
 refine Wb 21 rfl (fun hg1 => ?_) (fun hg1 => ?_)
 ·refine z6 ?_
  refine z6 ?_
  refine zs1 ?_
  refine Wt rfl rfl ?_
  refine zp5 ?_
  refine zs2 ?_
  refine zR ?_
  rw [picDigit, if_pos (by (try simp only [dnL] at *); omega)]; rfl
 ·refine zs3 ?_
  refine Wi rfl (fun hi1 => ?_) (fun hi1 => ?_)
  ·have hb : base < 2 ∨ 36 < base := by (try simp only [dnL] at *); omega
   refine zp5 ?_
   refine zs2 ?_
   refine zR ?_
   rw [picDigit, if_pos hb]; rfl
  ·have hb : ¬ (base < 2 ∨ 36 < base) := by (try simp only [dnL] at *); omega
   have hB : 2 ≤ base ∧ base ≤ 36 := by omega
   have hu : ((U base : Nat) : Int) ≠ 0 := by unfold U; omega
   have e1 : IntKind.i64.wrap (((U hi % U base : Nat) : Nat) : Int) = (udivS hi 0 base).2.1 := by rw [udiv0 hB, i64w]; rfl
   have e2 : IntKind.i64.wrap (((U hi / U base : Nat) : Nat) : Int) = (udivS hi 0 base).1 := by rw [udiv0 hB, i64w]; rfl
   have e3 : IntKind.u64.wrap ((U hi : Int).tdiv (U base : Int)) = ((U hi / U base : Nat) : Int) := by rw [Int.tdiv_eq_ediv_of_nonneg (by omega), ← Int.natCast_ediv, U_wrap]; have h5 := Nat.lt_of_le_of_lt (Nat.div_le_self (U hi) (U base)) (U_lt2 hi); generalize U hi / U base = q at h5 ⊢; unfold U; omega
   have e4 : (U hi : Int).tmod (U base : Int) = ((U hi % U base : Nat) : Int) := by rw [Int.tmod_eq_emod_of_nonneg (by omega), ← Int.natCast_emod]
   refine Wj ?_
   refine zp2 ?_
   refine Wa 29 rfl (pvU base) ?_
   refine zs1 ?_
   refine zp2 ?_
   refine Wa 31 rfl (pvU hi) ?_
   refine z1 ?_
   refine Wd rfl rfl (does_bin rfl rfl rfl (bin_quo64 hu)) ?_
   refine Wa 33 rfl (congrArg (fun z => PV.val (Value.int .u64 z)) e3) ?_
   refine zs1 ?_
   refine zp3 ?_
   refine Wa 37 rfl (pvU hi) ?_
   refine z1 ?_
   refine Wd rfl rfl (does_bin rfl rfl rfl (bin_rem64 hu)) ?_
   refine Wa 39 rfl (congrArg (fun z => PV.val (Value.int .u64 z)) e4) ?_
   refine z1 ?_
   refine Wa 40 rfl (congrArg (fun z => PV.val (Value.int .i64 z)) e1) ?_
   refine z1 ?_
   refine Wc rfl rfl (dC rfl Tryz.func179 rfl rfl ((r_UDiv lo _ base) _)) ?_
   refine zy5 ?_
   refine zs2 ?_
   refine Ws ?_
   refine W_drawU [1, 0, 0, 0, 0, 0, 0, 0, 2, 3, 0] [0, 1, 2, 3, 4, 5, 6, 7, 8, 9, 10] mG rfl (by kernel_rfl) ?_
   refine z5 ?_
   refine z3 ?_
   refine Xc rfl rfl rfl rfl (fun _ => dC rfl Tryz.func254 rfl rfl ((r_Digit _) _)) ?_
   refine z3 ?_
   refine Xa 50 rfl (congrArg (fun z => PV.val (Value.int .i64 z)) (digS_wrap _)) ?_
   refine Xc rfl rfl rfl rfl (fun _ => dC rfl Tryz.func201 rfl rfl ((ref_Hold p _ hp) _)) ?_
   iterate 3 refine z3 ?_
   refine WU_ev2 tG rfl rfl rfl rfl rfl trivial rfl ?_
   refine WU_ev3 tG rfl rfl rfl rfl rfl trivial ?_
   refine z3 ?_
   refine WU_nil ?_
   refine Ws ?_
   refine zu2 ?_
   refine Wi rfl (fun hi2 => ?_) (fun hi2 => ?_)
   ·have h0 : ¬ (digOf p lo hi base).2 = 0 := by (try simp only [dnL] at *); exact hi2
    refine zp5 ?_
    refine zs3 ?_
    refine zR ?_
    rw [picDigit, if_neg hb, if_neg h0]; rfl
   ·have h0 : (digOf p lo hi base).2 = 0 := by (try simp only [dnL] at *); exact hi2
    refine Wj ?_
    refine zp4 ?_
    refine Wa 63 rfl (congrArg (fun z => PV.val (Value.int .i64 z)) e2) ?_
    refine zs4 ?_
    refine zR ?_
    rw [picDigit, if_neg hb, if_pos h0]; rfl
end Go.Proofs.YtphgdofmjpdhaaaGreat
namespace Go.Proofs.YtphgdofmjpdhaaaGreat
open Go.RowKit
set_option maxRecDepth 100000
set_option maxHeartbeats 4000000
def picEnd (p : VPic) : List UInt8 × Int := if p.on then (p.b.reverse, 0) else ([], -17)
theorem rev_snoc {l : List UInt8} {k : Nat} {s : SK} (hk : k < l.length) : PV.seq (l.reverse.take k ++ [l.getD ((l.length : Int) - 1 - (k : Int)).toNat 0]).length ((l.reverse.take k ++ [l.getD ((l.length : Int) - 1 - (k : Int)).toNat 0]).flatMap cByte) s = .seq (l.reverse.take (k + 1)).length ((l.reverse.take (k + 1)).flatMap cByte) s := by
 have h : l.getD ((l.length : Int) - 1 - (k : Int)).toNat 0 = l.reverse.getD k 0 := by
  unfold List.getD
  rw [List.getElem?_reverse hk]
  congr 2; omega
 rw [h, ← take_snoc' l.reverse k 0 (by simpa using hk)]
theorem ref_End (p : VPic) (hp : p.b.length ≤ 1000000) : PureC Tryz.prog 203 [ePic p] (tShow (picEnd p)) := by
 refine pW tG (rs := [.tmp 2, .tmp 3]) Tryz.func203 rfl rfl rfl (by simp) (by simp) (fun B => ?_)
 refine zu3 ?_
 refine Ws ?_
 refine zu3 ?_
 refine Wi rfl (fun hi1 => ?_) (fun hi1 => ?_)
 ·have h0 : ¬ p.on = true := by simpa using hi1
  refine zu2 ?_
  refine zR ?_
  rw [picEnd, if_neg h0]; rfl
 ·have h0 : p.on = true := by simpa using hi1
  refine Wj ?_
  refine zp1 ?_
  refine WO_own 4 0 1 rfl rfl ?_
  refine Wn ?_
  refine Ws ?_
  refine zu5 ?_
  refine Wl ?_
  show W _ _ _ _ _ _ _
  refine W_loopS (fun (k : Nat) => [(1, .ptr 0 0), (4, .seq (p.b.reverse.take k).length ((p.b.reverse.take k).flatMap cByte) (.own 2 1)), (5, i64 ((p.b.length : Int) - 1 - (k : Int)))]) (fun (k : Nat) => [.cells (cPic p) 32, .dead]) (fun (k : Nat) => [.free ((p.b.reverse.take k).length * 1)]) (fun (k : Nat) => k ≤ p.b.length) (fun (k : Nat) => p.b.length - k) (0) (by omega) [1] ?_ ?_
  ·exact fitT
  ·intro k hk
   refine Ws ?_
   refine zu2 ?_
   refine Wi rfl (fun hi2 => ?_) (fun hi2 => ?_)
   ·have hlt : k < p.b.length := by have := oT hi2; omega
    refine Wj ?_
    refine Ws ?_
    refine Wl ?_
    refine W_region rfl ?_
    refine zy4 ?_
    refine Wv tG rfl rfl rfl (by omega) (iR cByte 1 (fun _ => rfl) 0 (by omega)) ?_
    refine zy2 ?_
    refine Wa 23 rfl (bsL cByte [_] rfl rfl) ?_
    refine Wd rfl rfl (does_append_own (lO tG rfl) rfl (lO tG rfl) (lO tG rfl) rfl rfl rfl rfl (by simp) (by exact ⟨_, rfl⟩) (by exact ⟨rfl, rfl, flatMap_len _ 1 (fun _ => rfl) _, okC_flat _ (fun _ => rfl) _⟩) (by ((simp_all; omega))) (by ((simp_all; omega)))) ?_
    refine Wa 24 rfl (sq_append cByte) ?_
    refine z1 ?_
    skip
    refine Wn ?_
    refine W_region rfl ?_
    refine zs3 ?_
    exact ⟨k + 1, [3], (by omega), (by omega), (fitT (sub := by repeat (first | exact subL_nil | refine subL_cons (by first | exact imp_of rfl | exact imp_of (rev_snoc hlt) | exact imp_of (congrArg i64 (by (rw [i64w]; unfold wrap64; omega)))) ?_)))⟩
   ·have hge : p.b.length ≤ k := by have := oF hi2; omega
    refine W_exit ?_
    refine zp1 ?_
    refine Wd rfl rfl (does_bytes_str (lO tG rfl) rfl (lO tG rfl) rfl (lO tG rfl) rfl rfl rfl) ?_
    refine zs2 ?_
    refine zR ?_
    rw [picEnd, if_pos h0, take_all' _ k (by simp; omega)]; rfl
end Go.Proofs.YtphgdofmjpdhaaaGreat
namespace Go.Proofs.YtphgdofmjpdhaaaGreat
def names : List Str := [[40, 101, 120, 105, 116, 41], [40, 108, 105, 116, 41], [40, 98, 114, 97, 110, 99, 104, 41], [40, 48, 98, 114, 97, 110, 99, 104, 41], [40, 100, 111, 41], [40, 63, 100, 111, 41], [40, 108, 111, 111, 112, 41], [40, 43, 108, 111, 111, 112, 41], [40, 104, 97, 108, 116, 41], [40, 99, 97, 117, 103, 104, 116, 41], [40, 100, 111, 101, 115, 41], [40, 115, 116, 114, 41], [69, 88, 69, 67, 85, 84, 69], [67, 65, 84, 67, 72], [84, 72, 82, 79, 87], [73], [74], [85, 78, 76, 79, 79, 80], [62, 82], [82, 62], [82, 64], [50, 62, 82], [50, 82, 62], [68, 85, 80], [68, 82, 79, 80], [83, 87, 65, 80], [79, 86, 69, 82], [82, 79, 84], [45, 82, 79, 84], [78, 73, 80], [84, 85, 67, 75], [63, 68, 85, 80], [50, 68, 85, 80], [50, 68, 82, 79, 80], [50, 83, 87, 65, 80], [50, 79, 86, 69, 82], [80, 73, 67, 75], [82, 79, 76, 76], [68, 69, 80, 84, 72], [43], [45], [42], [47], [77, 79, 68], [65, 78, 68], [79, 82], [88, 79, 82], [76, 83, 72, 73, 70, 84], [82, 83, 72, 73, 70, 84], [77, 73, 78], [77, 65, 88], [61], [60, 62], [60], [62], [60, 61], [62, 61], [85, 60], [85, 62], [78, 69, 71, 65, 84, 69], [65, 66, 83], [73, 78, 86, 69, 82, 84], [49, 43], [49, 45], [50, 42], [50, 47], [48, 61], [48, 60], [48, 60, 62], [48, 62], [67, 69, 76, 76, 83], [67, 69, 76, 76, 43], [65, 76, 73, 71, 78, 69, 68], [47, 77, 79, 68], [42, 47], [42, 47, 77, 79, 68], [85, 77, 42], [85, 77, 47, 77, 79, 68], [77, 42], [83, 77, 47, 82, 69, 77], [70, 77, 47, 77, 79, 68], [83, 62, 68], [87, 73, 84, 72, 73, 78], [64], [33], [43, 33], [67, 64], [67, 33], [50, 64], [50, 33], [70, 73, 76, 76], [77, 79, 86, 69], [67, 79, 85, 78, 84], [72, 69, 82, 69], [65, 76, 76, 79, 84], [44], [67, 44], [65, 76, 73, 71, 78], [66, 65, 83, 69], [83, 84, 65, 84, 69], [84, 82, 85, 69], [70, 65, 76, 83, 69], [66, 76], [68, 69, 67, 73, 77, 65, 76], [72, 69, 88], [69, 77, 73, 84], [67, 82], [83, 80, 65, 67, 69], [83, 80, 65, 67, 69, 83], [84, 89, 80, 69], [46], [85, 46], [60, 35], [35], [35, 83], [72, 79, 76, 68], [83, 73, 71, 78], [35, 62], [62, 66, 79, 68, 89], [65, 66, 79, 82, 84], [80, 79, 83, 84], [65, 70, 84, 69, 82], [69, 86, 69, 82, 89], [67, 65, 78, 67, 69, 76], [65, 82, 71], [83, 69, 76, 70], [78, 79, 87], [83, 69, 84, 45, 83, 84, 65, 84, 69], [65, 84, 45, 83, 84, 65, 84, 69], [71, 69, 84, 45, 83, 84, 65, 84, 69]]
def specials : List Str := [[58], [59], [67, 82, 69, 65, 84, 69], [68, 79, 69, 83, 62], [86, 65, 82, 73, 65, 66, 76, 69], [67, 79, 78, 83, 84, 65, 78, 84], [73, 77, 77, 69, 68, 73, 65, 84, 69], [39], [91, 39, 93], [67, 72, 65, 82], [91, 67, 72, 65, 82, 93], [76, 73, 84, 69, 82, 65, 76], [80, 79, 83, 84, 80, 79, 78, 69], [82, 69, 67, 85, 82, 83, 69], [73, 70], [69, 76, 83, 69], [84, 72, 69, 78], [66, 69, 71, 73, 78], [87, 72, 73, 76, 69], [82, 69, 80, 69, 65, 84], [85, 78, 84, 73, 76], [65, 71, 65, 73, 78], [68, 79], [63, 68, 79], [76, 79, 79, 80], [43, 76, 79, 79, 80], [76, 69, 65, 86, 69], [83, 34], [46, 34], [40], [92], [91], [93], [70, 79, 82, 71, 69, 84], [77, 65, 67, 72, 73, 78, 69], [79, 78, 58], [69, 88, 73, 84]]
theorem names_len : names.length = 130 := by decide +kernel
theorem specials_len : specials.length = 37 := by decide +kernel
end Go.Proofs.YtphgdofmjpdhaaaGreat
namespace Go.Proofs.YtphgdofmjpdhaaaGreat
open Go.RowKit
set_option maxRecDepth 100000
theorem vm_Names : PureC Tryz.prog 25 [] (sq cStr names) := by
 refine pW tG (rs := [.tmp 0]) Tryz.func25 rfl rfl rfl (by simp) (by simp) (fun B => ?_)
 refine zu1 ?_
 refine zp1 ?_
 refine Wa 1 rfl (bsL cStr [_, _, _, _, _, _, _, _, _, _, _, _, _, _, _, _, _, _, _, _, _, _, _, _, _, _, _, _, _, _, _, _, _, _, _, _, _, _, _, _, _, _, _, _, _, _, _, _, _, _, _, _, _, _, _, _, _, _, _, _, _, _, _, _, _, _, _, _, _, _, _, _, _, _, _, _, _, _, _, _, _, _, _, _, _, _, _, _, _, _, _, _, _, _, _, _, _, _, _, _, _, _, _, _, _, _, _, _, _, _, _, _, _, _, _, _, _, _, _, _, _, _, _, _, _, _, _, _, _, _] rfl rfl) ?_
 refine zs1 ?_
 refine zR ?_
 exact rfl
end Go.Proofs.YtphgdofmjpdhaaaGreat
namespace Go.Proofs.YtphgdofmjpdhaaaGreat
open Go.RowKit
def c0 (w : World) : Cx := cx (fun _ _ => False) [] (fun _ => none) w
theorem sim0 (w : World) : Sim (fun _ _ => False) [] (fun _ => none) w :=
 ⟨fun i j b oi oj h => by simp at h, fun i b oi h => by simp at h, fun b off h => h.elim, fun i oi h => by simp at h⟩
theorem wr0 (w : World) (b off : Nat) : ¬ (c0 w).Wr b off := by
 rintro (h | ⟨i, oi, h1, _⟩)
 ·exact h
 ·simp at h1
theorem law_calls {P : Program} {f : FuncId} {args : List PV} {vs : List Value} {w : World} (h : PureC P f args (.val (.bool true))) (hr : RepL (c0 w) args vs) :
  Calls P f vs.toArray w fun e w' => e = .returned (.bool true) ∧ Below w.heap.size w w' := by
 refine Calls.mono (h [] (fun _ _ => False) (fun _ => none) w vs (sim0 w) hr) ?_
 rintro e w' ⟨v, σ', rfl, h1, _, h3⟩
 unfold Rep at h1
 subst h1
 exact ⟨rfl, ⟨h3.os, h3.tape, h3.output, h3.size, fun b hb => h3.block b hb (fun i oi hi => by simp at hi)⟩⟩
def RdAll (w : World) : List (TypeId × Nat) → List Value → Prop
 | [], cs => cs = []
 | (t, n) :: l, cs => ∃ a b, cs = a ++ b ∧ a.length = n ∧ Rd w t a ∧ RdAll w l b
def contig (fs : List Field) (k : Nat) : List (TypeId × Nat) → Bool
 | [] => fs.isEmpty
 | (t, n) :: l => match fs with
  | [] => false
  | f :: fs => f.type == t && f.offset == k && contig fs (k + n) l
def contigN (P : Program) : List (TypeId × Nat) → Bool
 | [] => true
 | (t, n) :: l => P.cellsOf t == n && contigN P l
def total : List (TypeId × Nat) → Nat
 | [] => 0
 | (_, n) :: l => n + total l
theorem rd_all {w : World} {t : TypeId} {cs : List Value} {fs : Array Field} (ht : Tryz.prog.underlying t = some (.struct fs)) (l : List (TypeId × Nat)) (h1 : contig fs.toList 0 l = true) (h2 : contigN Tryz.prog l = true) (h3 : Tryz.prog.cellsOf t = total l) (h : Rd w t cs) : RdAll w l cs := by
 have hl := rd_len ht h
 rw [h3] at hl
 have hf := rd_field ht h
 have key : ∀ (l : List (TypeId × Nat)) (fs' : List Field) (j k : Nat), (∀ i, fs'[i]? = fs.toList[j + i]?) → contig fs' k l = true → contigN Tryz.prog l = true → cs.length = k + total l → RdAll w l (cs.drop k) := by
  intro l
  induction l with
  | nil =>
   intro fs' j k _ _ _ h4
   show cs.drop k = []
   rw [List.drop_eq_nil_iff]; simp [total] at h4; omega
  | cons q l ih =>
   obtain ⟨t', n⟩ := q
   intro fs' j k hg h4 h5 h6
   cases fs' with
   | nil => simp [contig] at h4
   | cons f fs' =>
    simp only [contig, Bool.and_eq_true, beq_iff_eq] at h4
    simp only [contigN, Bool.and_eq_true, beq_iff_eq] at h5
    simp only [total] at h6
    obtain ⟨⟨rfl, rfl⟩, h4⟩ := h4
    have hfj := hg 0
    simp only [List.getElem?_cons_zero, Nat.add_zero] at hfj
    have r := hf j f (by simpa using hfj.symm)
    rw [h5.1] at r
    refine ⟨_, _, (List.take_append_drop n (cs.drop f.offset)).symm, by simp; omega, r, ?_⟩
    rw [List.drop_drop]
    exact ih fs' (j + 1) (f.offset + n) (fun i => by have := hg (i + 1); simpa [Nat.add_assoc, Nat.add_comm 1 i] using this) h4 h5.2 (by omega)
 have := key l fs.toList 0 0 (fun i => by simp) h1 h2 (by omega)
 simpa using this
theorem rd_int_rep {w : World} {t : TypeId} {cs : List Value} {k : IntKind} (ht : Tryz.prog.underlying t = some (.int k)) (h : Rd w t cs) : ∃ n, (Lit.int k n).wf = true ∧ RepL (c0 w) [.val (.int k n)] cs := by
 obtain ⟨n, rfl, hw⟩ := rd_int ht h
 exact ⟨n, hw, repL_cons.2 ⟨rep_val _ _, repL_nil.2 rfl⟩⟩
theorem rd_bool_rep {w : World} {t : TypeId} {cs : List Value} (ht : Tryz.prog.underlying t = some .bool) (h : Rd w t cs) : ∃ b, RepL (c0 w) [.val (.bool b)] cs := by
 obtain ⟨n, rfl⟩ := rd_bool ht h
 exact ⟨n, repL_cons.2 ⟨rep_val _ _, repL_nil.2 rfl⟩⟩
theorem rd_string_rep {w : World} {t : TypeId} {cs : List Value} (ht : Tryz.prog.underlying t = some .string) (h : Rd w t cs) : ∃ s : ByteArray, s.size ≤ maxLen ∧ RepL (c0 w) [.val (.string s)] cs := by
 obtain ⟨n, rfl, hw⟩ := rd_string ht h
 exact ⟨n, hw, repL_cons.2 ⟨rep_val _ _, repL_nil.2 rfl⟩⟩
set_option maxRecDepth 100000 in
theorem rd_slice_rep {α : Type} (enc : α → List PV) (Ok : α → Prop) {w : World} {t e : TypeId} {cs : List Value} (k : Nat) (ht : Tryz.prog.underlying t = some (.slice e)) (hk : Tryz.prog.cellsOf e = k) (hk0 : 0 < k) (hel : ∀ es, Rd w e es → ∃ x, Ok x ∧ RepL (c0 w) (enc x) es) (h : Rd w t cs) :
  ∃ l : List α, (∀ x ∈ l, Ok x) ∧ l.length ≤ maxLen ∧ RepL (c0 w) [.seq l.length (l.flatMap enc) .any] cs := by
 rcases rd_slice ht h with rfl | ⟨a, len, cap, rfl, hlc, hcap, hc⟩
 ·refine ⟨[], by simp, by simp, repL_cons.2 ⟨?_, repL_nil.2 rfl⟩⟩
  have := rep_nil (c0 w)
  exact imp_seq _ _ _ _ _ this
 ·rw [hk] at hc
  have build : ∀ n, n ≤ len → a.spot = none → ∃ (l : List α) (vs : List Value), l.length = n ∧ (∀ x ∈ l, Ok x) ∧ RepL (c0 w) (l.flatMap enc) vs ∧ vs.length = n * k ∧ ∀ j, j < n * k → w.cell? ⟨a.block, a.off + j, none⟩ = vs[j]? := by
   intro n hn hs
   induction n with
   | zero => exact ⟨[], [], rfl, by simp, repL_nil.2 rfl, by simp, fun j hj => by simp at hj⟩
   | succ n ih =>
    obtain ⟨l, vs, h1, h2, h3, h4, h5⟩ := ih (by omega)
    obtain ⟨es, h6, h7⟩ := hc n (by omega)
    obtain ⟨_, h8, h9⟩ := World.cells?_some h6
    obtain ⟨x, hx, hr⟩ := hel es h7
    refine ⟨l ++ [x], vs ++ es, by simp [h1], ?_, ?_, by rw [List.length_append, h4, h8, Nat.succ_mul], fun j hj => ?_⟩
    ·intro y hy; rcases List.mem_append.1 hy with hy | hy
     ·exact h2 y hy
     ·simp at hy; subst hy; exact hx
    ·rw [List.flatMap_append]; refine RepL.append h3 ?_; simpa using hr
    ·by_cases hj' : j < n * k
     ·rw [List.getElem?_append_left (by omega)]; exact h5 j hj'
     ·rw [List.getElem?_append_right (by omega), h4]
      rw [Nat.succ_mul] at hj
      rw [← h9 (j - n * k) (by omega)]
      have e : (a.add (n * k)).add (j - n * k) = ⟨a.block, a.off + j, none⟩ := by
       obtain ⟨b, o, sp⟩ := a
       simp only at hs
       subst hs
       rw [Addr.add_lit, Addr.add_lit]
       have : o + n * k + (j - n * k) = o + j := by omega
       rw [this]
      rw [e]
  by_cases h0 : cap = 0
  ·have hl0 : len = 0 := by omega
   subst hl0
   refine ⟨[], by simp, by simp, repL_cons.2 ⟨?_, repL_nil.2 rfl⟩⟩
   unfold Rep
   exact ⟨some a, cap, [], rfl, by simp, (fun h => by cases h), repL_nil.2 rfl, (fun b hb => .inr ⟨h0, rfl⟩), trivial⟩
  ·have hs : a.spot = none := by
    obtain ⟨es, h6, _⟩ := hc 0 (by omega)
    obtain ⟨_, h8, h9⟩ := World.cells?_some h6
    have h10 := h9 0 hk0
    simp only [Nat.zero_mul] at h10
    have e : (a.add 0).add 0 = a := by simp [Addr.add]
    rw [e, List.getElem?_eq_getElem (by omega)] at h10
    unfold World.cell? at h10
    cases hsp : a.spot with
    | none => rfl
    | some q => rw [hsp] at h10; split at h10 <;> simp at h10
   obtain ⟨l, vs, h1, h2, h3, h4, h5⟩ := build len (Nat.le_refl _) hs
   refine ⟨l, h2, by omega, repL_cons.2 ⟨?_, repL_nil.2 rfl⟩⟩
   unfold Rep
   refine ⟨some a, cap, vs, by rw [h1], by omega, (fun h => by cases h), h3, fun b hb => .inl ?_, trivial⟩
   cases hb
   refine ⟨hs, fun j u hj => ⟨?_, wr0 w _ _⟩⟩
   have hjl := lt_of_get hj
   have := h5 j (by omega)
   rw [hj] at this
   exact this
theorem reads_agg {w : World} {t : TypeId} {v : Value} {xs : List PV} (h : ∃ cs : Array Value, v = .agg cs ∧ RepL (c0 w) xs cs.toList) : Rep (c0 w) (.agg xs) v := by
 obtain ⟨cs, rfl, h⟩ := h
 unfold Rep
 exact ⟨cs.toList, by simp, h⟩
end Go.Proofs.YtphgdofmjpdhaaaGreat
namespace Go.Proofs.YtphgdofmjpdhaaaGreat
open Go.RowKit
set_option maxRecDepth 100000
set_option maxHeartbeats 4000000
theorem grow_some (n : Nat) (h0 : 0 < n) (hn : n ≤ 1000000) (w : World) : Calls Tryz.prog 62 #[.slice none 0 0, .int .i64 n] w fun e w' =>
  ∃ cs : Array Value, e = .returned (.slice (some ⟨w.heap.size, 0, none⟩) 0 (grownCap w n 0 3)) ∧ w' = w.drew.alloc (.cells cs 3) ∧ grownCap w n 0 3 ≤ cs.size := by
 have h1 : ¬ ((n : Int) < 0) := by omega
 have h3 : wrap64 ((n : Int) - 0) = (n : Int) := by unfold wrap64; omega
 have h4 : (n : Int) > 0 := by omega
 have fe : TyFacts Tryz.prog 3 ⟨1, 8, [.val (.int .i64 0)], .int .i64⟩ := lO (G := tys) tG rfl
 have fs : TyFacts Tryz.prog 28 ⟨1, 24, [.seq 0 [] .clip], .slice 3⟩ := lO (G := tys) tG rfl
 obtain ⟨i, z, hi, hsz, hby, hz, hzr⟩ := fe.info
 have hr := fun ty => Lib.run_append_nil_zeros (P := Tryz.prog) w 28 3 ty 3 i z .i64 .i64 (fs.slice rfl) (by kernel_rfl) hi hz n h0 (by rw [hsz]; exact Nat.one_pos) (by omega) (by rw [hby]; show n * 8 ≤ _; omega)
 have hGn : n ≤ grownCap w n 0 3 := grownCap_ge w _ _ _
 have hzl : z.cells.size = 1 := by have := RepL.length (hzr (c0 w)); rw [Array.length_toList] at this; rw [this]; rfl
 have hG63 : grownCap w n 0 3 ≤ 9223372036854775807 := by
  have := grownCap_le_maxLen w n 0 3 (by unfold maxLen; omega)
  unfold maxLen at this
  omega
 obtain ⟨G, hG⟩ : ∃ G, G = grownCap w n 0 3 := ⟨_, rfl⟩
 rw [← hG] at hr hGn hG63 ⊢
 have hcs : ∀ q : Array Value, q.size = 1 → G ≤ (Builtin.zeroCells q n ++ Builtin.zeroCells q (G - n)).size := by
  intro q hq
  rw [Array.size_append, size_zeroCells, size_zeroCells, hq]; omega
 clear hG
 go_enter Tryz.func62, Tryz.ntmps62
 go_wp2_with (at_builtin; refine Lib.wpList_append_run _ rfl _ _ _ _ rfl _ _ rfl rfl _ _ (hr _) ?_)
 all_goals (go_ret; exact ⟨rfl, _, rfl, hcs _ (by first | exact hzl | rfl)⟩)
theorem grow_zero (w : World) : Calls Tryz.prog 62 #[.slice none 0 0, .int .i64 0] w fun e w' => e = .returned (.slice none 0 0) ∧ w' = w := by
 go_enter Tryz.func62, Tryz.ntmps62
 go_wp2
 go_ret
 exact ⟨rfl, rfl⟩
theorem does_grow {B : Nat → Nat → Prop} {o : Oper} {T : Nat → PV} {H : List Ob} {x : Operand} {ats : Array TypeId} {n : Nat} (ho : o.op = .call { callee := .value (.func 62), args := #[.const (.slice none 0 0), x], argTypes := ats }) (hx : opv T x = .val (.int .i64 (n : Int))) (hn : n ≤ 1000000) :
  DoesC Tryz.prog B o T H (.seq 0 [] (.own H.length 1)) (H ++ [.free 0]) := by
 intro σ w a s ha
 have k1 := ha x (by rw [ho]; simp [Op.operands, Call.operands])
 rw [hx] at k1
 unfold Rep at k1
 refine ⟨62, #[.slice none 0 0, .int .i64 n], ?_, ?_⟩
 ·unfold execOp
  simp only [ho, resolve, Act.eval, Deferred.ofValue, invoke, Sem.run_bind, Sem.run_pure, Result.andThen_ok]
  rw [run_callFunc_go Tryz.func62 rfl rfl]
  have hev : a.eval x = .int .i64 n := k1
  simp [Act.eval] at hev ⊢
  exact hev
 ·by_cases h0 : n = 0
  ·subst h0
   refine Calls.mono (grow_zero w) ?_
   rintro e w' ⟨rfl, rfl⟩
   obtain ⟨s', st⟩ := grow_name s (Grows.refl w') (.free 0) none (fun b hb => by cases hb) (fun b hb => by simp only [cx] at hb; rw [ext_new] at hb; cases hb)
   refine ⟨_, _, rfl, ?_, s', st⟩
   unfold Rep
   exact ⟨none, 0, [], rfl, Nat.le_refl _, fun _ => ⟨rfl, rfl, rfl⟩, repL_nil.2 rfl, (fun b h => by cases h), by simp [cx], rfl, .inl rfl⟩
  ·refine Calls.mono (grow_some n (by omega) hn w) ?_
   rintro e w' ⟨cs, rfl, rfl, hcs⟩
   have gr : Grows w (w.drew.alloc (.cells cs 3)) := (Grows.drew w).trans (Grows.alloc _ _)
   have hheap : (w.drew.alloc (.cells cs 3)).heap[w.heap.size]? = some (Obj.cells cs 3 (0, 0)) := by
    show (w.heap.push _)[w.heap.size]? = _; simp
   obtain ⟨s', st⟩ := grow_name s gr (.free 0) (some w.heap.size) (fun b hb => by cases hb; exact Nat.le_refl _) (fun b hb => by
    simp only [cx] at hb; rw [ext_new] at hb; cases hb
    exact ⟨_, 3, hheap, Nat.zero_le _⟩)
   refine ⟨_, _, rfl, rep_own_new (vs := []) (repL_nil.2 rfl) (by simp) (ext_new _ _ _) hheap rfl (Nat.zero_le _) (by rw [Nat.mul_one]; exact hcs) (fun j hj => by simp at hj) (fun off hoff => by simp at hoff), s', st⟩
end Go.Proofs.YtphgdofmjpdhaaaGreat
namespace Go.Proofs.YtphgdofmjpdhaaaGreat
open Go.RowKit
set_option maxRecDepth 100000
set_option maxHeartbeats 4000000
def cRow (l : List Int) : List PV := [sq cInt l]
@[simp] theorem flat_cRow (x : List Int) : FlatL (cRow x) := by simp [cRow, FlatL]
@[simp] theorem flat_sRow (l : List (List Int)) : Flat (sq cRow l) := flat_sq flat_cRow l
theorem sum2 {a b : Nat} (ha : a ≤ 500000) (hb : b ≤ 500000) : PV.val (.int .i64 (IntKind.i64.wrap (IntKind.i64.wrap (0 + (a : Int)) + (b : Int)))) = .val (.int .i64 ((a + b : Nat) : Int)) :=
 congrArg (fun z => PV.val (Value.int .i64 z)) (by simp only [i64w]; unfold wrap64; omega)
theorem concat2 (a b : List Int) (ha : a.length ≤ 500000) (hb : b.length ≤ 500000) : PureC Tryz.prog 29 [sq cRow [a, b]] (sq cInt (a ++ b)) := by
 refine pW tG (rs := [.tmp 2]) Tryz.func29 rfl rfl rfl (by simp) (by simp) (fun B => ?_)
 refine zu1 ?_
 refine zu1 ?_
 refine Ws ?_
 refine zu3 ?_
 refine Wl ?_
 refine W_rounds 3 ?_
 show W _ _ _ _ _ _ _
 refine zu1 ?_
 refine Ws ?_
 refine Wt rfl (by rfl) ?_
 refine Wj ?_
 refine Ws ?_
 refine Wl ?_
 refine z8 ?_
 refine Wv tG rfl rfl rfl (by (simp_all; done)) (iN cRow 1 (fun _ => rfl) [] (by (simp_all; done))) ?_
 refine z1 ?_
 refine Wa 14 rfl (show _ = sq cInt a from rfl) ?_
 refine zs1 ?_
 refine zu5 ?_
 refine zu2 ?_
 refine Wf rfl (by (simp only [i64w, decide_eq_false_iff_not]; unfold wrap64; omega)) ?_
 refine Wj ?_
 refine W_region rfl ?_
 refine z1 ?_
 refine Wa 22 rfl (show _ = PV.val (.int .i64 1) from rfl) ?_
 refine zs1 ?_
 show W _ _ _ _ _ _ _
 refine zu1 ?_
 refine Ws ?_
 refine Wt rfl (by rfl) ?_
 refine Wj ?_
 refine Ws ?_
 refine Wl ?_
 refine z8 ?_
 refine Wv tG rfl rfl rfl (by (simp_all; done)) (iN cRow 1 (fun _ => rfl) [] (by (simp_all; done))) ?_
 refine z1 ?_
 refine Wa 14 rfl (show _ = sq cInt b from rfl) ?_
 refine zs1 ?_
 refine zu5 ?_
 refine zu2 ?_
 refine Wf rfl (by (simp only [i64w, decide_eq_false_iff_not]; unfold wrap64; omega)) ?_
 refine Wj ?_
 refine W_region rfl ?_
 refine z1 ?_
 refine Wa 22 rfl (show _ = PV.val (.int .i64 2) from rfl) ?_
 refine zs1 ?_
 show W _ _ _ _ _ _ _
 refine zu1 ?_
 refine Ws ?_
 refine Wf rfl (by rfl) ?_
 refine W_exit ?_
 refine zp1 ?_
 refine Wa 23 rfl (sum2 ha hb) ?_
 refine Wc rfl rfl (does_grow rfl rfl (by omega)) ?_
 refine zs1 ?_
 refine Ws ?_
 refine zu3 ?_
 refine Wl ?_
 refine W_rounds 3 ?_
 show W _ _ _ _ _ _ _
 refine zu1 ?_
 refine Ws ?_
 refine Wt rfl (by rfl) ?_
 refine Wj ?_
 refine Ws ?_
 refine Wl ?_
 refine z8 ?_
 refine Wv tG rfl rfl rfl (by (simp_all; done)) (iN cRow 1 (fun _ => rfl) [] (by (simp_all; done))) ?_
 refine z1 ?_
 refine Wa 30 rfl (show _ = sq cInt a from rfl) ?_
 refine zs1 ?_
 refine W_region rfl ?_
 refine zy2 ?_
 refine Wd rfl rfl (does_append_own (lO tG rfl) rfl (lO tG rfl) (lO tG rfl) rfl rfl rfl rfl (by simp) (by exact ⟨_, rfl⟩) (by exact ⟨rfl, rfl, flatMap_len _ 1 (fun _ => rfl) _, okC_flat _ (fun _ => rfl) _⟩) (by (dsimp only; omega)) (by (omega))) ?_
 refine Wa 33 rfl (sq_none cInt) ?_
 refine zs1 ?_
 refine W_region rfl ?_
 refine z1 ?_
 refine Wa 34 rfl (show _ = PV.val (.int .i64 1) from rfl) ?_
 refine zs1 ?_
 show W _ _ _ _ _ _ _
 refine zu1 ?_
 refine Ws ?_
 refine Wt rfl (by rfl) ?_
 refine Wj ?_
 refine Ws ?_
 refine Wl ?_
 refine z8 ?_
 refine Wv tG rfl rfl rfl (by (simp_all; done)) (iN cRow 1 (fun _ => rfl) [] (by (simp_all; done))) ?_
 refine z1 ?_
 refine Wa 30 rfl (show _ = sq cInt b from rfl) ?_
 refine zs1 ?_
 refine W_region rfl ?_
 refine zy2 ?_
 refine Wd rfl rfl (does_append_own (lO tG rfl) rfl (lO tG rfl) (lO tG rfl) rfl rfl rfl rfl (by simp) (by exact ⟨_, rfl⟩) (by exact ⟨rfl, rfl, flatMap_len _ 1 (fun _ => rfl) _, okC_flat _ (fun _ => rfl) _⟩) (by (dsimp only; omega)) (by (omega))) ?_
 refine Wa 33 rfl (sq_append cInt) ?_
 refine zs1 ?_
 refine W_region rfl ?_
 refine z1 ?_
 refine Wa 34 rfl (show _ = PV.val (.int .i64 2) from rfl) ?_
 refine zs1 ?_
 show W _ _ _ _ _ _ _
 refine zu1 ?_
 refine Ws ?_
 refine Wf rfl (by rfl) ?_
 refine W_exit ?_
 refine zu2 ?_
 refine zR ?_
 rfl
end Go.Proofs.YtphgdofmjpdhaaaGreat
namespace Go.Proofs.YtphgdofmjpdhaaaGreat
open Go.RowKit
set_option maxRecDepth 100000
set_option maxHeartbeats 4000000
theorem take_same {α : Type} {a b : List α} {k : Nat} (d : α) (hl : a.length = b.length) (hk : k < a.length) (h : a.take k = b.take k) (he : a.getD k d = b.getD k d) : a.take (k + 1) = b.take (k + 1) := by
 rw [take_snoc' a k d hk, take_snoc' b k d (by omega), h, he]
theorem not_same {α : Type} {a b : List α} {k : Nat} (d : α) (he : a.getD k d ≠ b.getD k d) : a ≠ b := fun h => he (by rw [h])
theorem ref_Same4 (a b : List Int) (ha : a.length ≤ 1000000) (hb : b.length ≤ 1000000) : PureC Tryz.prog 23 [sq cInt a, sq cInt b] (boo (decide (a = b))) := by
 refine pW tG (rs := [.tmp 4]) Tryz.func23 rfl rfl rfl (by simp) (by simp) (fun B => ?_)
 refine zu1 ?_
 refine Ws ?_
 refine zu5 ?_
 refine Wi rfl (fun hi1 => ?_) (fun hi1 => ?_)
 ·have hne : a ≠ b := fun h => by subst h; simp at hi1
  refine zu1 ?_
  refine zR ?_
  exact congrArg boo (decide_eq_false hne).symm
 ·have hl : a.length = b.length := by (try simp only [dnL] at *); omega
  refine Wj ?_
  refine Ws ?_
  refine zu1 ?_
  refine Wl ?_
  show W _ _ _ _ _ _ _
  refine W_loopS (fun (k : Nat) => [(0, sq cInt a), (1, sq cInt b), (5, i64 k)]) (fun (k : Nat) => []) (fun (k : Nat) => []) (fun (k : Nat) => k ≤ a.length ∧ a.take k = b.take k) (fun (k : Nat) => a.length - k) (0) (by simp) [] ?_ ?_
  ·exact fitT
  ·intro k hk
   refine Ws ?_
   refine zu4 ?_
   refine Wi rfl (fun hi2 => ?_) (fun hi2 => ?_)
   ·have hlt : k < a.length := by have := oT hi2; omega
    refine Wj ?_
    refine Ws ?_
    refine Wl ?_
    refine Ws ?_
    refine W_drawU [0, 0, 0, 1, 0, 0, 0, 1, 0] [0, 1, 2, 3, 4, 5, 6, 7, 8] mG rfl (by kernel_rfl) ?_
    iterate 2 refine z3 ?_
    refine Xi tG rfl rfl rfl rfl (fun _ => rfl) (by omega) (iN cInt 1 (fun _ => rfl) 0 (by omega)) ?_
    refine z5 ?_
    iterate 2 refine z3 ?_
    refine Xi tG rfl rfl rfl rfl (fun _ => rfl) (by omega) (iN cInt 1 (fun _ => rfl) 0 (by omega)) ?_
    refine z5 ?_
    refine z3 ?_
    refine WU_nil ?_
    refine Wi rfl (fun hi3 => ?_) (fun hi3 => ?_)
    ·have hne : a ≠ b := not_same 0 (k := k) (by simpa using hi3)
     refine zu1 ?_
     refine zR ?_
     exact congrArg boo (decide_eq_false hne).symm
    ·have he : a.getD k 0 = b.getD k 0 := by simpa using hi3
     refine Wj ?_
     refine W_region rfl ?_
     refine zs3 ?_
     exact ⟨k + 1, [], (by exact ⟨by omega, take_same 0 hl hlt hk.2 he⟩), (by omega), fitT⟩
   ·have hge : a.length ≤ k := by have := oF hi2; omega
    refine W_exit ?_
    refine zu1 ?_
    refine zR ?_
    exact congrArg boo (decide_eq_true (by have h1 := hk.2; rw [take_all' a k hge, take_all' b k (by omega)] at h1; exact h1)).symm
end Go.Proofs.YtphgdofmjpdhaaaGreat
namespace Go.Proofs.YtphgdofmjpdhaaaGreat
open Go.RowKit
set_option maxRecDepth 100000
set_option maxHeartbeats 4000000
theorem ref_Same7 (a b : VPic) : PureC Tryz.prog 37 [ePic a, ePic b] (boo (decide (a = b))) := by
 refine pW tG (rs := [.tmp 4]) Tryz.func37 rfl rfl rfl (by simp) (by simp) (fun B => ?_)
 refine zu3 ?_
 refine zp5 ?_
 refine z1 ?_
 refine Wb 10 rfl (fun hg1 => ?_) (fun hg1 => ?_)
 ·refine zy2 ?_
  refine Wd rfl rfl (does_bytes_str (lO tG rfl) rfl (lO tG rfl) rfl (lO tG rfl) rfl rfl rfl) ?_
  refine zy2 ?_
  refine Wd rfl rfl (does_bytes_str (lO tG rfl) rfl (lO tG rfl) rfl (lO tG rfl) rfl rfl rfl) ?_
  refine z1 ?_
  refine Wa 17 rfl (str_eql _ _) ?_
  refine zs2 ?_
  refine zR ?_
  (refine congrArg boo ?_; cases a; cases b; simp_all; done)
 ·refine z6 ?_
  iterate 6 refine z6 ?_
  refine zs2 ?_
  refine zR ?_
  (refine congrArg boo ?_; cases a; cases b; simp_all; done)
theorem frame_ext {x y : VFrame} (h1 : x.d = y.d) (h2 : x.r = y.r) (h3 : x.ip = y.ip) : x = y := by cases x; cases y; simp_all
theorem ref_frames (a b : List VFrame) (ha : a.length ≤ 1000000) (hb : b.length ≤ 1000000) : PureC Tryz.prog 35 [sq cFrame a, sq cFrame b] (boo (decide (a = b))) := by
 refine pW tG (rs := [.tmp 4]) Tryz.func35 rfl rfl rfl (by simp) (by simp) (fun B => ?_)
 refine zu1 ?_
 refine Ws ?_
 refine zu5 ?_
 refine Wi rfl (fun hi1 => ?_) (fun hi1 => ?_)
 ·have hne : a ≠ b := fun h => by subst h; simp at hi1
  refine zu1 ?_
  refine zR ?_
  exact congrArg boo (decide_eq_false hne).symm
 ·have hl : a.length = b.length := by (try simp only [dnL] at *); omega
  refine Wj ?_
  refine Ws ?_
  refine zu1 ?_
  refine Wl ?_
  show W _ _ _ _ _ _ _
  refine W_loopS (fun (k : Nat) => [(0, sq cFrame a), (1, sq cFrame b), (5, i64 k)]) (fun (k : Nat) => []) (fun (k : Nat) => []) (fun (k : Nat) => k ≤ a.length ∧ a.take k = b.take k) (fun (k : Nat) => a.length - k) (0) (by simp) [] ?_ ?_
  ·exact fitT
  ·intro k hk
   refine Ws ?_
   refine zu4 ?_
   refine Wi rfl (fun hi2 => ?_) (fun hi2 => ?_)
   ·have hlt : k < a.length := by have := oT hi2; omega
    refine Wj ?_
    refine Ws ?_
    refine Wl ?_
    refine Ws ?_
    refine W_drawU [0, 0, 0, 0, 1, 0, 0, 0, 0, 1, 0, 0, 0, 0, 0, 0, 1, 0, 0, 0, 0, 1, 0, 0, 0, 0, 0, 0, 0, 1, 0, 0, 0, 0, 1, 0, 0] [0, 1, 2, 3, 4, 5, 6, 7, 8, 9, 10, 11, 12, 13, 14, 15, 16, 17, 18, 19, 20, 21, 22, 23, 24, 25, 26, 27, 28, 29, 30, 31, 32, 33, 34, 35, 36] mG rfl (by kernel_rfl) ?_
    iterate 2 refine z3 ?_
    refine Xi tG rfl rfl rfl rfl (fun _ => rfl) (by omega) (iN cFrame 3 (fun _ => rfl) default (by omega)) ?_
    refine z3 ?_
    refine z5 ?_
    iterate 2 refine z3 ?_
    refine Xi tG rfl rfl rfl rfl (fun _ => rfl) (by omega) (iN cFrame 3 (fun _ => rfl) default (by omega)) ?_
    refine z3 ?_
    refine z5 ?_
    iterate 2 refine z3 ?_
    refine WU_split 28 rfl (fun hg1 => ?_) (fun hg1 => ?_)
    ·refine z7 ?_
     iterate 10 refine z7 ?_
     iterate 2 refine z3 ?_
     iterate 11 refine z7 ?_
     refine z3 ?_
     refine WU_nil ?_
     refine Wt rfl rfl ?_
     refine zu1 ?_
     refine zR ?_
     refine congrArg boo (decide_eq_false fun h => ?_).symm; subst h; simp_all
    ·refine z3 ?_
     refine z3 ?_
     refine Xi tG rfl rfl rfl rfl (fun _ => rfl) (by omega) (iN cFrame 3 (fun _ => rfl) default (by omega)) ?_
     refine z3 ?_
     refine z5 ?_
     iterate 2 refine z3 ?_
     refine Xi tG rfl rfl rfl rfl (fun _ => rfl) (by omega) (iN cFrame 3 (fun _ => rfl) default (by omega)) ?_
     refine z3 ?_
     refine z5 ?_
     iterate 3 refine z3 ?_
     refine WU_split 41 rfl (fun hg2 => ?_) (fun hg2 => ?_)
     ·refine z7 ?_
      iterate 10 refine z7 ?_
      refine z3 ?_
      refine WU_nil ?_
      refine Wt rfl rfl ?_
      refine zu1 ?_
      refine zR ?_
      refine congrArg boo (decide_eq_false fun h => ?_).symm; subst h; simp_all
     ·refine z3 ?_
      refine z3 ?_
      refine Xi tG rfl rfl rfl rfl (fun _ => rfl) (by omega) (iN cFrame 3 (fun _ => rfl) default (by omega)) ?_
      refine z3 ?_
      refine z5 ?_
      iterate 2 refine z3 ?_
      refine Xi tG rfl rfl rfl rfl (fun _ => rfl) (by omega) (iN cFrame 3 (fun _ => rfl) default (by omega)) ?_
      refine z3 ?_
      refine z5 ?_
      iterate 2 refine z3 ?_
      refine WU_nil ?_
      refine Wi rfl (fun hi3 => ?_) (fun hi3 => ?_)
      ·refine zu1 ?_
       refine zR ?_
       refine congrArg boo (decide_eq_false fun h => ?_).symm; subst h; simp_all
      ·refine Wj ?_
       refine W_region rfl ?_
       refine zs3 ?_
       have he : a.getD k default = b.getD k default := (by (try simp only [dnL] at *); exact frame_ext (by omega) (by omega) (by omega))
       exact ⟨k + 1, [], (by exact ⟨by omega, take_same default hl hlt hk.2 he⟩), (by omega), fitT⟩
   ·have hge : a.length ≤ k := by have := oF hi2; omega
    refine W_exit ?_
    refine zu1 ?_
    refine zR ?_
    exact congrArg boo (decide_eq_true (by have h1 := hk.2; rw [take_all' a k hge, take_all' b k (by omega)] at h1; exact h1)).symm
end Go.Proofs.YtphgdofmjpdhaaaGreat
namespace Go.Proofs.YtphgdofmjpdhaaaGreat
open Go.RowKit
set_option maxRecDepth 100000
set_option maxHeartbeats 4000000
theorem patch_ext {x y : VPatch} (h1 : x.place = y.place) (h2 : x.old = y.old) : x = y := by cases x; cases y; simp_all
theorem ref_Same3 (a b : VMem) (ha : a.old.length ≤ 1000000) (hb : b.old.length ≤ 1000000) : PureC Tryz.prog 34 [eMem a, eMem b] (boo (decide (a = b))) := by
 refine pW tG (rs := [.tmp 4]) Tryz.func34 rfl rfl rfl (by simp) (by simp) (fun B => ?_)
 refine zu3 ?_
 refine Ws ?_
 refine zp2 ?_
 refine Wd rfl rfl (does_bytes_str (lO tG rfl) rfl (lO tG rfl) rfl (lO tG rfl) rfl rfl rfl) ?_
 refine zy2 ?_
 refine Wd rfl rfl (does_bytes_str (lO tG rfl) rfl (lO tG rfl) rfl (lO tG rfl) rfl rfl rfl) ?_
 refine z1 ?_
 refine Wa 12 rfl (str_neq _ _) ?_
 refine z1 ?_
 refine Wb 13 rfl (fun hg1 => ?_) (fun hg1 => ?_)
 ·refine z6 ?_
  iterate 6 refine z6 ?_
  refine zs1 ?_
  refine Wt rfl rfl ?_
  refine zu1 ?_
  refine zR ?_
  refine congrArg boo (decide_eq_false fun h => ?_).symm; subst h; simp_all
 ·refine zy5 ?_
  refine zs3 ?_
  refine Wi rfl (fun hi1 => ?_) (fun hi1 => ?_)
  ·have hne : a ≠ b := fun h => by subst h; simp at hi1
   refine zu1 ?_
   refine zR ?_
   refine congrArg boo (decide_eq_false fun h => ?_).symm; subst h; simp_all
  ·have hl : a.old.length = b.old.length := by (try simp only [dnL] at *); omega
   have hb0 : a.b = b.b := by (try simp only [dnL] at *); simp_all
   refine Wj ?_
   refine Ws ?_
   refine zu1 ?_
   refine Wl ?_
   show W _ _ _ _ _ _ _
   refine W_loopS (fun (k : Nat) => [(2, .ptr 0 0), (3, .ptr 1 0), (5, i64 k)]) (fun (k : Nat) => [.cells (cMem a) 27, .cells (cMem b) 27]) (fun (k : Nat) => []) (fun (k : Nat) => k ≤ a.old.length ∧ a.old.take k = b.old.take k) (fun (k : Nat) => a.old.length - k) (0) (by simp) [] ?_ ?_
   ·exact fitT
   ·intro k hk
    refine Ws ?_
    refine zu5 ?_
    refine Wi rfl (fun hi2 => ?_) (fun hi2 => ?_)
    ·have hlt : k < a.old.length := by have := oT hi2; omega
     refine Wj ?_
     refine Ws ?_
     refine Wl ?_
     refine Ws ?_
     refine W_drawU [0, 1, 0, 0, 0, 1, 0, 1, 0, 0, 0, 1, 0, 0, 0, 1, 0, 0, 0, 1, 0, 0, 1, 0, 0, 0, 1, 0, 0, 0] [0, 1, 2, 3, 4, 5, 6, 7, 8, 9, 10, 11, 12, 13, 14, 15, 16, 17, 18, 19, 20, 21, 22, 23, 24, 25, 26, 27, 28, 29] mG rfl (by kernel_rfl) ?_
     refine z3 ?_
     refine z5 ?_
     refine z3 ?_
     refine Xi tG rfl rfl rfl rfl (fun _ => rfl) (by omega) (iN cPatch 2 (fun _ => rfl) default (by omega)) ?_
     refine z3 ?_
     refine z5 ?_
     refine z3 ?_
     refine z5 ?_
     refine z3 ?_
     refine Xi tG rfl rfl rfl rfl (fun _ => rfl) (by omega) (iN cPatch 2 (fun _ => rfl) default (by omega)) ?_
     refine z3 ?_
     refine z5 ?_
     iterate 2 refine z3 ?_
     refine WU_split 42 rfl (fun hg2 => ?_) (fun hg2 => ?_)
     ·refine z7 ?_
      iterate 14 refine z7 ?_
      refine z3 ?_
      refine WU_nil ?_
      refine Wt rfl rfl ?_
      refine zu1 ?_
      refine zR ?_
      refine congrArg boo (decide_eq_false fun h => ?_).symm; subst h; simp_all
     ·refine z3 ?_
      refine z5 ?_
      refine z3 ?_
      refine Xi tG rfl rfl rfl rfl (fun _ => rfl) (by omega) (iN cPatch 2 (fun _ => rfl) default (by omega)) ?_
      refine z3 ?_
      refine z5 ?_
      refine WU_does0 rfl rfl rfl rfl (fun _ => does_bytes_str (lO tG rfl) rfl (lO tG rfl) rfl (lO tG rfl) rfl rfl rfl) ?_
      refine z3 ?_
      refine z5 ?_
      refine z3 ?_
      refine Xi tG rfl rfl rfl rfl (fun _ => rfl) (by omega) (iN cPatch 2 (fun _ => rfl) default (by omega)) ?_
      refine z3 ?_
      refine z5 ?_
      refine WU_does0 rfl rfl rfl rfl (fun _ => does_bytes_str (lO tG rfl) rfl (lO tG rfl) rfl (lO tG rfl) rfl rfl rfl) ?_
      refine z3 ?_
      refine Xa 57 rfl (str_neq _ _) ?_
      refine z3 ?_
      refine WU_nil ?_
      refine Wi rfl (fun hi3 => ?_) (fun hi3 => ?_)
      ·refine zu1 ?_
       refine zR ?_
       refine congrArg boo (decide_eq_false fun h => ?_).symm; subst h; simp_all
      ·refine Wj ?_
       refine W_region rfl ?_
       refine zs3 ?_
       have he : a.old.getD k default = b.old.getD k default := (by (try simp only [dnL] at *); exact patch_ext (by omega) (by assumption))
       exact ⟨k + 1, [], (by exact ⟨by omega, take_same default hl hlt hk.2 he⟩), (by omega), fitT⟩
    ·have hge : a.old.length ≤ k := by have := oF hi2; omega
     refine W_exit ?_
     refine zu1 ?_
     refine zR ?_
     exact congrArg boo (decide_eq_true (by have h1 := hk.2; rw [take_all' _ k hge, take_all' _ k (by omega)] at h1; cases a; cases b; simp_all)).symm
end Go.Proofs.YtphgdofmjpdhaaaGreat
namespace Go.Proofs.YtphgdofmjpdhaaaGreat
open Go.RowKit
set_option maxRecDepth 100000
set_option maxHeartbeats 4000000
def fitsV (c : VConf) : Prop := 2048 ≤ c.mem ∧ c.mem ≤ 65536 ∧ c.mem.tmod 8 = 0 ∧ 1 ≤ c.data ∧ c.data ≤ 256 ∧ 1 ≤ c.ret ∧ c.ret ≤ 256 ∧ 200 ≤ c.words ∧ c.words ≤ 1024 ∧ 0 ≤ c.out ∧ c.out ≤ 65536
instance (c : VConf) : Decidable (fitsV c) := by unfold fitsV; infer_instance
theorem ref_Fits (c : VConf) : PureC Tryz.prog 40 [eConf c] (boo (decide (fitsV c))) := by
 refine pW tG (rs := [.tmp 2]) Tryz.func40 rfl rfl rfl (by simp) (by simp) (fun B => ?_)
 refine zu2 ?_
 refine zp4 ?_
 refine Wb 6 rfl (fun hg1 => ?_) (fun hg1 => ?_)
 ·refine zy5 ?_
  refine Wb 11 rfl (fun hg2 => ?_) (fun hg2 => ?_)
  ·refine zy5 ?_
   refine z1 ?_
   refine Wb 17 rfl (fun hg3 => ?_) (fun hg3 => ?_)
   ·refine zy5 ?_
    refine Wb 22 rfl (fun hg4 => ?_) (fun hg4 => ?_)
    ·refine zy5 ?_
     refine Wb 27 rfl (fun hg5 => ?_) (fun hg5 => ?_)
     ·refine zy5 ?_
      refine Wb 32 rfl (fun hg6 => ?_) (fun hg6 => ?_)
      ·refine zy5 ?_
       refine Wb 37 rfl (fun hg7 => ?_) (fun hg7 => ?_)
       ·refine zy5 ?_
        refine Wb 42 rfl (fun hg8 => ?_) (fun hg8 => ?_)
        ·refine zy5 ?_
         refine Wb 47 rfl (fun hg9 => ?_) (fun hg9 => ?_)
         ·refine zy5 ?_
          refine Wb 52 rfl (fun hg10 => ?_) (fun hg10 => ?_)
          ·refine zs5 ?_
           refine zR ?_
           (refine congrArg boo (decide_eq_decide.2 ?_); unfold fitsV; (try simp only [dnL] at *); omega)
          ·refine z6 ?_
           iterate 2 refine z6 ?_
           refine zs2 ?_
           refine zR ?_
           (refine congrArg boo (decide_eq_false ?_).symm; unfold fitsV; (try simp only [dnL] at *); omega)
         ·refine z6 ?_
          iterate 2 refine z6 ?_
          refine zy2 ?_
          iterate 3 refine z6 ?_
          refine zs2 ?_
          refine zR ?_
          (refine congrArg boo (decide_eq_false ?_).symm; unfold fitsV; (try simp only [dnL] at *); omega)
        ·refine z6 ?_
         iterate 2 refine z6 ?_
         refine zy2 ?_
         iterate 3 refine z6 ?_
         refine zy2 ?_
         iterate 3 refine z6 ?_
         refine zs2 ?_
         refine zR ?_
         (refine congrArg boo (decide_eq_false ?_).symm; unfold fitsV; (try simp only [dnL] at *); omega)
       ·refine z6 ?_
        iterate 2 refine z6 ?_
        refine zy2 ?_
        iterate 3 refine z6 ?_
        refine zy2 ?_
        iterate 3 refine z6 ?_
        refine zy2 ?_
        iterate 3 refine z6 ?_
        refine zs2 ?_
        refine zR ?_
        (refine congrArg boo (decide_eq_false ?_).symm; unfold fitsV; (try simp only [dnL] at *); omega)
      ·refine z6 ?_
       iterate 2 refine z6 ?_
       refine zy2 ?_
       iterate 3 refine z6 ?_
       refine zy2 ?_
       iterate 3 refine z6 ?_
       refine zy2 ?_
       iterate 3 refine z6 ?_
       refine zy2 ?_
       iterate 3 refine z6 ?_
       refine zs2 ?_
       refine zR ?_
       (refine congrArg boo (decide_eq_false ?_).symm; unfold fitsV; (try simp only [dnL] at *); omega)
     ·refine z6 ?_
      iterate 2 refine z6 ?_
      refine zy2 ?_
      iterate 3 refine z6 ?_
      refine zy2 ?_
      iterate 3 refine z6 ?_
      refine zy2 ?_
      iterate 3 refine z6 ?_
      refine zy2 ?_
      iterate 3 refine z6 ?_
      refine zy2 ?_
      iterate 3 refine z6 ?_
      refine zs2 ?_
      refine zR ?_
      (refine congrArg boo (decide_eq_false ?_).symm; unfold fitsV; (try simp only [dnL] at *); omega)
    ·refine z6 ?_
     iterate 2 refine z6 ?_
     refine zy2 ?_
     iterate 3 refine z6 ?_
     refine zy2 ?_
     iterate 3 refine z6 ?_
     refine zy2 ?_
     iterate 3 refine z6 ?_
     refine zy2 ?_
     iterate 3 refine z6 ?_
     refine zy2 ?_
     iterate 3 refine z6 ?_
     refine zy2 ?_
     iterate 3 refine z6 ?_
     refine zs2 ?_
     refine zR ?_
     (refine congrArg boo (decide_eq_false ?_).symm; unfold fitsV; (try simp only [dnL] at *); omega)
   ·refine z6 ?_
    iterate 2 refine z6 ?_
    refine zy2 ?_
    iterate 3 refine z6 ?_
    refine zy2 ?_
    iterate 3 refine z6 ?_
    refine zy2 ?_
    iterate 3 refine z6 ?_
    refine zy2 ?_
    iterate 3 refine z6 ?_
    refine zy2 ?_
    iterate 3 refine z6 ?_
    refine zy2 ?_
    iterate 3 refine z6 ?_
    refine zy2 ?_
    iterate 3 refine z6 ?_
    refine zs2 ?_
    refine zR ?_
    (refine congrArg boo (decide_eq_false ?_).symm; unfold fitsV; (try simp only [dnL] at *); omega)
  ·refine z6 ?_
   iterate 3 refine z6 ?_
   refine zy2 ?_
   iterate 3 refine z6 ?_
   refine zy2 ?_
   iterate 3 refine z6 ?_
   refine zy2 ?_
   iterate 3 refine z6 ?_
   refine zy2 ?_
   iterate 3 refine z6 ?_
   refine zy2 ?_
   iterate 3 refine z6 ?_
   refine zy2 ?_
   iterate 3 refine z6 ?_
   refine zy2 ?_
   iterate 3 refine z6 ?_
   refine zy2 ?_
   iterate 3 refine z6 ?_
   refine zs2 ?_
   refine zR ?_
   (refine congrArg boo (decide_eq_false ?_).symm; unfold fitsV; (try simp only [dnL] at *); omega)
 ·refine z6 ?_
  iterate 2 refine z6 ?_
  refine zy2 ?_
  iterate 4 refine z6 ?_
  refine zy2 ?_
  iterate 3 refine z6 ?_
  refine zy2 ?_
  iterate 3 refine z6 ?_
  refine zy2 ?_
  iterate 3 refine z6 ?_
  refine zy2 ?_
  iterate 3 refine z6 ?_
  refine zy2 ?_
  iterate 3 refine z6 ?_
  refine zy2 ?_
  iterate 3 refine z6 ?_
  refine zy2 ?_
  iterate 3 refine z6 ?_
  refine zy2 ?_
  iterate 3 refine z6 ?_
  refine zs2 ?_
  refine zR ?_
  (refine congrArg boo (decide_eq_false ?_).symm; unfold fitsV; (try simp only [dnL] at *); omega)
def picRight (p : VPic) : Prop := p.b.length ≤ 130 ∧ (p.on = true ∨ p.b.length = 0)
instance (p : VPic) : Decidable (picRight p) := by unfold picRight; infer_instance
theorem ref_Right7 (p : VPic) : PureC Tryz.prog 43 [ePic p] (boo (decide (picRight p))) := by
 refine pW tG (rs := [.tmp 2]) Tryz.func43 rfl rfl rfl (by simp) (by simp) (fun B => ?_)
 refine zu2 ?_
 refine zp5 ?_
 refine Wb 7 rfl (fun hg1 => ?_) (fun hg1 => ?_)
 ·refine zy3 ?_
  refine Wb 10 rfl (fun hg2 => ?_) (fun hg2 => ?_)
  ·refine z6 ?_
   iterate 3 refine z6 ?_
   refine zs3 ?_
   refine zR ?_
   (refine congrArg boo ?_; rw [Bool.eq_iff_iff]; unfold picRight; (try simp only [dnL] at *); simp_all; omega)
  ·refine zy5 ?_
   refine zs2 ?_
   refine zR ?_
   (refine congrArg boo ?_; rw [Bool.eq_iff_iff]; unfold picRight; (try simp only [dnL] at *); simp_all; done)
 ·refine z6 ?_
  iterate 7 refine z6 ?_
  refine zs2 ?_
  refine zR ?_
  (refine congrArg boo ?_; rw [Bool.eq_iff_iff]; unfold picRight; (try simp only [dnL] at *); simp_all; omega)
end Go.Proofs.YtphgdofmjpdhaaaGreat
namespace Go.Proofs.YtphgdofmjpdhaaaGreat
open Go.RowKit
set_option maxRecDepth 100000
set_option maxHeartbeats 4000000
def memRight (m : VMem) : Bool := m.old.all (fun p => memThere m p.place p.old.length) && (decide (m.b.length ≤ 65536) && decide (m.b.length % 8 = 0))
theorem all_snoc {α : Type} {f : α → Bool} {l : List α} {k : Nat} (d : α) (hk : k < l.length) (h : (l.take k).all f = true) (hf : f (l.getD k d) = true) : (l.take (k + 1)).all f = true := by
 rw [take_snoc' l k d hk, List.all_append, h]; simp only [List.all_cons, List.all_nil, hf]; rfl
theorem all_no {α : Type} {f : α → Bool} {l : List α} {k : Nat} (d : α) (hk : k < l.length) (hf : f (l.getD k d) = false) : l.all f = false := by
 rw [List.all_eq_false]
 refine ⟨l.getD k d, ?_, by rw [hf]; simp⟩
 unfold List.getD
 rw [List.getElem?_eq_getElem hk]
 exact List.getElem_mem hk
theorem mem_getD {α : Type} {l : List α} {k : Nat} (d : α) (hk : k < l.length) : l.getD k d ∈ l := by
 unfold List.getD
 rw [List.getElem?_eq_getElem hk]
 exact List.getElem_mem hk
theorem ref_There2 (m : VMem) (at_ n : Int) (hm : m.b.length ≤ 9223372036854775807) (ha : n = 0 ∨ Fit64 at_) (hn : Fit64 n) : PureC Tryz.prog 75 [eMem m, i64 at_, i64 n] (boo (memThere m at_ n)) := by
 unfold Fit64 at ha hn
 refine pW tG (rs := [.tmp 6]) Tryz.func75 rfl rfl rfl (by simp) (by simp) (fun B => ?_)
 refine zu2 ?_
 refine Ws ?_
 refine zu2 ?_
 refine Wi rfl (fun hi1 => ?_) (fun hi1 => ?_)
 ·refine zu1 ?_
  refine zR ?_
  exact congrArg boo (by (simp only [memThere, i64w]; rw [Bool.eq_iff_iff]; simp only [dnL] at *; (try simp only [i64w, wrap64] at *); omega))
 ·refine Wj ?_
  refine zp3 ?_
  refine Wb 11 rfl (fun hg1 => ?_) (fun hg1 => ?_)
  ·refine zy4 ?_
   refine Wb 15 rfl (fun hg2 => ?_) (fun hg2 => ?_)
   ·refine zy5 ?_
    refine zy2 ?_
    refine Wb 22 rfl (fun hg3 => ?_) (fun hg3 => ?_)
    ·refine zy5 ?_
     refine zs4 ?_
     refine zR ?_
     exact congrArg boo (by (simp only [memThere, i64w]; rw [Bool.eq_iff_iff]; simp only [dnL] at *; (try simp only [i64w, wrap64] at *); omega))
    ·refine z6 ?_
     iterate 6 refine z6 ?_
     refine zs2 ?_
     refine zR ?_
     exact congrArg boo (by (simp only [memThere, i64w]; rw [Bool.eq_iff_iff]; simp only [dnL] at *; (try simp only [i64w, wrap64] at *); omega))
   ·refine z6 ?_
    iterate 4 refine z6 ?_
    refine zy2 ?_
    iterate 7 refine z6 ?_
    refine zs2 ?_
    refine zR ?_
    exact congrArg boo (by (simp only [memThere, i64w]; rw [Bool.eq_iff_iff]; simp only [dnL] at *; (try simp only [i64w, wrap64] at *); omega))
  ·refine z6 ?_
   refine z6 ?_
   refine zy2 ?_
   iterate 5 refine z6 ?_
   refine zy2 ?_
   iterate 7 refine z6 ?_
   refine zs2 ?_
   refine zR ?_
   exact congrArg boo (by (simp only [memThere, i64w]; rw [Bool.eq_iff_iff]; simp only [dnL] at *; (try simp only [i64w, wrap64] at *); omega))
theorem ref_Right3 (m : VMem) (hb : m.b.length ≤ 9223372036854775807) (ho : m.old.length ≤ 9223372036854775807) (hp : ∀ p ∈ m.old, (p.old.length = 0 ∨ Fit64 p.place) ∧ p.old.length ≤ 9223372036854775807) : PureC Tryz.prog 41 [eMem m] (boo (memRight m)) := by
 refine pW tG (rs := [.tmp 2]) Tryz.func41 rfl rfl rfl (by simp) (by simp) (fun B => ?_)
 refine zu2 ?_
 refine Ws ?_
 refine zu1 ?_
 refine Wl ?_
 show W _ _ _ _ _ _ _
 refine W_loopS (fun (k : Nat) => [(1, .ptr 0 0), (3, i64 k)]) (fun (k : Nat) => [.cells (cMem m) 27]) (fun (k : Nat) => []) (fun (k : Nat) => k ≤ m.old.length ∧ (m.old.take k).all (fun p => memThere m p.place p.old.length) = true) (fun (k : Nat) => m.old.length - k) (0) (by simp) [] ?_ ?_
 ·exact fitT
 ·intro k hk
  refine Ws ?_
  refine zu5 ?_
  refine Wi rfl (fun hi1 => ?_) (fun hi1 => ?_)
  ·have hlt : k < m.old.length := by have := oT hi1; omega
   have hq := hp _ (mem_getD default hlt)
   refine Wj ?_
   refine Ws ?_
   refine Wl ?_
   refine Ws ?_
   refine W_drawU [1, 0, 1, 0, 0, 0, 1, 0, 1, 0, 0, 0, 1, 0, 0, 0] [0, 1, 2, 3, 4, 5, 6, 7, 8, 9, 10, 11, 12, 13, 14, 15] mG rfl (by kernel_rfl) ?_
   refine z5 ?_
   refine z3 ?_
   refine z5 ?_
   refine z3 ?_
   refine Xi tG rfl rfl rfl rfl (fun _ => rfl) (by omega) (iN cPatch 2 (fun _ => rfl) default (by omega)) ?_
   refine z3 ?_
   refine z5 ?_
   refine z3 ?_
   refine z5 ?_
   refine z3 ?_
   refine Xi tG rfl rfl rfl rfl (fun _ => rfl) (by omega) (iN cPatch 2 (fun _ => rfl) default (by omega)) ?_
   refine z3 ?_
   refine z5 ?_
   refine z3 ?_
   refine Xc rfl rfl rfl rfl (fun _ => dC rfl Tryz.func75 rfl rfl ((ref_There2 m (m.old.getD k default).place (m.old.getD k default).old.length (by omega) (by rcases hq.1 with h | h; exact .inl (by omega); exact .inr h) (by unfold Fit64; omega)) _)) ?_
   refine z3 ?_
   refine WU_nil ?_
   refine zu2 ?_
   refine Wi rfl (fun hi2 => ?_) (fun hi2 => ?_)
   ·have hno : m.old.all (fun p => memThere m p.place p.old.length) = false := all_no default hlt (by simpa using hi2)
    refine zu1 ?_
    refine zR ?_
    refine congrArg boo ?_; unfold memRight; rw [hno]; rfl
   ·have hyes : memThere m (m.old.getD k default).place (m.old.getD k default).old.length = true := by simpa using hi2
    refine Wj ?_
    refine W_region rfl ?_
    refine zs3 ?_
    exact ⟨k + 1, [], (by exact ⟨by omega, all_snoc default hlt hk.2 hyes⟩), (by omega), fitT⟩
  ·have hge : m.old.length ≤ k := by have := oF hi1; omega
   have hall : m.old.all (fun p => memThere m p.place p.old.length) = true := by have h1 := hk.2; rw [take_all' _ k hge] at h1; exact h1
   have ht : (m.b.length : Int).tmod 8 = ((m.b.length % 8 : Nat) : Int) := by rw [Int.tmod_eq_emod_of_nonneg (by omega)]; omega
   refine W_exit ?_
   refine zp5 ?_
   refine Wb 33 rfl (fun hg1 => ?_) (fun hg1 => ?_)
   ·refine zy5 ?_
    refine zs2 ?_
    refine zR ?_
    refine congrArg boo ?_; unfold memRight; rw [hall, Bool.true_and]; rw [Bool.eq_iff_iff]; (try simp only [dnL] at *); omega
   ·refine z6 ?_
    iterate 4 refine z6 ?_
    refine zs2 ?_
    refine zR ?_
    refine congrArg boo ?_; unfold memRight; rw [hall, Bool.true_and]; rw [Bool.eq_iff_iff]; (try simp only [dnL] at *); omega
end Go.Proofs.YtphgdofmjpdhaaaGreat
namespace Go.Proofs.YtphgdofmjpdhaaaGreat
open Go.RowKit
set_option maxRecDepth 100000
set_option maxHeartbeats 4000000
theorem ref_Names : PureC Tryz.prog 30 [] (sq cStr names) := by
 refine pW tG (rs := [.tmp 0]) Tryz.func30 rfl rfl rfl (by simp) (by simp) (fun B => ?_)
 refine zu1 ?_
 refine zp1 ?_
 refine Wa 1 rfl (bsL cStr [_, _, _, _, _, _, _, _, _, _, _, _, _, _, _, _, _, _, _, _, _, _, _, _, _, _, _, _, _, _, _, _, _, _, _, _, _, _, _, _, _, _, _, _, _, _, _, _, _, _, _, _, _, _, _, _, _, _, _, _, _, _, _, _, _, _, _, _, _, _, _, _, _, _, _, _, _, _, _, _, _, _, _, _, _, _, _, _, _, _, _, _, _, _, _, _, _, _, _, _, _, _, _, _, _, _, _, _, _, _, _, _, _, _, _, _, _, _, _, _, _, _, _, _, _, _, _, _, _, _] rfl rfl) ?_
 refine zs1 ?_
 refine zR ?_
 exact rfl
theorem vm_Specials : PureC Tryz.prog 226 [] (sq cStr specials) := by
 refine pW tG (rs := [.tmp 0]) Tryz.func226 rfl rfl rfl (by simp) (by simp) (fun B => ?_)
 refine zu1 ?_
 refine zp1 ?_
 refine Wa 1 rfl (bsL cStr [_, _, _, _, _, _, _, _, _, _, _, _, _, _, _, _, _, _, _, _, _, _, _, _, _, _, _, _, _, _, _, _, _, _, _, _, _] rfl rfl) ?_
 refine zs1 ?_
 refine zR ?_
 exact rfl
theorem ref_Specials : PureC Tryz.prog 77 [] (sq cStr specials) := by
 refine pW tG (rs := [.tmp 0]) Tryz.func77 rfl rfl rfl (by simp) (by simp) (fun B => ?_)
 refine zu1 ?_
 refine zp1 ?_
 refine Wa 1 rfl (bsL cStr [_, _, _, _, _, _, _, _, _, _, _, _, _, _, _, _, _, _, _, _, _, _, _, _, _, _, _, _, _, _, _, _, _, _, _, _, _] rfl rfl) ?_
 refine zs1 ?_
 refine zR ?_
 exact rfl
theorem ref_Start : PureC Tryz.prog 190 [] (i64 1368) := by
 refine pW tG (rs := [.tmp 0]) Tryz.func190 rfl rfl rfl (by simp) (by simp) (fun B => ?_)
 refine zu1 ?_
 refine zu1 ?_
 refine zR ?_
 rfl
def numberS (name : Str) : Int := match names.findIdx? (fun x => decide (x = name)) with
 | some i => i
 | none => -1
theorem number_at {name : Str} {k : Nat} (hk : k < names.length) (hno : ∀ j, j < k → names.getD j [] ≠ name) (h : names.getD k [] = name) : numberS name = k := by
 have : names.findIdx? (fun x => decide (x = name)) = some k := by
  rw [List.findIdx?_eq_some_iff_getElem]
  refine ⟨hk, ?_, fun j hj => ?_⟩
  ·simp only [decide_eq_true_eq]; rw [← h]; unfold List.getD; rw [List.getElem?_eq_getElem hk]; rfl
  ·have := hno j hj
   unfold List.getD at this
   rw [List.getElem?_eq_getElem (by omega)] at this
   simpa using this
 unfold numberS
 rw [this]
theorem number_no {name : Str} (hno : ∀ j, j < names.length → names.getD j [] ≠ name) : numberS name = -1 := by
 have : names.findIdx? (fun x => decide (x = name)) = none := by
  rw [List.findIdx?_eq_none_iff]
  intro x hx
  obtain ⟨j, hj, rfl⟩ := List.mem_iff_getElem.1 hx
  have := hno j hj
  unfold List.getD at this
  rw [List.getElem?_eq_getElem hj] at this
  simpa using this
 unfold numberS
 rw [this]
theorem ref_Number (name : Str) : PureC Tryz.prog 22 [str name] (i64 (numberS name)) := by
 have hlen : names.length = 130 := names_len
 refine pW tG (rs := [.tmp 2]) Tryz.func22 rfl rfl rfl (by simp) (by simp) (fun B => ?_)
 refine zu1 ?_
 refine z8 ?_
 refine Wc rfl rfl (dC rfl Tryz.func30 rfl rfl ((ref_Names) _)) ?_
 refine zs1 ?_
 refine Ws ?_
 refine zu1 ?_
 refine Wl ?_
 show W _ _ _ _ _ _ _
 refine W_loopS (fun (k : Nat) => [(0, str name), (3, sq cStr names), (4, i64 k)]) (fun (k : Nat) => []) (fun (k : Nat) => []) (fun (k : Nat) => k ≤ names.length ∧ ∀ j, j < k → names.getD j [] ≠ name) (fun (k : Nat) => names.length - k) (0) (by simp) [] ?_ ?_
 ·exact fitT
 ·intro k hk
  refine Ws ?_
  refine zu4 ?_
  refine Wi rfl (fun hi1 => ?_) (fun hi1 => ?_)
  ·have hlt : k < names.length := by have := oT hi1; omega
   refine Wj ?_
   refine Ws ?_
   refine Wl ?_
   refine zp2 ?_
   refine Wv tG rfl rfl rfl (by omega) (iN cStr 1 (fun _ => rfl) [] (by omega)) ?_
   refine zy3 ?_
   refine Wa 17 rfl (str_eql _ _) ?_
   refine Wn ?_
   refine Wi rfl (fun hi2 => ?_) (fun hi2 => ?_)
   ·have hy : names.getD k [] = name := oT hi2
    refine zu2 ?_
    refine zR ?_
    exact congrArg i64 (number_at hlt hk.2 hy).symm
   ·have hn : names.getD k [] ≠ name := oF hi2
    refine Wj ?_
    refine W_region rfl ?_
    refine zs3 ?_
    exact ⟨k + 1, [], (by exact ⟨by omega, fun j hj => by rcases Nat.lt_or_ge j k with h | h; exact hk.2 j h; rw [show j = k by omega]; exact hn⟩), (by omega), fitT⟩
  ·have hge : names.length ≤ k := by have := oF hi1; omega
   refine W_exit ?_
   refine zu1 ?_
   refine zR ?_
   exact congrArg i64 (number_no (fun j hj => hk.2 j (by omega))).symm
end Go.Proofs.YtphgdofmjpdhaaaGreat
namespace Go.Proofs.YtphgdofmjpdhaaaGreat
open Go.RowKit
set_option maxRecDepth 100000
set_option maxHeartbeats 4000000
theorem vm_within (n lo hi : Int) : PureC Tryz.prog 243 [i64 n, i64 lo, i64 hi] (boo (decide (lo ≤ n ∧ n ≤ hi))) := by
 refine pW tG (rs := [.tmp 6]) Tryz.func243 rfl rfl rfl (by simp) (by simp) (fun B => ?_)
 refine zu1 ?_
 refine zp4 ?_
 refine Wb 10 rfl (fun hg1 => ?_) (fun hg1 => ?_)
 ·refine zs5 ?_
  refine zR ?_
  (refine congrArg boo (decide_eq_decide.2 ?_); (try simp only [dnL] at *); omega)
 ·refine z6 ?_
  iterate 2 refine z6 ?_
  refine zs2 ?_
  refine zR ?_
  (refine congrArg boo (decide_eq_false ?_).symm; (try simp only [dnL] at *); omega)
theorem vm_Start : PureC Tryz.prog 130 [] (i64 1368) := by
 have h1 := names_len
 have h2 := specials_len
 refine pW tG (rs := [.tmp 0]) Tryz.func130 rfl rfl rfl (by simp) (by simp) (fun B => ?_)
 refine zu1 ?_
 refine z8 ?_
 refine Wc rfl rfl (dC rfl Tryz.func25 rfl rfl ((vm_Names) _)) ?_
 refine z1 ?_
 refine Wc rfl rfl (dC rfl Tryz.func226 rfl rfl ((vm_Specials) _)) ?_
 refine zs5 ?_
 refine zR ?_
 refine congrArg i64 ?_; rw [h1, h2]; decide
end Go.Proofs.YtphgdofmjpdhaaaGreat
namespace Go.Proofs.YtphgdofmjpdhaaaGreat
open Go.RowKit
set_option maxRecDepth 100000
set_option maxHeartbeats 4000000
def vmPrint (v : VVm) (s : Str) : VVm × Int := if (s.length : Int) > v.conf.out - v.out.length then (v, -260) else ({ v with out := v.out ++ s }, 0)
def tVm (r : VVm × Int) : PV := tup2 (eVm r.1) (i64 r.2)
@[simp] theorem flat_tVm (r : VVm × Int) : Flat (tVm r) := by simp [tVm]
theorem ref_Print (v : VVm) (s : Str) (hc : 0 ≤ v.conf.out ∧ v.conf.out ≤ 1000000) (ho : v.out.length ≤ 1000000) (hs : s.length ≤ 140737488355328) : PureC Tryz.prog 71 [eVm v, str s] (tVm (vmPrint v s)) := by
 have w1 : IntKind.i64.wrap (v.conf.out - v.out.length) = v.conf.out - v.out.length := by ((rw [i64w]; unfold wrap64; (try simp only [dnL] at *); omega))
 refine pW tG (rs := [.cell 4 36, .tmp 5]) Tryz.func71 rfl rfl rfl (by simp) (by simp) (fun B => ?_)
 refine zu3 ?_
 refine Ws ?_
 refine zp2 ?_
 refine Wa 7 rfl (str_len _) ?_
 refine zy5 ?_
 refine zs3 ?_
 refine Wi rfl (fun hi1 => ?_) (fun hi1 => ?_)
 ·have h0 : (s.length : Int) > v.conf.out - v.out.length := by (try simp only [dnL] at *); omega
  refine zu3 ?_
  refine zR ?_
  rw [vmPrint, if_pos h0]; rfl
 ·have h0 : ¬ (s.length : Int) > v.conf.out - v.out.length := by (try simp only [dnL] at *); omega
  refine Wj ?_
  refine zp3 ?_
  refine Wd rfl rfl (does_append_clip (lO tG rfl) rfl (lO tG rfl) (lO tG rfl) rfl rfl (by exact ⟨_, rfl⟩) (by exact ⟨rfl, rfl, flatMap_len _ 1 (fun _ => rfl) _, okC_flat _ (fun _ => rfl) _⟩) (by rfl) (by (dsimp only; omega)) (by (omega))) ?_
  refine Wa 20 rfl (sq_none cByte) ?_
  refine zy2 ?_
  refine Wa 22 rfl (str_bytes _) ?_
  refine Wd rfl rfl (does_append_own (lO tG rfl) rfl (lO tG rfl) (lO tG rfl) rfl rfl rfl rfl (by simp) (by exact ⟨_, rfl⟩) (by exact ⟨rfl, rfl, flatMap_len _ 1 (fun _ => rfl) _, okC_flat _ (fun _ => rfl) _⟩) (by (dsimp only; omega)) (by (omega))) ?_
  refine Wa 23 rfl (sq_append cByte) ?_
  refine zs2 ?_
  refine zu3 ?_
  refine zR ?_
  rw [vmPrint, if_neg h0]; rfl
theorem sq_append_str {l m : Str} {k : SK} : PV.seq (l.length + (⟨m.toArray⟩ : ByteArray).size) (l.flatMap cByte ++ (⟨m.toArray⟩ : ByteArray).data.toList.map fun b => byteP b.toNat) k = .seq (l ++ m).length ((l ++ m).flatMap cByte) k := by
 have h : (⟨m.toArray⟩ : ByteArray).data.toList.map (fun b => byteP b.toNat) = m.flatMap cByte := by rw [cByte_map, List.map_map]; rfl
 rw [str_size, h, ← List.flatMap_append, List.length_append]
theorem vm_Print (v : VVm) (s : Str) (hc : 0 ≤ v.conf.out ∧ v.conf.out ≤ 1000000) (ho : v.out.length ≤ 1000000) (hs : s.length ≤ 140737488355328) : PureC Tryz.prog 228 [eVm v, str s] (tVm (vmPrint v s)) := by
 have w1 : IntKind.i64.wrap (v.conf.out - v.out.length) = v.conf.out - v.out.length := by ((rw [i64w]; unfold wrap64; (try simp only [dnL] at *); omega))
 refine pW tG (rs := [.cell 4 36, .tmp 5]) Tryz.func228 rfl rfl rfl (by simp) (by simp) (fun B => ?_)
 refine zu3 ?_
 refine Ws ?_
 refine zp2 ?_
 refine Wa 7 rfl (str_len _) ?_
 refine zy5 ?_
 refine zs3 ?_
 refine Wi rfl (fun hi1 => ?_) (fun hi1 => ?_)
 ·have h0 : (s.length : Int) > v.conf.out - v.out.length := by (try simp only [dnL] at *); omega
  refine zu3 ?_
  refine zR ?_
  rw [vmPrint, if_pos h0]; rfl
 ·have h0 : ¬ (s.length : Int) > v.conf.out - v.out.length := by (try simp only [dnL] at *); omega
  have h1 : (⟨s.toArray⟩ : ByteArray).size = s.length := str_size s
  refine Wj ?_
  refine zp2 ?_
  refine Wc rfl rfl (dC rfl Tryz.func258 rfl rfl ((clip_bytes v.out (by omega)) _)) ?_
  refine z1 ?_
  refine Wd rfl rfl (does_append_clip (lO tG rfl) rfl (lO tG rfl) (lO tG rfl) rfl rfl (by rfl) (by exact ⟨rfl, rfl, rfl⟩) (by exact flatMap_len _ 1 (fun _ => rfl) _) (by (dsimp only; omega)) (by (omega))) ?_
  refine Wa 21 rfl (sq_append_str) ?_
  refine zs2 ?_
  refine zu3 ?_
  refine zR ?_
  rw [vmPrint, if_neg h0]; rfl
end Go.Proofs.YtphgdofmjpdhaaaGreat
namespace Go.Proofs.YtphgdofmjpdhaaaGreat
open Go.RowKit
set_option maxRecDepth 100000
set_option maxHeartbeats 4000000
def kindOk (n : Int) : Prop := (0 ≤ n ∧ n ≤ 129) ∨ (256 ≤ n ∧ n ≤ 260) ∨ (300 ≤ n ∧ n ≤ 336)
instance (n : Int) : Decidable (kindOk n) := by unfold kindOk; infer_instance
def vmKind (v : VVm) (xt : Int) : Int × Int := if (memFetch v.mem xt).2 = 0 then (if kindOk (memFetch v.mem xt).1 then ((memFetch v.mem xt).1, 0) else (0, -9)) else (0, (memFetch v.mem xt).2)
theorem ref_Kind (v : VVm) (xt : Int) (hm : v.mem.b.length ≤ 140737488355328) (hx : Fit64 xt) : PureC Tryz.prog 205 [eVm v, i64 xt] (tFetch (vmKind v xt)) := by
 have h1 := names_len
 have h2 := specials_len
 refine pW tG (rs := [.tmp 4, .tmp 5]) Tryz.func205 rfl rfl rfl (by simp) (by simp) (fun B => ?_)
 refine zu3 ?_
 refine zp3 ?_
 refine Wc rfl rfl (dC rfl Tryz.func183 rfl rfl ((ref_Fetch v.mem xt hm hx) _)) ?_
 refine zs5 ?_
 refine Ws ?_
 refine zu2 ?_
 refine Wi rfl (fun hi1 => ?_) (fun hi1 => ?_)
 ·have h0 : ¬ (memFetch v.mem xt).2 = 0 := by simpa using hi1
  refine zu3 ?_
  refine zR ?_
  rw [vmKind, if_neg h0]; rfl
 ·have h0 : (memFetch v.mem xt).2 = 0 := by simpa using hi1
  have w1 : IntKind.i64.wrap (300 + (specials.length : Int)) = 337 := by rw [h2]; decide
  refine Wj ?_
  refine Ws ?_
  refine zp3 ?_
  refine Wb 20 rfl (fun hg1 => ?_) (fun hg1 => ?_)
  ·refine z1 ?_
   refine Wc rfl rfl (dC rfl Tryz.func30 rfl rfl ((ref_Names) _)) ?_
   refine zy4 ?_
   refine Wb 26 rfl (fun hg2 => ?_) (fun hg2 => ?_)
   ·refine z6 ?_
    iterate 5 refine z6 ?_
    refine zy2 ?_
    iterate 9 refine z6 ?_
    refine zs1 ?_
    refine Wt rfl rfl ?_
    refine zu3 ?_
    refine zR ?_
    (rw [vmKind, if_pos h0, if_pos (by unfold kindOk; (try simp only [dnL] at *); omega)]; rfl)
   ·refine zy3 ?_
    refine Wb 29 rfl (fun hg3 => ?_) (fun hg3 => ?_)
    ·refine zy5 ?_
     refine Wb 34 rfl (fun hg4 => ?_) (fun hg4 => ?_)
     ·refine z6 ?_
      iterate 8 refine z6 ?_
      refine zs1 ?_
      refine Wt rfl rfl ?_
      refine zu3 ?_
      refine zR ?_
      (rw [vmKind, if_pos h0, if_pos (by unfold kindOk; (try simp only [dnL] at *); omega)]; rfl)
     ·refine zy3 ?_
      refine Wb 37 rfl (fun hg5 => ?_) (fun hg5 => ?_)
      ·refine z1 ?_
       refine Wc rfl rfl (dC rfl Tryz.func77 rfl rfl ((ref_Specials) _)) ?_
       refine zs5 ?_
       refine Wi rfl (fun hi2 => ?_) (fun hi2 => ?_)
       ·refine zu3 ?_
        refine zR ?_
        (rw [vmKind, if_pos h0, if_pos (by unfold kindOk; (try simp only [dnL] at *); omega)]; rfl)
       ·refine Wj ?_
        refine zu2 ?_
        refine zR ?_
        (rw [vmKind, if_pos h0, if_neg (by unfold kindOk; (try simp only [dnL] at *); omega)]; rfl)
      ·refine z6 ?_
       iterate 4 refine z6 ?_
       refine zs2 ?_
       refine Wf rfl rfl ?_
       refine Wj ?_
       refine zu2 ?_
       refine zR ?_
       (rw [vmKind, if_pos h0, if_neg (by unfold kindOk; (try simp only [dnL] at *); omega)]; rfl)
    ·refine z6 ?_
     refine z6 ?_
     refine zy5 ?_
     refine z1 ?_
     refine Wb 37 rfl (fun hg5 => ?_) (fun hg5 => ?_)
     ·refine z1 ?_
      refine Wc rfl rfl (dC rfl Tryz.func77 rfl rfl ((ref_Specials) _)) ?_
      refine zs5 ?_
      refine Wi rfl (fun hi2 => ?_) (fun hi2 => ?_)
      ·refine zu3 ?_
       refine zR ?_
       (rw [vmKind, if_pos h0, if_pos (by unfold kindOk; (try simp only [dnL] at *); omega)]; rfl)
      ·refine Wj ?_
       refine zu2 ?_
       refine zR ?_
       (rw [vmKind, if_pos h0, if_neg (by unfold kindOk; (try simp only [dnL] at *); omega)]; rfl)
     ·refine z6 ?_
      iterate 4 refine z6 ?_
      refine zs2 ?_
      refine Wf rfl rfl ?_
      refine Wj ?_
      refine zu2 ?_
      refine zR ?_
      (rw [vmKind, if_pos h0, if_neg (by unfold kindOk; (try simp only [dnL] at *); omega)]; rfl)
  ·refine z6 ?_
   iterate 3 refine z6 ?_
   refine zy5 ?_
   refine Wb 29 rfl (fun hg3 => ?_) (fun hg3 => ?_)
   ·refine zy5 ?_
    refine Wb 34 rfl (fun hg4 => ?_) (fun hg4 => ?_)
    ·refine z6 ?_
     iterate 8 refine z6 ?_
     refine zs1 ?_
     refine Wt rfl rfl ?_
     refine zu3 ?_
     refine zR ?_
     (rw [vmKind, if_pos h0, if_pos (by unfold kindOk; (try simp only [dnL] at *); omega)]; rfl)
    ·refine zy3 ?_
     refine Wb 37 rfl (fun hg5 => ?_) (fun hg5 => ?_)
     ·refine z1 ?_
      refine Wc rfl rfl (dC rfl Tryz.func77 rfl rfl ((ref_Specials) _)) ?_
      refine zs5 ?_
      refine Wi rfl (fun hi2 => ?_) (fun hi2 => ?_)
      ·refine zu3 ?_
       refine zR ?_
       (rw [vmKind, if_pos h0, if_pos (by unfold kindOk; (try simp only [dnL] at *); omega)]; rfl)
      ·refine Wj ?_
       refine zu2 ?_
       refine zR ?_
       (rw [vmKind, if_pos h0, if_neg (by unfold kindOk; (try simp only [dnL] at *); omega)]; rfl)
     ·refine z6 ?_
      iterate 4 refine z6 ?_
      refine zs2 ?_
      refine Wf rfl rfl ?_
      refine Wj ?_
      refine zu2 ?_
      refine zR ?_
      (rw [vmKind, if_pos h0, if_neg (by unfold kindOk; (try simp only [dnL] at *); omega)]; rfl)
   ·refine z6 ?_
    refine z6 ?_
    refine zy5 ?_
    refine z1 ?_
    refine Wb 37 rfl (fun hg5 => ?_) (fun hg5 => ?_)
    ·refine z1 ?_
     refine Wc rfl rfl (dC rfl Tryz.func77 rfl rfl ((ref_Specials) _)) ?_
     refine zs5 ?_
     refine Wi rfl (fun hi2 => ?_) (fun hi2 => ?_)
     ·refine zu3 ?_
      refine zR ?_
      (rw [vmKind, if_pos h0, if_pos (by unfold kindOk; (try simp only [dnL] at *); omega)]; rfl)
     ·refine Wj ?_
      refine zu2 ?_
      refine zR ?_
      (rw [vmKind, if_pos h0, if_neg (by unfold kindOk; (try simp only [dnL] at *); omega)]; rfl)
    ·refine z6 ?_
     iterate 4 refine z6 ?_
     refine zs2 ?_
     refine Wf rfl rfl ?_
     refine Wj ?_
     refine zu2 ?_
     refine zR ?_
     (rw [vmKind, if_pos h0, if_neg (by unfold kindOk; (try simp only [dnL] at *); omega)]; rfl)
theorem vm_Kind (v : VVm) (xt : Int) (hm : v.mem.b.length ≤ 140737488355328) (hx : Fit64 xt) : PureC Tryz.prog 164 [eVm v, i64 xt] (tFetch (vmKind v xt)) := by
 have h1 := names_len
 have h2 := specials_len
 refine pW tG (rs := [.tmp 4, .tmp 5]) Tryz.func164 rfl rfl rfl (by simp) (by simp) (fun B => ?_)
 refine zu3 ?_
 refine zp3 ?_
 refine Wc rfl rfl (dC rfl Tryz.func105 rfl rfl ((mem_Fetch v.mem xt hm hx) _)) ?_
 refine zs5 ?_
 refine Ws ?_
 refine zu2 ?_
 refine Wi rfl (fun hi1 => ?_) (fun hi1 => ?_)
 ·have h0 : ¬ (memFetch v.mem xt).2 = 0 := by simpa using hi1
  refine zu3 ?_
  refine zR ?_
  rw [vmKind, if_neg h0]; rfl
 ·have h0 : (memFetch v.mem xt).2 = 0 := by simpa using hi1
  have w1 : IntKind.i64.wrap (IntKind.i64.wrap (300 + (specials.length : Int)) - 1) = 336 := by rw [h2]; decide
  have w2 : IntKind.i64.wrap ((names.length : Int) - 1) = 129 := by rw [h1]; decide
  refine Wj ?_
  refine Ws ?_
  refine zp1 ?_
  refine Wc rfl rfl (dC rfl Tryz.func25 rfl rfl ((vm_Names) _)) ?_
  refine zy2 ?_
  refine Wc rfl rfl (dC rfl Tryz.func243 rfl rfl ((vm_within _ _ _) _)) ?_
  refine z1 ?_
  refine Wb 23 rfl (fun hg1 => ?_) (fun hg1 => ?_)
  ·refine z6 ?_
   refine z6 ?_
   refine zy2 ?_
   iterate 6 refine z6 ?_
   refine zs1 ?_
   refine Wt rfl rfl ?_
   refine zu3 ?_
   refine zR ?_
   (rw [vmKind, if_pos h0, if_pos (by unfold kindOk; (try simp only [dnL] at *); omega)]; rfl)
  ·refine z1 ?_
   refine Wc rfl rfl (dC rfl Tryz.func243 rfl rfl ((vm_within _ _ _) _)) ?_
   refine zy2 ?_
   refine Wb 27 rfl (fun hg2 => ?_) (fun hg2 => ?_)
   ·refine z6 ?_
    iterate 5 refine z6 ?_
    refine zs1 ?_
    refine Wt rfl rfl ?_
    refine zu3 ?_
    refine zR ?_
    (rw [vmKind, if_pos h0, if_pos (by unfold kindOk; (try simp only [dnL] at *); omega)]; rfl)
   ·refine z1 ?_
    refine Wc rfl rfl (dC rfl Tryz.func226 rfl rfl ((vm_Specials) _)) ?_
    refine zy3 ?_
    refine Wc rfl rfl (dC rfl Tryz.func243 rfl rfl ((vm_within _ _ _) _)) ?_
    refine zs1 ?_
    refine Wi rfl (fun hi2 => ?_) (fun hi2 => ?_)
    ·refine zu3 ?_
     refine zR ?_
     (rw [vmKind, if_pos h0, if_pos (by unfold kindOk; (try simp only [dnL] at *); omega)]; rfl)
    ·refine Wj ?_
     refine zu2 ?_
     refine zR ?_
     (rw [vmKind, if_pos h0, if_neg (by unfold kindOk; (try simp only [dnL] at *); omega)]; rfl)
end Go.Proofs.YtphgdofmjpdhaaaGreat
namespace Go.Proofs.YtphgdofmjpdhaaaGreat
open Go.RowKit
set_option maxRecDepth 100000
theorem ref_FetchByte (m : VMem) (at_ : Int) (hm : MemOk m) (ha : Fit64 at_) : PureC Tryz.prog 184 [eMem m, i64 at_] (tFetch (memFetchByte m at_)) := by
 have hm1 := hm.b
 refine pW tG (rs := [.tmp 4, .tmp 5]) Tryz.func184 rfl rfl rfl (by simp) (by simp) (fun B => ?_)
 refine zu3 ?_
 refine zp2 ?_
 refine Wc rfl rfl (dC rfl Tryz.func75 rfl rfl ((ref_There m at_ 1 (by omega) ha (fitN (n := 1) (by omega))) _)) ?_
 refine zs1 ?_
 refine Ws ?_
 refine zu2 ?_
 refine Wi rfl (fun hi1 => ?_) (fun hi1 => ?_)
 ·refine zu2 ?_
  refine zR ?_
  rw [memFetchByte, if_neg (by simpa using hi1)]; rfl
 ·have ht : memThere m at_ 1 = true := by simpa using hi1
  obtain ⟨k0, k1⟩ := there_in (n := 1) ht (by omega)
  refine Wj ?_
  refine zp3 ?_
  refine Wv tG rfl rfl rfl (by omega) (iR cByte 1 (fun _ => rfl) 0 (by omega)) ?_
  refine zs4 ?_
  refine zR ?_
  rw [memFetchByte, if_pos ht]; exact congrArg (fun z => tup2 (i64 z) (i64 0)) (wrapB _)
theorem text_snoc {l : List UInt8} {x : Int} {k : Nat} {s : SK} (h0 : 0 ≤ x) (h1 : x + k < l.length) (k2 : IntKind.i64.wrap (x + (k : Int)) = x + k) :
  PV.seq ((l.drop x.toNat).take k ++ [l.getD (IntKind.i64.wrap (x + (k : Int))).toNat 0]).length (((l.drop x.toNat).take k ++ [l.getD (IntKind.i64.wrap (x + (k : Int))).toNat 0]).flatMap cByte) s = .seq ((l.drop x.toNat).take (k + 1)).length (((l.drop x.toNat).take (k + 1)).flatMap cByte) s := by
 rw [k2, take_snoc' _ k 0 (by simp; omega)]
 have : l.getD (x + (k : Int)).toNat 0 = (l.drop x.toNat).getD k 0 := by
  unfold List.getD
  rw [List.getElem?_drop]
  congr 2; omega
 rw [this]
theorem ref_Text (m : VMem) (at_ n : Int) (hm : MemOk m) (ha : Fit64 at_) (hn : Fit64 n) : PureC Tryz.prog 195 [eMem m, i64 at_, i64 n] (tText (memText m at_ n)) := by
 have hm1 := hm.b
 refine pW tG (rs := [.tmp 6, .tmp 7]) Tryz.func195 rfl rfl rfl (by simp) (by simp) (fun B => ?_)
 refine zu3 ?_
 refine zp3 ?_
 refine Wc rfl rfl (dC rfl Tryz.func75 rfl rfl ((ref_There m at_ n (by omega) ha hn) _)) ?_
 refine zs1 ?_
 refine Ws ?_
 refine zu2 ?_
 refine Wi rfl (fun hi1 => ?_) (fun hi1 => ?_)
 ·have ht : ¬ memThere m at_ n = true := by simpa using hi1
  refine zu2 ?_
  refine zR ?_
  rw [memText, if_neg ht]; rfl
 ·have ht : memThere m at_ n = true := by simpa using hi1
  have hN : 0 ≤ n ∧ (0 < n → 0 ≤ at_ ∧ at_ + n ≤ m.b.length) := by unfold memThere at ht; simp only [decide_eq_true_eq] at ht; omega
  refine Wj ?_
  refine zp1 ?_
  refine WO_own 9 0 1 rfl rfl ?_
  refine Wn ?_
  refine Ws ?_
  refine zu1 ?_
  refine Wl ?_
  show W _ _ _ _ _ _ _
  refine W_loopS (fun (k : Nat) => [(1, i64 at_), (2, i64 n), (3, .ptr 0 0), (10, i64 k), (9, .seq ((m.b.drop at_.toNat).take k).length (((m.b.drop at_.toNat).take k).flatMap cByte) (.own 2 1))]) (fun (k : Nat) => [.cells (cMem m) 27, .dead]) (fun (k : Nat) => [.free (((m.b.drop at_.toNat).take k).length * 1)]) (fun (k : Nat) => (k : Int) ≤ n) (fun (k : Nat) => n.toNat - k) (0) (by omega) [1] ?_ ?_
  ·exact fitT
  ·intro k hk
   refine Ws ?_
   refine zu3 ?_
   refine Wi rfl (fun hi2 => ?_) (fun hi2 => ?_)
   ·have hlt : (k : Int) < n := oT hi2
    have k2 : IntKind.i64.wrap (at_ + (k : Int)) = at_ + k := wrap_in (by omega) (by omega)
    refine Wj ?_
    refine Ws ?_
    refine Wl ?_
    refine W_region rfl ?_
    refine zy5 ?_
    refine z1 ?_
    refine Wv tG rfl rfl rfl (by rw [k2]; omega) (iR cByte 1 (fun _ => rfl) 0 (by rw [k2]; omega)) ?_
    refine zy2 ?_
    refine Wa 30 rfl (bsL cByte [_] rfl rfl) ?_
    refine Wd rfl rfl (does_append_own (lO tG rfl) rfl (lO tG rfl) (lO tG rfl) rfl rfl rfl rfl (by simp) (by exact ⟨_, rfl⟩) (by exact ⟨rfl, rfl, flatMap_len _ 1 (fun _ => rfl) _, okC_flat _ (fun _ => rfl) _⟩) (by ((simp_all; omega))) (by ((simp_all; omega)))) ?_
    refine Wa 31 rfl (sq_append cByte) ?_
    refine z1 ?_
    skip
    refine Wn ?_
    refine W_region rfl ?_
    refine zs3 ?_
    exact ⟨k + 1, [3], (by omega), (by omega), (fitT (sub := by repeat (first | exact subL_nil | refine subL_cons (by first | exact imp_of rfl | exact imp_of (text_snoc (by omega) (by omega) k2) | exact imp_of (congrArg i64 (by (rw [i64w]; unfold wrap64; omega)))) ?_)))⟩
   ·have hkn : k = n.toNat := by have := oF hi2; omega
    refine W_exit ?_
    refine zu3 ?_
    refine zR ?_
    rw [memText, if_pos ht, ← hkn]; rfl
theorem laidB_nil (l : List UInt8) (k : Nat) : laidB l k [] = l := by simp [laidB]
theorem laidB_snoc {l b : List UInt8} {p k : Nat} (hk : k < b.length) (h : p + b.length ≤ l.length) : (laidB l p (b.take k)).set (p + k) (b.getD k 0) = laidB l p (b.take (k + 1)) := by
 unfold laidB
 rw [take_snoc' b k 0 hk]
 apply List.ext_getElem?
 intro i
 have e1 : (List.take p l).length = p := by simp; omega
 have e2 : (List.take k b).length = k := by simp; omega
 simp only [List.getElem?_set, List.getElem?_append, List.length_append, e1, e2, List.length_singleton, List.getElem?_drop, List.length_drop]
 by_cases hi : p + k = i
 ·subst hi
  rw [if_pos rfl, if_pos (by omega), if_pos (by omega), if_neg (by omega), if_neg (by omega)]
  simp
 ·rw [if_neg hi]
  by_cases h1 : i < p
  ·rw [if_pos (by omega), if_pos h1, if_pos (by omega), if_pos h1]
  ·by_cases h2 : i < p + k
   ·rw [if_pos h2, if_neg h1, if_pos (by omega), if_neg h1, if_pos (by omega)]
   ·rw [if_neg h2, if_neg (by omega)]
    congr 1; omega
theorem laid_store {A B' : Ob} {l b : List UInt8} {p k o : Nat} {e : TypeId} (hk : k < b.length) (h : p + b.length ≤ l.length) (ho : o = p + k) :
  [A, B', Ob.cells ((laidB l p (b.take (k + 1))).flatMap cByte) e] = [A, B', .cells (splice ((laidB l p (b.take k)).flatMap cByte) o [.val (.int .u8 ((b.getD k 0).toNat : Int))]) e] := by
 subst ho
 rw [← laidB_snoc hk h, ← splice_byte (by rw [laidB_len (by simp; omega)]; omega)]
theorem laid_end {l b : List UInt8} {p k : Nat} (hk : b.length ≤ k) (h : p + b.length ≤ l.length) : PV.seq l.length (((laidB l p (b.take k)).flatMap cByte).take (laidB l p (b.take k)).length) .any = sq cByte (laidB l p b) := by
 rw [List.take_of_length_le hk, cB_take, List.take_length]
 unfold sq
 rw [laidB_len h]
theorem ref_Write (m : VMem) (at_ : Int) (b : List UInt8) (hm : MemOk m) (ha : Fit64 at_) (hb : b.length ≤ 1000000) : PureC Tryz.prog 204 [eMem m, i64 at_, sq cByte b] (tMem (memWrite m at_ b)) := by
 have hm1 := hm.b
 have hm2 := hm.old
 refine pW tG (rs := [.cell 6 27, .tmp 7]) Tryz.func204 rfl rfl rfl (by simp) (by simp) (fun B => ?_)
 refine zu3 ?_
 refine zp4 ?_
 refine Wc rfl rfl (dC rfl Tryz.func75 rfl rfl ((ref_There m at_ b.length (by omega) ha (fitN hb)) _)) ?_
 refine zs1 ?_
 refine Ws ?_
 refine zu2 ?_
 refine Wi rfl (fun hi1 => ?_) (fun hi1 => ?_)
 ·rw [memWrite_no (by simpa using hi1)]
  refine zu3 ?_
  refine zR ?_
  rfl
 ·have ht : memThere m at_ b.length = true := by simpa using hi1
  refine Wj ?_
  refine Ws ?_
  refine zu3 ?_
  refine Wi rfl (fun hi2 => ?_) (fun hi2 => ?_)
  ·rw [memWrite_nil ht (by simpa using hi2)]
   refine zu3 ?_
   refine zR ?_
   rfl
  ·have hne : b.length ≠ 0 := by simpa using hi2
   obtain ⟨k0, k1⟩ := there_in ht hne
   have hX : (memText m at_ b.length).1 = (m.b.drop at_.toNat).take b.length := by unfold memText; rw [if_pos ht]; simp
   refine Wj ?_
   refine zp4 ?_
   refine Wc rfl rfl (dC rfl Tryz.func195 rfl rfl ((ref_Text m at_ b.length hm ha (fitN hb)) _)) ?_
   refine zs5 ?_
   refine zp3 ?_
   refine Wd rfl rfl (does_append_fresh (lO tG rfl) rfl (lO tG rfl) (lO tG rfl) rfl rfl ⟨_, rfl⟩ ⟨rfl, rfl, flatMap_len _ 1 (fun _ => rfl) _, okC_flat _ (fun _ => rfl) _⟩ rfl (by dsimp only; omega) (by omega) (by omega)) ?_
   refine Wa 36 rfl (show PV.arw 2 0 (0 + m.b.length) = .arw 2 0 m.b.length by rw [Nat.zero_add]) ?_
   refine WO_ob (H' := [.cells (cMem m) 27, .cells [.seq 0 [] .clip, .seq 0 [] .clip] 27, .cells ((laidB m.b at_.toNat (b.take 0)).flatMap cByte) 5]) (by rw [List.take_zero, laidB_nil]; rfl) ?_
   refine zs1 ?_
   refine Ws ?_
   refine zu1 ?_
   refine Wl ?_
   show W _ _ _ _ _ _ _
   refine W_loopS (fun (k : Nat) => [(1, i64 at_), (2, sq cByte b), (3, .ptr 0 0), (6, .ptr 1 0), (9, sq cByte (memText m at_ b.length).1), (11, .arw 2 0 m.b.length), (12, i64 k)]) (fun (k : Nat) => [.cells (cMem m) 27, .cells [.seq 0 [] .clip, .seq 0 [] .clip] 27, .cells ((laidB m.b at_.toNat (b.take k)).flatMap cByte) 5]) (fun (k : Nat) => []) (fun (k : Nat) => k ≤ b.length) (fun (k : Nat) => b.length - k) (0) (by omega) [] ?_ ?_
   ·exact fitT
   ·intro k hk
    refine Ws ?_
    refine zu4 ?_
    refine Wi rfl (fun hi3 => ?_) (fun hi3 => ?_)
    ·have hlt : k < b.length := by have := oT hi3; omega
     have k2 : IntKind.i64.wrap (at_ + (k : Int)) = at_ + k := wrap_in (by omega) (by omega)
     refine Wj ?_
     refine Ws ?_
     refine Wl ?_
     refine W_region rfl ?_
     refine zy5 ?_
     refine z1 ?_
     refine Wv tG rfl rfl rfl (by omega) (iN cByte 1 (fun _ => rfl) 0 (by omega)) ?_
     refine z1 ?_
     refine z2 ?_ (q := (by rw [k2]; omega))
     refine Wd rfl rfl (does_store (lO tG rfl) rfl rfl rfl rfl rfl rfl (by rw [Nat.ble_eq, cB_len, laidB_len (by simp; omega)]; dsimp only; rw [k2]; simp; omega)) ?_
     refine WO_ob (H' := [.cells (cMem m) 27, .cells [.seq 0 [] .clip, .seq 0 [] .clip] 27, .cells ((laidB m.b at_.toNat (b.take (k + 1))).flatMap cByte) 5]) (laid_store hlt (by omega) (by rw [k2]; dsimp only; omega)) ?_
     refine Wn ?_
     refine W_region rfl ?_
     refine zs3 ?_
     exact ⟨k + 1, [], (by omega), (by omega), fitT⟩
    ·have hge : b.length ≤ k := by have := oF hi3; omega
     refine W_exit ?_
     refine zp1 ?_
     refine WO_freeze 52 2 _ (laidB m.b at_.toNat (b.take k)).length rfl rfl (by rw [cB_len]; exact Nat.le_refl _) ?_
     refine Wa 52 rfl (laid_end hge (by omega)) ?_
     refine zy3 ?_
     refine Wd rfl rfl (does_append_clip (lO tG rfl) rfl (lO tG rfl) (lO tG rfl) rfl rfl (by exact ⟨_, rfl⟩) (by exact ⟨rfl, rfl, flatMap_len _ 2 (fun _ => rfl) _, okC_flat _ (fun _ => rfl) _⟩) (by rfl) (by (dsimp only; omega)) (by (omega))) ?_
     refine Wa 56 rfl (sq_none cPatch) ?_
     refine zy4 ?_
     refine Wa 60 rfl ((show PV.seq 1 _ .clip = .seq (List.length [(⟨at_, (memText m at_ b.length).1⟩ : VPatch)]) (List.flatMap cPatch [(⟨at_, (memText m at_ b.length).1⟩ : VPatch)]) .clip from rfl)) ?_
     refine Wd rfl rfl (does_append_own (lO tG rfl) rfl (lO tG rfl) (lO tG rfl) rfl rfl rfl rfl (by simp) (by exact ⟨_, rfl⟩) (by exact ⟨rfl, rfl, flatMap_len _ 2 (fun _ => rfl) _, okC_flat _ (fun _ => rfl) _⟩) (by ((simp_all; omega))) (by ((simp_all; omega)))) ?_
     refine Wa 61 rfl (sq_append cPatch) ?_
     refine zs3 ?_
     refine zR ?_
     rw [memWrite_yes ht hne, ← hX]; rfl
end Go.Proofs.YtphgdofmjpdhaaaGreat
namespace Go.Proofs.YtphgdofmjpdhaaaGreat
open Go.RowKit
set_option maxRecDepth 100000
theorem ref_Store (m : VMem) (at_ n : Int) (hm : MemOk m) (ha : Fit64 at_) : PureC Tryz.prog 185 [eMem m, i64 at_, i64 n] (tMem (memStore m at_ n)) := by
 have hm1 := hm.b
 have hm2 := hm.old
 refine pW tG (rs := [.cell 6 27, .tmp 7]) Tryz.func185 rfl rfl rfl (by simp) (by simp) (fun B => ?_)
 refine zu3 ?_
 refine zp2 ?_
 refine Wc rfl rfl (dC rfl Tryz.func251 rfl rfl ((ref_cellAt m at_ (by omega) ha) _)) ?_
 refine zs1 ?_
 refine Ws ?_
 refine zu2 ?_
 refine Wi rfl (fun hi1 => ?_) (fun hi1 => ?_)
 ·have h0 : memCellAt m at_ ≠ 0 := by simpa using hi1
  refine zu4 ?_
  refine zR ?_
  rw [memStore, if_neg h0]; rfl
 ·have h0 : memCellAt m at_ = 0 := by simpa using hi1
  refine Wj ?_
  refine Ws ?_
  refine W_drawU [1, 0, 0, 0, 0, 0, 0, 3, 0] [0, 1, 2, 3, 4, 5, 6, 7, 8] mG rfl (by kernel_rfl) ?_
  refine z5 ?_
  iterate 2 refine z3 ?_
  refine Xc rfl rfl rfl rfl (fun _ => dC rfl Tryz.func253 rfl rfl ((ref_put8 n) _)) ?_
  refine Xc rfl rfl rfl rfl (fun _ => dC rfl Tryz.func204 rfl rfl ((ref_Write m at_ (putC n) hm ha (by rw [putC_len]; omega)) _)) ?_
  iterate 2 refine z3 ?_
  refine WU_ev3 tG rfl rfl rfl rfl rfl trivial ?_
  refine z3 ?_
  refine WU_nil ?_
  refine zR ?_
  rw [memStore, if_pos h0]; rfl
theorem ref_StoreByte (m : VMem) (at_ n : Int) (hm : MemOk m) (ha : Fit64 at_) : PureC Tryz.prog 186 [eMem m, i64 at_, i64 n] (tMem (memStoreByte m at_ n)) := by
 refine pW tG (rs := [.cell 6 27, .tmp 7]) Tryz.func186 rfl rfl rfl (by simp) (by simp) (fun B => ?_)
 refine zu3 ?_
 refine zp4 ?_
 refine Wa 11 rfl (loB_pv n) ?_
 refine z1 ?_
 refine Wa 12 rfl (bsL cByte [_] rfl rfl) ?_
 refine Wc rfl rfl (dC rfl Tryz.func204 rfl rfl ((ref_Write m at_ [loB n] hm ha (by simp)) _)) ?_
 refine zs4 ?_
 refine zR ?_
 rfl
theorem ref_Move (m : VMem) (x to_ n : Int) (hm : MemOk m) (hx : Fit64 x) (ht : Fit64 to_) (hn : Fit64 n) : PureC Tryz.prog 188 [eMem m, i64 x, i64 to_, i64 n] (tMem (memMove m x to_ n)) := by
 refine pW tG (rs := [.cell 8 27, .tmp 9]) Tryz.func188 rfl rfl rfl (by simp) (by simp) (fun B => ?_)
 refine zu3 ?_
 refine zp3 ?_
 refine Wc rfl rfl (dC rfl Tryz.func195 rfl rfl ((ref_Text m x n hm hx hn) _)) ?_
 refine zs5 ?_
 refine Ws ?_
 refine zu2 ?_
 refine Wi rfl (fun hi1 => ?_) (fun hi1 => ?_)
 ·have h0 : ¬ (memText m x n).2 = 0 := by simpa using hi1
  refine zu4 ?_
  refine zR ?_
  rw [memMove, if_neg h0]; rfl
 ·have h0 : (memText m x n).2 = 0 := by simpa using hi1
  refine Wj ?_
  refine zp3 ?_
  refine Wc rfl rfl (dC rfl Tryz.func204 rfl rfl ((ref_Write m to_ _ hm ht (memText_len hm)) _)) ?_
  refine zs4 ?_
  refine zR ?_
  rw [memMove, if_pos h0]; rfl
def fillR (c : UInt8) (n k : Nat) : List UInt8 := List.replicate k c ++ List.replicate (n - k) 0
theorem fillR_len {c : UInt8} {n k : Nat} (h : k ≤ n) : (fillR c n k).length = n := by simp [fillR]; omega
theorem fillR_set {c : UInt8} {n k : Nat} (h : k < n) : (fillR c n k).set k c = fillR c n (k + 1) := by
 unfold fillR
 apply List.ext_getElem?
 intro i
 simp only [List.getElem?_set, List.getElem?_append, List.length_append, List.length_replicate, List.getElem?_replicate]
 by_cases hi : k = i
 ·subst hi; rw [if_pos rfl, if_pos (by omega), if_pos (by omega), if_pos (by omega)]
 ·rw [if_neg hi]
  repeat' split
  all_goals first | rfl | (exfalso; omega)
theorem fill_store {A B' : Ob} {c : UInt8} {n k o : Nat} {e : TypeId} (hk : k < n) (ho : o = k) : [A, B', Ob.cells ((fillR c n (k + 1)).flatMap cByte) e] = [A, B', .cells (splice ((fillR c n k).flatMap cByte) o [.val (.int .u8 (c.toNat : Int))]) e] := by
 subst ho
 rw [← fillR_set hk, ← splice_byte (by rw [fillR_len (by omega)]; omega)]
theorem fill_zero {A B' : Ob} {c : UInt8} {n : Nat} {d : TD} {e : TypeId} (hd : d.zero = cByte 0) : [A, B', Ob.cells ((fillR c n 0).flatMap cByte) e] = [A, B', .cells (zerosPV n d) e] := by
 unfold zerosPV fillR
 rw [hd]
 simp only [List.replicate_zero, List.nil_append, Nat.sub_zero, List.flatMap_replicate]
theorem fill_end {c : UInt8} {n k : Nat} (h : n ≤ k) (h2 : k ≤ n) : PV.seq n (((fillR c n k).flatMap cByte).take n) .any = sq cByte (List.replicate n c) := by
 have : k = n := by omega
 subst this
 unfold fillR
 rw [Nat.sub_self, List.replicate_zero, List.append_nil, cB_take, List.take_of_length_le (by simp)]
 unfold sq
 simp
theorem ref_Fill (m : VMem) (at_ n c : Int) (hm : MemOk m) (ha : Fit64 at_) (hn : Fit64 n) : PureC Tryz.prog 187 [eMem m, i64 at_, i64 n, i64 c] (tMem (memFill m at_ n c)) := by
 have hm1 := hm.b
 have hm2 := hm.old
 refine pW tG (rs := [.cell 8 27, .tmp 9]) Tryz.func187 rfl rfl rfl (by simp) (by simp) (fun B => ?_)
 refine zu3 ?_
 refine zp3 ?_
 refine Wc rfl rfl (dC rfl Tryz.func75 rfl rfl ((ref_There m at_ n (by omega) ha hn) _)) ?_
 refine zs1 ?_
 refine Ws ?_
 refine zu2 ?_
 refine Wi rfl (fun hi1 => ?_) (fun hi1 => ?_)
 ·have ht : ¬ memThere m at_ n = true := by simpa using hi1
  refine zu3 ?_
  refine zR ?_
  rw [memFill, if_neg ht]; rfl
 ·have ht : memThere m at_ n = true := by simpa using hi1
  have hN : 0 ≤ n ∧ n ≤ 1000000 := by unfold memThere at ht; simp only [decide_eq_true_eq] at ht; omega
  refine Wj ?_
  refine zp1 ?_
  refine z2 ?_ (q := (by (simp_all; omega)))
  refine Wa 21 rfl (show PV.arr 2 0 n.toNat n.toNat = .arr 2 0 n.toNat n.toNat from rfl) ?_
  refine WO_ob (H' := [.cells (cMem m) 27, .cells [.seq 0 [] .clip, .seq 0 [] .clip] 27, .cells ((fillR (loB c) n.toNat 0).flatMap cByte) 5]) (fill_zero rfl) ?_
  refine zs1 ?_
  refine Ws ?_
  refine zu1 ?_
  refine Wl ?_
  show W _ _ _ _ _ _ _
  refine W_loopS (fun (k : Nat) => [(1, i64 at_), (2, i64 n), (3, i64 c), (4, .ptr 0 0), (8, .ptr 1 0), (11, .arr 2 0 n.toNat n.toNat), (12, i64 k)]) (fun (k : Nat) => [.cells (cMem m) 27, .cells [.seq 0 [] .clip, .seq 0 [] .clip] 27, .cells ((fillR (loB c) n.toNat k).flatMap cByte) 5]) (fun (k : Nat) => []) (fun (k : Nat) => k ≤ n.toNat) (fun (k : Nat) => n.toNat - k) (0) (by omega) [] ?_ ?_
  ·exact fitT
  ·intro k hk
   refine Ws ?_
   refine zu3 ?_
   refine Wi rfl (fun hi2 => ?_) (fun hi2 => ?_)
   ·have hlt : k < n.toNat := by have := oT hi2; omega
    refine Wj ?_
    refine Ws ?_
    refine Wl ?_
    refine W_region rfl ?_
    refine zy4 ?_
    refine Wa 30 rfl (loB_pv c) ?_
    refine z2 ?_ (q := (by omega))
    refine Wd rfl rfl (does_store (lO tG rfl) rfl rfl rfl rfl rfl rfl (by rw [Nat.ble_eq, cB_len, fillR_len (by omega)]; dsimp only; simp; omega)) ?_
    refine WO_ob (H' := [.cells (cMem m) 27, .cells [.seq 0 [] .clip, .seq 0 [] .clip] 27, .cells ((fillR (loB c) n.toNat (k + 1)).flatMap cByte) 5]) (fill_store hlt (by dsimp only; omega)) ?_
    refine Wn ?_
    refine W_region rfl ?_
    refine zs3 ?_
    exact ⟨k + 1, [], (by omega), (by omega), fitT⟩
   ·have hge : n.toNat ≤ k := by have := oF hi2; omega
    refine W_exit ?_
    refine zp3 ?_
    refine Wm 34 rfl (imp_arr_arw (Nat.le_refl _)) ?_
    refine WO_freeze 34 2 _ n.toNat rfl rfl (by rw [cB_len, fillR_len hk]; exact Nat.le_refl _) ?_
    refine Wa 34 rfl (fill_end hge hk) ?_
    refine Wc rfl rfl (dC rfl Tryz.func204 rfl rfl ((ref_Write m at_ _ hm ha (by simp; omega)) _)) ?_
    refine zs4 ?_
    refine zR ?_
    rw [memFill, if_pos ht]; rfl
end Go.Proofs.YtphgdofmjpdhaaaGreat
