import Derived.ArgAppend
import Derived.Test.YtphgdofmjpdhaaaGreatPk5
set_option linter.unusedVariables false
set_option linter.unusedSimpArgs false
namespace Go.Proofs.YtphgdofmjpdhaaaGreat
open Go.RowKit
set_option linter.unusedVariables false
set_option maxRecDepth 100000
set_option maxHeartbeats 4000000
inductive Op2 where
 | quo
 | rem
 | add
 | sub
 | mul
 | and
 | or
 | xor
 | shl
 | shr
 | min
 | max
 | eq
 | ne
 | lt
 | gt
 | le
 | ge
 | ult
 | ugt
deriving DecidableEq
def names2 : List (Str × Op2) := [([47], .quo), ([77, 79, 68], .rem), ([43], .add), ([45], .sub), ([42], .mul), ([65, 78, 68], .and), ([79, 82], .or), ([88, 79, 82], .xor), ([76, 83, 72, 73, 70, 84], .shl), ([82, 83, 72, 73, 70, 84], .shr), ([77, 73, 78], .min), ([77, 65, 88], .max), ([61], .eq), ([60, 62], .ne), ([60], .lt), ([62], .gt), ([60, 61], .le), ([62, 61], .ge), ([85, 60], .ult), ([85, 62], .ugt)]
def op2 (s : Str) : Option Op2 := names2.lookup s
def andS (a b : Int) : Int := wrap64 ((BitVec.ofInt 64 a &&& BitVec.ofInt 64 b).toNat : Int)
def orS (a b : Int) : Int := wrap64 ((BitVec.ofInt 64 a ||| BitVec.ofInt 64 b).toNat : Int)
def xorS (a b : Int) : Int := wrap64 ((BitVec.ofInt 64 a ^^^ BitVec.ofInt 64 b).toNat : Int)
def shiftS (a by_ : Int) (up : Bool) : Int := if 63 < U by_ then 0 else if up then S (U a * 2 ^ U by_ % 18446744073709551616) else S (U a / 2 ^ U by_)
def two (o : Op2) (a b : Int) : Int × Int := match o with
 | .quo => ((divS a b).1, (divS a b).2.2)
 | .rem => ((divS a b).2.1, (divS a b).2.2)
 | .add => (wrap64 (a + b), 0)
 | .sub => (wrap64 (a - b), 0)
 | .mul => (wrap64 (a * b), 0)
 | .and => (andS a b, 0)
 | .or => (orS a b, 0)
 | .xor => (xorS a b, 0)
 | .shl => (shiftS a b true, 0)
 | .shr => (shiftS a b false, 0)
 | .min => (if b < a then b else a, 0)
 | .max => (if a < b then b else a, 0)
 | .eq => (flagS (decide (a = b)), 0)
 | .ne => (flagS (!decide (a = b)), 0)
 | .lt => (flagS (decide (a < b)), 0)
 | .gt => (flagS (decide (b < a)), 0)
 | .le => (flagS (decide (a ≤ b)), 0)
 | .ge => (flagS (decide (b ≤ a)), 0)
 | .ult => (flagS (decide (U a < U b)), 0)
 | .ugt => (flagS (decide (U b < U a)), 0)
def twoS (name : Str) (a b : Int) : Int × Bool × Int := match op2 name with
 | some o => ((two o a b).1, true, (two o a b).2)
 | none => (0, false, 0)
def tTwo (r : Int × Bool × Int) : PV := tup3 (i64 r.1) (boo r.2.1) (i64 r.2.2)
@[simp] theorem flat_tTwo (r : Int × Bool × Int) : Flat (tTwo r) := by simp [tTwo]
theorem twoS_no {name : Str} {a b : Int} (h : op2 name = none) : twoS name a b = (0, false, 0) := by unfold twoS; rw [h]
theorem op2_none {s : Str} (h0 : s ≠ [47]) (h1 : s ≠ [77, 79, 68]) (h2 : s ≠ [43]) (h3 : s ≠ [45]) (h4 : s ≠ [42]) (h5 : s ≠ [65, 78, 68]) (h6 : s ≠ [79, 82]) (h7 : s ≠ [88, 79, 82]) (h8 : s ≠ [76, 83, 72, 73, 70, 84]) (h9 : s ≠ [82, 83, 72, 73, 70, 84]) (h10 : s ≠ [77, 73, 78]) (h11 : s ≠ [77, 65, 88]) (h12 : s ≠ [61]) (h13 : s ≠ [60, 62]) (h14 : s ≠ [60]) (h15 : s ≠ [62]) (h16 : s ≠ [60, 61]) (h17 : s ≠ [62, 61]) (h18 : s ≠ [85, 60]) (h19 : s ≠ [85, 62]) : op2 s = none := by
 unfold op2 names2
 simp only [List.lookup]
 simp [beq_eq_false_iff_ne.2 h0, beq_eq_false_iff_ne.2 h1, beq_eq_false_iff_ne.2 h2, beq_eq_false_iff_ne.2 h3, beq_eq_false_iff_ne.2 h4, beq_eq_false_iff_ne.2 h5, beq_eq_false_iff_ne.2 h6, beq_eq_false_iff_ne.2 h7, beq_eq_false_iff_ne.2 h8, beq_eq_false_iff_ne.2 h9, beq_eq_false_iff_ne.2 h10, beq_eq_false_iff_ne.2 h11, beq_eq_false_iff_ne.2 h12, beq_eq_false_iff_ne.2 h13, beq_eq_false_iff_ne.2 h14, beq_eq_false_iff_ne.2 h15, beq_eq_false_iff_ne.2 h16, beq_eq_false_iff_ne.2 h17, beq_eq_false_iff_ne.2 h18, beq_eq_false_iff_ne.2 h19]
def heldS (name : Str) (a b : Int) : Int × Bool := if name = [61] then ((two .eq a b).1, true) else if name = [60, 62] then ((two .ne a b).1, true) else if name = [62] then ((two .gt a b).1, true) else if name = [60] then ((two .lt a b).1, true) else if name = [60, 61] then ((two .le a b).1, true) else if name = [62, 61] then ((two .ge a b).1, true) else if name = [85, 62] then ((two .ugt a b).1, true) else if name = [85, 60] then ((two .ult a b).1, true) else (0, false)
theorem alu_held (name : Str) (a b : Int) : PureC Tryz.prog 83 [str name, i64 a, i64 b] (tOne (heldS name a b)) := by
 refine pW tG (rs := [.tmp 6, .tmp 7]) Tryz.func83 rfl rfl rfl (by simp) (by simp) (fun B => ?_)
 refine Ws ?_
 refine W_region rfl ?_
 iterate 2 refine We tG rfl rfl rfl trivial ?_
 refine Wn ?_
 iterate 2 refine Ws ?_
 refine W_region rfl ?_
 refine We tG rfl rfl rfl trivial ?_
 refine Wn ?_
 refine Wl ?_
 refine Ws ?_
 refine Wl ?_
 refine Ws ?_
 refine Wl ?_
 refine Ws ?_
 refine Wl ?_
 refine Ws ?_
 refine Wl ?_
 refine Ws ?_
 refine Wl ?_
 refine Ws ?_
 refine Wl ?_
 refine Ws ?_
 refine Wl ?_
 refine Ws ?_
 refine Wl ?_
 iterate 3 refine Ws ?_
 refine W_region rfl ?_
 refine We tG rfl rfl rfl trivial ?_
 refine Wa 10 rfl (str_eql _ _) ?_
 refine We tG rfl rfl rfl trivial ?_
 refine Wn ?_
 refine Wi rfl (fun hi1 => ?_) (fun hi1 => ?_)
 ·obtain rfl := of_decide_eq_true hi1
  refine W_exit ?_
  iterate 2 refine Ws ?_
  refine W_region rfl ?_
  iterate 3 refine We tG rfl rfl rfl trivial ?_
  refine Wc rfl rfl (dC rfl Tryz.func207 rfl rfl ((alu_flag _) _)) ?_
  iterate 2 refine We tG rfl rfl rfl trivial ?_
  refine Wn ?_
  refine Wq ?_
  refine lP rfl ?_
  refine congrArg tOne (show (flagS _, true) = ((two .eq a b).1, true) from ?_)
  simp only [two] <;> first | rfl | (congr 2; done) | (congr 2; rw [Bool.eq_iff_iff] <;> simp)
 ·refine Wj ?_
  iterate 2 refine Ws ?_
  refine W_region rfl ?_
  refine We tG rfl rfl rfl trivial ?_
  refine Wa 12 rfl (str_eql _ _) ?_
  refine We tG rfl rfl rfl trivial ?_
  refine Wn ?_
  refine Wi rfl (fun hi2 => ?_) (fun hi2 => ?_)
  ·obtain rfl := of_decide_eq_true hi2
   refine W_exit ?_
   iterate 2 refine Ws ?_
   refine W_region rfl ?_
   iterate 3 refine We tG rfl rfl rfl trivial ?_
   refine Wc rfl rfl (dC rfl Tryz.func207 rfl rfl ((alu_flag _) _)) ?_
   iterate 2 refine We tG rfl rfl rfl trivial ?_
   refine Wn ?_
   refine Wq ?_
   refine lP rfl ?_
   refine congrArg tOne (show (flagS _, true) = ((two .ne a b).1, true) from ?_)
   simp only [two] <;> first | rfl | (congr 2; done) | (congr 2; rw [Bool.eq_iff_iff] <;> simp)
  ·refine Wj ?_
   iterate 2 refine Ws ?_
   refine W_region rfl ?_
   refine We tG rfl rfl rfl trivial ?_
   refine Wa 14 rfl (str_eql _ _) ?_
   refine We tG rfl rfl rfl trivial ?_
   refine Wn ?_
   refine Wi rfl (fun hi3 => ?_) (fun hi3 => ?_)
   ·obtain rfl := of_decide_eq_true hi3
    refine W_exit ?_
    refine W_region rfl ?_
    iterate 4 refine We tG rfl rfl rfl trivial ?_
    refine Wn ?_
    iterate 2 refine Ws ?_
    refine W_region rfl ?_
    iterate 3 refine We tG rfl rfl rfl trivial ?_
    refine Wc rfl rfl (dC rfl Tryz.func207 rfl rfl ((alu_flag _) _)) ?_
    iterate 2 refine We tG rfl rfl rfl trivial ?_
    refine Wn ?_
    refine Wq ?_
    refine lP rfl ?_
    refine congrArg tOne (show (flagS _, true) = ((two .gt a b).1, true) from ?_)
    simp only [two] <;> first | rfl | (congr 2; done) | (congr 2; rw [Bool.eq_iff_iff] <;> simp)
   ·refine Wj ?_
    iterate 2 refine Ws ?_
    refine W_region rfl ?_
    refine We tG rfl rfl rfl trivial ?_
    refine Wa 16 rfl (str_eql _ _) ?_
    refine We tG rfl rfl rfl trivial ?_
    refine Wn ?_
    refine Wi rfl (fun hi4 => ?_) (fun hi4 => ?_)
    ·obtain rfl := of_decide_eq_true hi4
     refine W_exit ?_
     iterate 2 refine Ws ?_
     refine W_region rfl ?_
     iterate 3 refine We tG rfl rfl rfl trivial ?_
     refine Wc rfl rfl (dC rfl Tryz.func207 rfl rfl ((alu_flag _) _)) ?_
     iterate 2 refine We tG rfl rfl rfl trivial ?_
     refine Wn ?_
     refine Wq ?_
     refine lP rfl ?_
     refine congrArg tOne (show (flagS _, true) = ((two .lt a b).1, true) from ?_)
     simp only [two] <;> first | rfl | (congr 2; done) | (congr 2; rw [Bool.eq_iff_iff] <;> simp)
    ·refine Wj ?_
     iterate 2 refine Ws ?_
     refine W_region rfl ?_
     refine We tG rfl rfl rfl trivial ?_
     refine Wa 18 rfl (str_eql _ _) ?_
     refine We tG rfl rfl rfl trivial ?_
     refine Wn ?_
     refine Wi rfl (fun hi5 => ?_) (fun hi5 => ?_)
     ·obtain rfl := of_decide_eq_true hi5
      refine W_exit ?_
      refine W_region rfl ?_
      iterate 4 refine We tG rfl rfl rfl trivial ?_
      refine Wn ?_
      iterate 2 refine Ws ?_
      refine W_region rfl ?_
      iterate 3 refine We tG rfl rfl rfl trivial ?_
      refine Wc rfl rfl (dC rfl Tryz.func207 rfl rfl ((alu_flag _) _)) ?_
      iterate 2 refine We tG rfl rfl rfl trivial ?_
      refine Wn ?_
      refine Wq ?_
      refine lP rfl ?_
      refine congrArg tOne (show (flagS _, true) = ((two .le a b).1, true) from ?_)
      simp only [two] <;> first | rfl | (congr 2; done) | (congr 2; rw [Bool.eq_iff_iff] <;> simp)
     ·refine Wj ?_
      iterate 2 refine Ws ?_
      refine W_region rfl ?_
      refine We tG rfl rfl rfl trivial ?_
      refine Wa 20 rfl (str_eql _ _) ?_
      refine We tG rfl rfl rfl trivial ?_
      refine Wn ?_
      refine Wi rfl (fun hi6 => ?_) (fun hi6 => ?_)
      ·obtain rfl := of_decide_eq_true hi6
       refine W_exit ?_
       iterate 2 refine Ws ?_
       refine W_region rfl ?_
       iterate 3 refine We tG rfl rfl rfl trivial ?_
       refine Wc rfl rfl (dC rfl Tryz.func207 rfl rfl ((alu_flag _) _)) ?_
       iterate 2 refine We tG rfl rfl rfl trivial ?_
       refine Wn ?_
       refine Wq ?_
       refine lP rfl ?_
       refine congrArg tOne (show (flagS _, true) = ((two .ge a b).1, true) from ?_)
       simp only [two] <;> first | rfl | (congr 2; done) | (congr 2; rw [Bool.eq_iff_iff] <;> simp)
      ·refine Wj ?_
       iterate 2 refine Ws ?_
       refine W_region rfl ?_
       refine We tG rfl rfl rfl trivial ?_
       refine Wa 22 rfl (str_eql _ _) ?_
       refine We tG rfl rfl rfl trivial ?_
       refine Wn ?_
       refine Wi rfl (fun hi7 => ?_) (fun hi7 => ?_)
       ·obtain rfl := of_decide_eq_true hi7
        refine W_exit ?_
        refine W_region rfl ?_
        iterate 4 refine We tG rfl rfl rfl trivial ?_
        refine Wn ?_
        iterate 2 refine Ws ?_
        refine W_region rfl ?_
        iterate 2 refine We tG rfl rfl rfl trivial ?_
        refine Wc rfl rfl (dC rfl Tryz.func208 rfl rfl ((k_ULess _ _) _)) ?_
        refine Wc rfl rfl (dC rfl Tryz.func207 rfl rfl ((alu_flag _) _)) ?_
        iterate 2 refine We tG rfl rfl rfl trivial ?_
        refine Wn ?_
        refine Wq ?_
        refine lP rfl ?_
        refine congrArg tOne (show (flagS _, true) = ((two .ugt a b).1, true) from ?_)
        simp only [two] <;> first | rfl | (congr 2; done) | (congr 2; rw [Bool.eq_iff_iff] <;> simp)
       ·refine Wj ?_
        refine Ws ?_
        refine W_region rfl ?_
        refine We tG rfl rfl rfl trivial ?_
        refine Wa 24 rfl (str_eql _ _) ?_
        refine We tG rfl rfl rfl trivial ?_
        refine Wn ?_
        refine Wi rfl (fun hi8 => ?_) (fun hi8 => ?_)
        ·obtain rfl := of_decide_eq_true hi8
         refine W_exit ?_
         iterate 2 refine Ws ?_
         refine W_region rfl ?_
         iterate 2 refine We tG rfl rfl rfl trivial ?_
         refine Wc rfl rfl (dC rfl Tryz.func208 rfl rfl ((k_ULess _ _) _)) ?_
         refine Wc rfl rfl (dC rfl Tryz.func207 rfl rfl ((alu_flag _) _)) ?_
         iterate 2 refine We tG rfl rfl rfl trivial ?_
         refine Wn ?_
         refine Wq ?_
         refine lP rfl ?_
         refine congrArg tOne (show (flagS _, true) = ((two .ult a b).1, true) from ?_)
         simp only [two] <;> first | rfl | (congr 2; done) | (congr 2; rw [Bool.eq_iff_iff] <;> simp)
        ·refine Wj ?_
         refine W_exit ?_
         refine Ws ?_
         refine W_region rfl ?_
         iterate 2 refine We tG rfl rfl rfl trivial ?_
         refine Wn ?_
         refine Wq ?_
         refine lP rfl ?_
         rw [heldS, if_neg (of_decide_eq_false hi1), if_neg (of_decide_eq_false hi2), if_neg (of_decide_eq_false hi3), if_neg (of_decide_eq_false hi4), if_neg (of_decide_eq_false hi5), if_neg (of_decide_eq_false hi6), if_neg (of_decide_eq_false hi7), if_neg (of_decide_eq_false hi8)]; rfl
theorem alu_Within (x lo hi : Int) : PureC Tryz.prog 103 [i64 x, i64 lo, i64 hi] (boo (decide (U (wrap64 (x - lo)) < U (wrap64 (hi - lo))))) := by
 refine pW tG (rs := [.tmp 6]) Tryz.func103 rfl rfl rfl (by simp) (by simp) (fun B => ?_)
 refine Ws ?_
 refine W_region rfl ?_
 refine We tG rfl rfl rfl trivial ?_
 refine Wn ?_
 refine Ws ?_
 refine W_region rfl ?_
 iterate 6 refine We tG rfl rfl rfl trivial ?_
 refine Wc rfl rfl (dC rfl Tryz.func208 rfl rfl ((k_ULess _ _) _)) ?_
 refine We tG rfl rfl rfl trivial ?_
 refine Wn ?_
 refine Wq ?_
 refine lP rfl ?_
 simp only [i64w]; rfl
theorem bin_shl {t : TypeId} {x y : Operand} {a b : Int} (h : 0 ≤ b) : binA .shl t x y (.int .u64 a) (.int .u64 b) = some (.int .u64 (IntKind.u64.wrap (a * 2 ^ min b.toNat 64))) := by
 have h1 : ¬ b < 0 := by omega
 simp only [binA, eqGuard, binOp, Op.shift, if_neg h1]; rfl
theorem bin_shr {t : TypeId} {x y : Operand} {a b : Int} (h : 0 ≤ b) : binA .shr t x y (.int .u64 a) (.int .u64 b) = some (.int .u64 (a.fdiv (2 ^ min b.toNat 64))) := by
 have h1 : ¬ b < 0 := by omega
 simp only [binA, eqGuard, binOp, Op.shift, if_neg h1]; rfl
theorem pvU (x : Int) : PV.val (.int .u64 (IntKind.u64.wrap x)) = .val (.int .u64 (U x : Int)) := by rw [U_wrap]
theorem U_lt2 (x : Int) : U x < 18446744073709551616 := by unfold U; omega
theorem shl_val (a b : Int) : IntKind.i64.wrap (IntKind.u64.wrap ((U a : Int) * 2 ^ min ((U b : Int)).toNat 64)) = shiftS a b true := by
 unfold shiftS
 rw [Int.toNat_natCast, i64w, IntKind.wrap_u64]
 by_cases h : 63 < U b
 ·rw [if_pos h, Nat.min_eq_right (by omega)]
  have e : (2 : Int) ^ 64 = 18446744073709551616 := by decide
  rw [e, Int.mul_emod_left]; unfold wrap64; omega
 ·rw [if_neg h, Nat.min_eq_left (by omega), if_pos rfl]
  unfold S
  congr 1
theorem shr_val (a b : Int) : IntKind.i64.wrap ((U a : Int).fdiv (2 ^ min ((U b : Int)).toNat 64)) = shiftS a b false := by
 unfold shiftS
 have hp : ∀ n : Nat, (0 : Int) ≤ 2 ^ n := fun n => Int.pow_nonneg (by omega)
 rw [Int.toNat_natCast, i64w, Int.fdiv_eq_ediv_of_nonneg _ (hp _)]
 by_cases h : 63 < U b
 ·rw [if_pos h, Nat.min_eq_right (by omega)]
  have e : (2 : Int) ^ 64 = 18446744073709551616 := by decide
  have := U_lt2 a
  rw [e, Int.ediv_eq_zero_of_lt (by omega) (by omega)]; unfold wrap64; omega
 ·rw [if_neg h, Nat.min_eq_left (by omega), if_neg (by simp)]
  unfold S
  congr 1
theorem alu_shift (a by_ : Int) (up : Bool) : PureC Tryz.prog 82 [i64 a, i64 by_, boo up] (i64 (shiftS a by_ up)) := by
 refine pW tG (rs := [.tmp 6]) Tryz.func82 rfl rfl rfl (by simp) (by simp) (fun B => ?_)
 refine Ws ?_
 refine W_region rfl ?_
 refine We tG rfl rfl rfl trivial ?_
 refine Wn ?_
 refine Ws ?_
 refine W_region rfl ?_
 iterate 2 refine We tG rfl rfl rfl trivial ?_
 refine Wa 9 rfl (pvU by_) ?_
 refine We tG rfl rfl rfl trivial ?_
 refine Wn ?_
 iterate 2 refine Ws ?_
 refine W_region rfl ?_
 refine We tG rfl rfl rfl trivial ?_
 refine Wn ?_
 refine Wi rfl (fun hi1 => ?_) (fun hi1 => ?_)
 ·obtain rfl := hi1
  refine Ws ?_
  refine W_region rfl ?_
  iterate 2 refine We tG rfl rfl rfl trivial ?_
  refine Wa 12 rfl (pvU a) ?_
  refine We tG rfl rfl rfl trivial ?_
  refine Wd rfl rfl (does_bin rfl rfl rfl (bin_shl (by omega))) ?_
  iterate 2 refine We tG rfl rfl rfl trivial ?_
  refine Wn ?_
  refine Wq ?_
  refine lP rfl ?_
  exact congrArg i64 (shl_val a by_)
 ·obtain rfl := hi1
  refine Wj ?_
  refine Ws ?_
  refine W_region rfl ?_
  iterate 2 refine We tG rfl rfl rfl trivial ?_
  refine Wa 17 rfl (pvU a) ?_
  refine We tG rfl rfl rfl trivial ?_
  refine Wd rfl rfl (does_bin rfl rfl rfl (bin_shr (by omega))) ?_
  iterate 2 refine We tG rfl rfl rfl trivial ?_
  refine Wn ?_
  refine Wq ?_
  refine lP rfl ?_
  exact congrArg i64 (shr_val a by_)
end Go.Proofs.YtphgdofmjpdhaaaGreat
namespace Go.Proofs.YtphgdofmjpdhaaaGreat
open Go.RowKit
set_option linter.unusedVariables false
set_option maxRecDepth 100000
set_option maxHeartbeats 40000000
theorem tw_quo (a b : Int) : twoS [47] a b = ((two .quo a b).1, true, (two .quo a b).2) := rfl
theorem tw_rem (a b : Int) : twoS [77, 79, 68] a b = ((two .rem a b).1, true, (two .rem a b).2) := rfl
theorem tw_add (a b : Int) : twoS [43] a b = ((two .add a b).1, true, (two .add a b).2) := rfl
theorem tw_sub (a b : Int) : twoS [45] a b = ((two .sub a b).1, true, (two .sub a b).2) := rfl
theorem tw_mul (a b : Int) : twoS [42] a b = ((two .mul a b).1, true, (two .mul a b).2) := rfl
theorem tw_and (a b : Int) : twoS [65, 78, 68] a b = ((two .and a b).1, true, (two .and a b).2) := rfl
theorem tw_or (a b : Int) : twoS [79, 82] a b = ((two .or a b).1, true, (two .or a b).2) := rfl
theorem tw_xor (a b : Int) : twoS [88, 79, 82] a b = ((two .xor a b).1, true, (two .xor a b).2) := rfl
theorem tw_shl (a b : Int) : twoS [76, 83, 72, 73, 70, 84] a b = ((two .shl a b).1, true, (two .shl a b).2) := rfl
theorem tw_shr (a b : Int) : twoS [82, 83, 72, 73, 70, 84] a b = ((two .shr a b).1, true, (two .shr a b).2) := rfl
theorem tw_min (a b : Int) : twoS [77, 73, 78] a b = ((two .min a b).1, true, (two .min a b).2) := rfl
theorem tw_max (a b : Int) : twoS [77, 65, 88] a b = ((two .max a b).1, true, (two .max a b).2) := rfl
theorem held_two {s : Str} {a b : Int} (h0 : s ≠ [47]) (h1 : s ≠ [77, 79, 68]) (h2 : s ≠ [43]) (h3 : s ≠ [45]) (h4 : s ≠ [42]) (h5 : s ≠ [65, 78, 68]) (h6 : s ≠ [79, 82]) (h7 : s ≠ [88, 79, 82]) (h8 : s ≠ [76, 83, 72, 73, 70, 84]) (h9 : s ≠ [82, 83, 72, 73, 70, 84]) (h10 : s ≠ [77, 73, 78]) (h11 : s ≠ [77, 65, 88]) : tTwo (twoS s a b) = tup3 (i64 (heldS s a b).1) (boo (heldS s a b).2) (i64 0) := by
 unfold heldS
 by_cases h12 : s = [61]
 ·subst h12; rfl
 rw [if_neg h12]
 by_cases h13 : s = [60, 62]
 ·subst h13; rfl
 rw [if_neg h13]
 by_cases h15 : s = [62]
 ·subst h15; rfl
 rw [if_neg h15]
 by_cases h14 : s = [60]
 ·subst h14; rfl
 rw [if_neg h14]
 by_cases h16 : s = [60, 61]
 ·subst h16; rfl
 rw [if_neg h16]
 by_cases h17 : s = [62, 61]
 ·subst h17; rfl
 rw [if_neg h17]
 by_cases h19 : s = [85, 62]
 ·subst h19; rfl
 rw [if_neg h19]
 by_cases h18 : s = [85, 60]
 ·subst h18; rfl
 rw [if_neg h18]
 rw [twoS_no (op2_none h0 h1 h2 h3 h4 h5 h6 h7 h8 h9 h10 h11 h12 h13 h14 h15 h16 h17 h18 h19)]; rfl
theorem alu_Two (name : Str) (a b : Int) (hb : Fit b) : PureC Tryz.prog 52 [str name, i64 a, i64 b] (tTwo (twoS name a b)) := by
 refine pW tG (rs := [.tmp 6, .tmp 7, .tmp 8]) Tryz.func52 rfl rfl rfl (by simp) (by simp) (fun B => ?_)
 refine Ws ?_
 refine W_region rfl ?_
 iterate 3 refine We tG rfl rfl rfl trivial ?_
 refine Wn ?_
 iterate 2 refine Ws ?_
 refine W_region rfl ?_
 refine We tG rfl rfl rfl trivial ?_
 refine Wn ?_
 refine Wl ?_
 iterate 2 refine Ws ?_
 refine W_region rfl ?_
 refine We tG rfl rfl rfl trivial ?_
 refine Wa 16 rfl (str_eql _ _) ?_
 refine We tG rfl rfl rfl trivial ?_
 refine Wn ?_
 refine Wi rfl (fun hi1 => ?_) (fun hi1 => ?_)
 ·refine Wj ?_
  refine Wi rfl (fun hi2 => ?_) (fun hi2 => ?_)
  ·refine Ws ?_
   refine W_region rfl ?_
   iterate 2 refine We tG rfl rfl rfl trivial ?_
   refine Wc rfl rfl (dC rfl Tryz.func81 rfl rfl ((k_Div a b hb) _)) ?_
   iterate 7 refine We tG rfl rfl rfl trivial ?_
   refine Wn ?_
   iterate 2 refine Ws ?_
   refine W_region rfl ?_
   iterate 2 refine We tG rfl rfl rfl trivial ?_
   refine Wa 26 rfl (str_eql _ _) ?_
   refine Wn ?_
   refine Wi rfl (fun hi3 => ?_) (fun hi3 => ?_)
   ·refine W_region rfl ?_
    iterate 2 refine We tG rfl rfl rfl trivial ?_
    refine Wn ?_
    refine Ws ?_
    refine W_region rfl ?_
    iterate 5 refine We tG rfl rfl rfl trivial ?_
    refine Wn ?_
    refine Wq ?_
    refine lP rfl ?_
    first | (exfalso; (try simp only [dnL] at *); simp_all; done) | ((try simp only [dnL] at *); simp_all [tTwo, tup3, i64, boo, i64w, two, andS, orS, xorS, IntKind.bits, tw_quo, tw_rem, tw_add, tw_sub, tw_mul, tw_and, tw_or, tw_xor, tw_shl, tw_shr, tw_min, tw_max]; done) | ((try simp only [dnL] at *); subst_vars; first | exact congrArg (fun z => tup3 (i64 z) (boo true) (i64 0)) (i64w _) | rfl) | ((try simp only [dnL] at *); exact (held_two (by assumption) (by assumption) (by assumption) (by assumption) (by assumption) (by assumption) (by assumption) (by assumption) (by assumption) (by assumption) (by assumption) (by assumption)).symm)
   ·refine Wj ?_
    refine Ws ?_
    refine W_region rfl ?_
    iterate 5 refine We tG rfl rfl rfl trivial ?_
    refine Wn ?_
    refine Wq ?_
    refine lP rfl ?_
    first | (exfalso; (try simp only [dnL] at *); simp_all; done) | ((try simp only [dnL] at *); simp_all [tTwo, tup3, i64, boo, i64w, two, andS, orS, xorS, IntKind.bits, tw_quo, tw_rem, tw_add, tw_sub, tw_mul, tw_and, tw_or, tw_xor, tw_shl, tw_shr, tw_min, tw_max]; done) | ((try simp only [dnL] at *); subst_vars; first | exact congrArg (fun z => tup3 (i64 z) (boo true) (i64 0)) (i64w _) | rfl) | ((try simp only [dnL] at *); exact (held_two (by assumption) (by assumption) (by assumption) (by assumption) (by assumption) (by assumption) (by assumption) (by assumption) (by assumption) (by assumption) (by assumption) (by assumption)).symm)
  ·refine Ws ?_
   refine W_region rfl ?_
   refine We tG rfl rfl rfl trivial ?_
   refine Wa 31 rfl (str_eql _ _) ?_
   refine We tG rfl rfl rfl trivial ?_
   refine Wn ?_
   refine Wi rfl (fun hi4 => ?_) (fun hi4 => ?_)
   ·refine Ws ?_
    refine W_region rfl ?_
    iterate 6 refine We tG rfl rfl rfl trivial ?_
    refine Wn ?_
    refine Wq ?_
    refine lP rfl ?_
    first | (exfalso; (try simp only [dnL] at *); simp_all; done) | ((try simp only [dnL] at *); simp_all [tTwo, tup3, i64, boo, i64w, two, andS, orS, xorS, IntKind.bits, tw_quo, tw_rem, tw_add, tw_sub, tw_mul, tw_and, tw_or, tw_xor, tw_shl, tw_shr, tw_min, tw_max]; done) | ((try simp only [dnL] at *); subst_vars; first | exact congrArg (fun z => tup3 (i64 z) (boo true) (i64 0)) (i64w _) | rfl) | ((try simp only [dnL] at *); exact (held_two (by assumption) (by assumption) (by assumption) (by assumption) (by assumption) (by assumption) (by assumption) (by assumption) (by assumption) (by assumption) (by assumption) (by assumption)).symm)
   ·refine Ws ?_
    refine W_region rfl ?_
    refine We tG rfl rfl rfl trivial ?_
    refine Wa 36 rfl (str_eql _ _) ?_
    refine We tG rfl rfl rfl trivial ?_
    refine Wn ?_
    refine Wi rfl (fun hi5 => ?_) (fun hi5 => ?_)
    ·refine Ws ?_
     refine W_region rfl ?_
     iterate 6 refine We tG rfl rfl rfl trivial ?_
     refine Wn ?_
     refine Wq ?_
     refine lP rfl ?_
     first | (exfalso; (try simp only [dnL] at *); simp_all; done) | ((try simp only [dnL] at *); simp_all [tTwo, tup3, i64, boo, i64w, two, andS, orS, xorS, IntKind.bits, tw_quo, tw_rem, tw_add, tw_sub, tw_mul, tw_and, tw_or, tw_xor, tw_shl, tw_shr, tw_min, tw_max]; done) | ((try simp only [dnL] at *); subst_vars; first | exact congrArg (fun z => tup3 (i64 z) (boo true) (i64 0)) (i64w _) | rfl) | ((try simp only [dnL] at *); exact (held_two (by assumption) (by assumption) (by assumption) (by assumption) (by assumption) (by assumption) (by assumption) (by assumption) (by assumption) (by assumption) (by assumption) (by assumption)).symm)
    ·refine Ws ?_
     refine W_region rfl ?_
     refine We tG rfl rfl rfl trivial ?_
     refine Wa 41 rfl (str_eql _ _) ?_
     refine We tG rfl rfl rfl trivial ?_
     refine Wn ?_
     refine Wi rfl (fun hi6 => ?_) (fun hi6 => ?_)
     ·refine Ws ?_
      refine W_region rfl ?_
      iterate 6 refine We tG rfl rfl rfl trivial ?_
      refine Wn ?_
      refine Wq ?_
      refine lP rfl ?_
      first | (exfalso; (try simp only [dnL] at *); simp_all; done) | ((try simp only [dnL] at *); simp_all [tTwo, tup3, i64, boo, i64w, two, andS, orS, xorS, IntKind.bits, tw_quo, tw_rem, tw_add, tw_sub, tw_mul, tw_and, tw_or, tw_xor, tw_shl, tw_shr, tw_min, tw_max]; done) | ((try simp only [dnL] at *); subst_vars; first | exact congrArg (fun z => tup3 (i64 z) (boo true) (i64 0)) (i64w _) | rfl) | ((try simp only [dnL] at *); exact (held_two (by assumption) (by assumption) (by assumption) (by assumption) (by assumption) (by assumption) (by assumption) (by assumption) (by assumption) (by assumption) (by assumption) (by assumption)).symm)
     ·refine Ws ?_
      refine W_region rfl ?_
      refine We tG rfl rfl rfl trivial ?_
      refine Wa 46 rfl (str_eql _ _) ?_
      refine We tG rfl rfl rfl trivial ?_
      refine Wn ?_
      refine Wi rfl (fun hi7 => ?_) (fun hi7 => ?_)
      ·refine Ws ?_
       refine W_region rfl ?_
       iterate 6 refine We tG rfl rfl rfl trivial ?_
       refine Wn ?_
       refine Wq ?_
       refine lP rfl ?_
       first | (exfalso; (try simp only [dnL] at *); simp_all; done) | ((try simp only [dnL] at *); simp_all [tTwo, tup3, i64, boo, i64w, two, andS, orS, xorS, IntKind.bits, tw_quo, tw_rem, tw_add, tw_sub, tw_mul, tw_and, tw_or, tw_xor, tw_shl, tw_shr, tw_min, tw_max]; done) | ((try simp only [dnL] at *); subst_vars; first | exact congrArg (fun z => tup3 (i64 z) (boo true) (i64 0)) (i64w _) | rfl) | ((try simp only [dnL] at *); exact (held_two (by assumption) (by assumption) (by assumption) (by assumption) (by assumption) (by assumption) (by assumption) (by assumption) (by assumption) (by assumption) (by assumption) (by assumption)).symm)
      ·refine Ws ?_
       refine W_region rfl ?_
       refine We tG rfl rfl rfl trivial ?_
       refine Wa 51 rfl (str_eql _ _) ?_
       refine We tG rfl rfl rfl trivial ?_
       refine Wn ?_
       refine Wi rfl (fun hi8 => ?_) (fun hi8 => ?_)
       ·refine Ws ?_
        refine W_region rfl ?_
        iterate 6 refine We tG rfl rfl rfl trivial ?_
        refine Wn ?_
        refine Wq ?_
        refine lP rfl ?_
        first | (exfalso; (try simp only [dnL] at *); simp_all; done) | ((try simp only [dnL] at *); simp_all [tTwo, tup3, i64, boo, i64w, two, andS, orS, xorS, IntKind.bits, tw_quo, tw_rem, tw_add, tw_sub, tw_mul, tw_and, tw_or, tw_xor, tw_shl, tw_shr, tw_min, tw_max]; done) | ((try simp only [dnL] at *); subst_vars; first | exact congrArg (fun z => tup3 (i64 z) (boo true) (i64 0)) (i64w _) | rfl) | ((try simp only [dnL] at *); exact (held_two (by assumption) (by assumption) (by assumption) (by assumption) (by assumption) (by assumption) (by assumption) (by assumption) (by assumption) (by assumption) (by assumption) (by assumption)).symm)
       ·refine Ws ?_
        refine W_region rfl ?_
        refine We tG rfl rfl rfl trivial ?_
        refine Wa 56 rfl (str_eql _ _) ?_
        refine We tG rfl rfl rfl trivial ?_
        refine Wn ?_
        refine Wi rfl (fun hi9 => ?_) (fun hi9 => ?_)
        ·refine Ws ?_
         refine W_region rfl ?_
         iterate 6 refine We tG rfl rfl rfl trivial ?_
         refine Wn ?_
         refine Wq ?_
         refine lP rfl ?_
         first | (exfalso; (try simp only [dnL] at *); simp_all; done) | ((try simp only [dnL] at *); simp_all [tTwo, tup3, i64, boo, i64w, two, andS, orS, xorS, IntKind.bits, tw_quo, tw_rem, tw_add, tw_sub, tw_mul, tw_and, tw_or, tw_xor, tw_shl, tw_shr, tw_min, tw_max]; done) | ((try simp only [dnL] at *); subst_vars; first | exact congrArg (fun z => tup3 (i64 z) (boo true) (i64 0)) (i64w _) | rfl) | ((try simp only [dnL] at *); exact (held_two (by assumption) (by assumption) (by assumption) (by assumption) (by assumption) (by assumption) (by assumption) (by assumption) (by assumption) (by assumption) (by assumption) (by assumption)).symm)
        ·refine Ws ?_
         refine Ws ?_
         refine W_region rfl ?_
         refine We tG rfl rfl rfl trivial ?_
         refine Wa 61 rfl (str_eql _ _) ?_
         refine We tG rfl rfl rfl trivial ?_
         refine Wn ?_
         refine Wi rfl (fun hi10 => ?_) (fun hi10 => ?_)
         ·refine Wj ?_
          refine Wi rfl (fun hi11 => ?_) (fun hi11 => ?_)
          ·refine Ws ?_
           refine W_region rfl ?_
           iterate 4 refine We tG rfl rfl rfl trivial ?_
           refine Wa 66 rfl (str_eql _ _) ?_
           refine Wc rfl rfl (dC rfl Tryz.func82 rfl rfl ((alu_shift a b _) _)) ?_
           iterate 3 refine We tG rfl rfl rfl trivial ?_
           refine Wn ?_
           refine Wq ?_
           refine lP rfl ?_
           first | (exfalso; (try simp only [dnL] at *); simp_all; done) | ((try simp only [dnL] at *); simp_all [tTwo, tup3, i64, boo, i64w, two, andS, orS, xorS, IntKind.bits, tw_quo, tw_rem, tw_add, tw_sub, tw_mul, tw_and, tw_or, tw_xor, tw_shl, tw_shr, tw_min, tw_max]; done) | ((try simp only [dnL] at *); subst_vars; first | exact congrArg (fun z => tup3 (i64 z) (boo true) (i64 0)) (i64w _) | rfl) | ((try simp only [dnL] at *); exact (held_two (by assumption) (by assumption) (by assumption) (by assumption) (by assumption) (by assumption) (by assumption) (by assumption) (by assumption) (by assumption) (by assumption) (by assumption)).symm)
          ·refine Ws ?_
           refine W_region rfl ?_
           refine We tG rfl rfl rfl trivial ?_
           refine Wa 69 rfl (str_eql _ _) ?_
           refine We tG rfl rfl rfl trivial ?_
           refine Wn ?_
           refine Wi rfl (fun hi12 => ?_) (fun hi12 => ?_)
           ·refine Ws ?_
            refine W_region rfl ?_
            iterate 6 refine We tG rfl rfl rfl trivial ?_
            refine Wn ?_
            refine Wq ?_
            refine lP rfl ?_
            first | (exfalso; (try simp only [dnL] at *); simp_all; done) | ((try simp only [dnL] at *); simp_all [tTwo, tup3, i64, boo, i64w, two, andS, orS, xorS, IntKind.bits, tw_quo, tw_rem, tw_add, tw_sub, tw_mul, tw_and, tw_or, tw_xor, tw_shl, tw_shr, tw_min, tw_max]; done) | ((try simp only [dnL] at *); subst_vars; first | exact congrArg (fun z => tup3 (i64 z) (boo true) (i64 0)) (i64w _) | rfl) | ((try simp only [dnL] at *); exact (held_two (by assumption) (by assumption) (by assumption) (by assumption) (by assumption) (by assumption) (by assumption) (by assumption) (by assumption) (by assumption) (by assumption) (by assumption)).symm)
           ·refine Ws ?_
            refine W_region rfl ?_
            refine We tG rfl rfl rfl trivial ?_
            refine Wa 74 rfl (str_eql _ _) ?_
            refine We tG rfl rfl rfl trivial ?_
            refine Wn ?_
            refine Wi rfl (fun hi13 => ?_) (fun hi13 => ?_)
            ·refine Ws ?_
             refine W_region rfl ?_
             iterate 6 refine We tG rfl rfl rfl trivial ?_
             refine Wn ?_
             refine Wq ?_
             refine lP rfl ?_
             first | (exfalso; (try simp only [dnL] at *); simp_all; done) | ((try simp only [dnL] at *); simp_all [tTwo, tup3, i64, boo, i64w, two, andS, orS, xorS, IntKind.bits, tw_quo, tw_rem, tw_add, tw_sub, tw_mul, tw_and, tw_or, tw_xor, tw_shl, tw_shr, tw_min, tw_max]; done) | ((try simp only [dnL] at *); subst_vars; first | exact congrArg (fun z => tup3 (i64 z) (boo true) (i64 0)) (i64w _) | rfl) | ((try simp only [dnL] at *); exact (held_two (by assumption) (by assumption) (by assumption) (by assumption) (by assumption) (by assumption) (by assumption) (by assumption) (by assumption) (by assumption) (by assumption) (by assumption)).symm)
            ·refine Wj ?_
             refine Ws ?_
             refine W_region rfl ?_
             iterate 3 refine We tG rfl rfl rfl trivial ?_
             refine Wc rfl rfl (dC rfl Tryz.func83 rfl rfl ((alu_held name a b) _)) ?_
             iterate 5 refine We tG rfl rfl rfl trivial ?_
             refine Wn ?_
             refine Ws ?_
             refine W_region rfl ?_
             iterate 5 refine We tG rfl rfl rfl trivial ?_
             refine Wn ?_
             refine Wq ?_
             refine lP rfl ?_
             first | (exfalso; (try simp only [dnL] at *); simp_all; done) | ((try simp only [dnL] at *); simp_all [tTwo, tup3, i64, boo, i64w, two, andS, orS, xorS, IntKind.bits, tw_quo, tw_rem, tw_add, tw_sub, tw_mul, tw_and, tw_or, tw_xor, tw_shl, tw_shr, tw_min, tw_max]; done) | ((try simp only [dnL] at *); subst_vars; first | exact congrArg (fun z => tup3 (i64 z) (boo true) (i64 0)) (i64w _) | rfl) | ((try simp only [dnL] at *); exact (held_two (by assumption) (by assumption) (by assumption) (by assumption) (by assumption) (by assumption) (by assumption) (by assumption) (by assumption) (by assumption) (by assumption) (by assumption)).symm)
         ·refine W_region rfl ?_
          refine We tG rfl rfl rfl trivial ?_
          refine Wa 62 rfl (str_eql _ _) ?_
          refine We tG rfl rfl rfl trivial ?_
          refine Wn ?_
          refine Wi rfl (fun hi11 => ?_) (fun hi11 => ?_)
          ·refine Ws ?_
           refine W_region rfl ?_
           iterate 4 refine We tG rfl rfl rfl trivial ?_
           refine Wa 66 rfl (str_eql _ _) ?_
           refine Wc rfl rfl (dC rfl Tryz.func82 rfl rfl ((alu_shift a b _) _)) ?_
           iterate 3 refine We tG rfl rfl rfl trivial ?_
           refine Wn ?_
           refine Wq ?_
           refine lP rfl ?_
           first | (exfalso; (try simp only [dnL] at *); simp_all; done) | ((try simp only [dnL] at *); simp_all [tTwo, tup3, i64, boo, i64w, two, andS, orS, xorS, IntKind.bits, tw_quo, tw_rem, tw_add, tw_sub, tw_mul, tw_and, tw_or, tw_xor, tw_shl, tw_shr, tw_min, tw_max]; done) | ((try simp only [dnL] at *); subst_vars; first | exact congrArg (fun z => tup3 (i64 z) (boo true) (i64 0)) (i64w _) | rfl) | ((try simp only [dnL] at *); exact (held_two (by assumption) (by assumption) (by assumption) (by assumption) (by assumption) (by assumption) (by assumption) (by assumption) (by assumption) (by assumption) (by assumption) (by assumption)).symm)
          ·refine Ws ?_
           refine W_region rfl ?_
           refine We tG rfl rfl rfl trivial ?_
           refine Wa 69 rfl (str_eql _ _) ?_
           refine We tG rfl rfl rfl trivial ?_
           refine Wn ?_
           refine Wi rfl (fun hi12 => ?_) (fun hi12 => ?_)
           ·refine Ws ?_
            refine W_region rfl ?_
            iterate 6 refine We tG rfl rfl rfl trivial ?_
            refine Wn ?_
            refine Wq ?_
            refine lP rfl ?_
            first | (exfalso; (try simp only [dnL] at *); simp_all; done) | ((try simp only [dnL] at *); simp_all [tTwo, tup3, i64, boo, i64w, two, andS, orS, xorS, IntKind.bits, tw_quo, tw_rem, tw_add, tw_sub, tw_mul, tw_and, tw_or, tw_xor, tw_shl, tw_shr, tw_min, tw_max]; done) | ((try simp only [dnL] at *); subst_vars; first | exact congrArg (fun z => tup3 (i64 z) (boo true) (i64 0)) (i64w _) | rfl) | ((try simp only [dnL] at *); exact (held_two (by assumption) (by assumption) (by assumption) (by assumption) (by assumption) (by assumption) (by assumption) (by assumption) (by assumption) (by assumption) (by assumption) (by assumption)).symm)
           ·refine Ws ?_
            refine W_region rfl ?_
            refine We tG rfl rfl rfl trivial ?_
            refine Wa 74 rfl (str_eql _ _) ?_
            refine We tG rfl rfl rfl trivial ?_
            refine Wn ?_
            refine Wi rfl (fun hi13 => ?_) (fun hi13 => ?_)
            ·refine Ws ?_
             refine W_region rfl ?_
             iterate 6 refine We tG rfl rfl rfl trivial ?_
             refine Wn ?_
             refine Wq ?_
             refine lP rfl ?_
             first | (exfalso; (try simp only [dnL] at *); simp_all; done) | ((try simp only [dnL] at *); simp_all [tTwo, tup3, i64, boo, i64w, two, andS, orS, xorS, IntKind.bits, tw_quo, tw_rem, tw_add, tw_sub, tw_mul, tw_and, tw_or, tw_xor, tw_shl, tw_shr, tw_min, tw_max]; done) | ((try simp only [dnL] at *); subst_vars; first | exact congrArg (fun z => tup3 (i64 z) (boo true) (i64 0)) (i64w _) | rfl) | ((try simp only [dnL] at *); exact (held_two (by assumption) (by assumption) (by assumption) (by assumption) (by assumption) (by assumption) (by assumption) (by assumption) (by assumption) (by assumption) (by assumption) (by assumption)).symm)
            ·refine Wj ?_
             refine Ws ?_
             refine W_region rfl ?_
             iterate 3 refine We tG rfl rfl rfl trivial ?_
             refine Wc rfl rfl (dC rfl Tryz.func83 rfl rfl ((alu_held name a b) _)) ?_
             iterate 5 refine We tG rfl rfl rfl trivial ?_
             refine Wn ?_
             refine Ws ?_
             refine W_region rfl ?_
             iterate 5 refine We tG rfl rfl rfl trivial ?_
             refine Wn ?_
             refine Wq ?_
             refine lP rfl ?_
             first | (exfalso; (try simp only [dnL] at *); simp_all; done) | ((try simp only [dnL] at *); simp_all [tTwo, tup3, i64, boo, i64w, two, andS, orS, xorS, IntKind.bits, tw_quo, tw_rem, tw_add, tw_sub, tw_mul, tw_and, tw_or, tw_xor, tw_shl, tw_shr, tw_min, tw_max]; done) | ((try simp only [dnL] at *); subst_vars; first | exact congrArg (fun z => tup3 (i64 z) (boo true) (i64 0)) (i64w _) | rfl) | ((try simp only [dnL] at *); exact (held_two (by assumption) (by assumption) (by assumption) (by assumption) (by assumption) (by assumption) (by assumption) (by assumption) (by assumption) (by assumption) (by assumption) (by assumption)).symm)
 ·refine W_region rfl ?_
  refine We tG rfl rfl rfl trivial ?_
  refine Wa 17 rfl (str_eql _ _) ?_
  refine We tG rfl rfl rfl trivial ?_
  refine Wn ?_
  refine Wi rfl (fun hi2 => ?_) (fun hi2 => ?_)
  ·refine Ws ?_
   refine W_region rfl ?_
   iterate 2 refine We tG rfl rfl rfl trivial ?_
   refine Wc rfl rfl (dC rfl Tryz.func81 rfl rfl ((k_Div a b hb) _)) ?_
   iterate 7 refine We tG rfl rfl rfl trivial ?_
   refine Wn ?_
   iterate 2 refine Ws ?_
   refine W_region rfl ?_
   iterate 2 refine We tG rfl rfl rfl trivial ?_
   refine Wa 26 rfl (str_eql _ _) ?_
   refine Wn ?_
   refine Wi rfl (fun hi3 => ?_) (fun hi3 => ?_)
   ·refine W_region rfl ?_
    iterate 2 refine We tG rfl rfl rfl trivial ?_
    refine Wn ?_
    refine Ws ?_
    refine W_region rfl ?_
    iterate 5 refine We tG rfl rfl rfl trivial ?_
    refine Wn ?_
    refine Wq ?_
    refine lP rfl ?_
    first | (exfalso; (try simp only [dnL] at *); simp_all; done) | ((try simp only [dnL] at *); simp_all [tTwo, tup3, i64, boo, i64w, two, andS, orS, xorS, IntKind.bits, tw_quo, tw_rem, tw_add, tw_sub, tw_mul, tw_and, tw_or, tw_xor, tw_shl, tw_shr, tw_min, tw_max]; done) | ((try simp only [dnL] at *); subst_vars; first | exact congrArg (fun z => tup3 (i64 z) (boo true) (i64 0)) (i64w _) | rfl) | ((try simp only [dnL] at *); exact (held_two (by assumption) (by assumption) (by assumption) (by assumption) (by assumption) (by assumption) (by assumption) (by assumption) (by assumption) (by assumption) (by assumption) (by assumption)).symm)
   ·refine Wj ?_
    refine Ws ?_
    refine W_region rfl ?_
    iterate 5 refine We tG rfl rfl rfl trivial ?_
    refine Wn ?_
    refine Wq ?_
    refine lP rfl ?_
    first | (exfalso; (try simp only [dnL] at *); simp_all; done) | ((try simp only [dnL] at *); simp_all [tTwo, tup3, i64, boo, i64w, two, andS, orS, xorS, IntKind.bits, tw_quo, tw_rem, tw_add, tw_sub, tw_mul, tw_and, tw_or, tw_xor, tw_shl, tw_shr, tw_min, tw_max]; done) | ((try simp only [dnL] at *); subst_vars; first | exact congrArg (fun z => tup3 (i64 z) (boo true) (i64 0)) (i64w _) | rfl) | ((try simp only [dnL] at *); exact (held_two (by assumption) (by assumption) (by assumption) (by assumption) (by assumption) (by assumption) (by assumption) (by assumption) (by assumption) (by assumption) (by assumption) (by assumption)).symm)
  ·refine Ws ?_
   refine W_region rfl ?_
   refine We tG rfl rfl rfl trivial ?_
   refine Wa 31 rfl (str_eql _ _) ?_
   refine We tG rfl rfl rfl trivial ?_
   refine Wn ?_
   refine Wi rfl (fun hi4 => ?_) (fun hi4 => ?_)
   ·refine Ws ?_
    refine W_region rfl ?_
    iterate 6 refine We tG rfl rfl rfl trivial ?_
    refine Wn ?_
    refine Wq ?_
    refine lP rfl ?_
    first | (exfalso; (try simp only [dnL] at *); simp_all; done) | ((try simp only [dnL] at *); simp_all [tTwo, tup3, i64, boo, i64w, two, andS, orS, xorS, IntKind.bits, tw_quo, tw_rem, tw_add, tw_sub, tw_mul, tw_and, tw_or, tw_xor, tw_shl, tw_shr, tw_min, tw_max]; done) | ((try simp only [dnL] at *); subst_vars; first | exact congrArg (fun z => tup3 (i64 z) (boo true) (i64 0)) (i64w _) | rfl) | ((try simp only [dnL] at *); exact (held_two (by assumption) (by assumption) (by assumption) (by assumption) (by assumption) (by assumption) (by assumption) (by assumption) (by assumption) (by assumption) (by assumption) (by assumption)).symm)
   ·refine Ws ?_
    refine W_region rfl ?_
    refine We tG rfl rfl rfl trivial ?_
    refine Wa 36 rfl (str_eql _ _) ?_
    refine We tG rfl rfl rfl trivial ?_
    refine Wn ?_
    refine Wi rfl (fun hi5 => ?_) (fun hi5 => ?_)
    ·refine Ws ?_
     refine W_region rfl ?_
     iterate 6 refine We tG rfl rfl rfl trivial ?_
     refine Wn ?_
     refine Wq ?_
     refine lP rfl ?_
     first | (exfalso; (try simp only [dnL] at *); simp_all; done) | ((try simp only [dnL] at *); simp_all [tTwo, tup3, i64, boo, i64w, two, andS, orS, xorS, IntKind.bits, tw_quo, tw_rem, tw_add, tw_sub, tw_mul, tw_and, tw_or, tw_xor, tw_shl, tw_shr, tw_min, tw_max]; done) | ((try simp only [dnL] at *); subst_vars; first | exact congrArg (fun z => tup3 (i64 z) (boo true) (i64 0)) (i64w _) | rfl) | ((try simp only [dnL] at *); exact (held_two (by assumption) (by assumption) (by assumption) (by assumption) (by assumption) (by assumption) (by assumption) (by assumption) (by assumption) (by assumption) (by assumption) (by assumption)).symm)
    ·refine Ws ?_
     refine W_region rfl ?_
     refine We tG rfl rfl rfl trivial ?_
     refine Wa 41 rfl (str_eql _ _) ?_
     refine We tG rfl rfl rfl trivial ?_
     refine Wn ?_
     refine Wi rfl (fun hi6 => ?_) (fun hi6 => ?_)
     ·refine Ws ?_
      refine W_region rfl ?_
      iterate 6 refine We tG rfl rfl rfl trivial ?_
      refine Wn ?_
      refine Wq ?_
      refine lP rfl ?_
      first | (exfalso; (try simp only [dnL] at *); simp_all; done) | ((try simp only [dnL] at *); simp_all [tTwo, tup3, i64, boo, i64w, two, andS, orS, xorS, IntKind.bits, tw_quo, tw_rem, tw_add, tw_sub, tw_mul, tw_and, tw_or, tw_xor, tw_shl, tw_shr, tw_min, tw_max]; done) | ((try simp only [dnL] at *); subst_vars; first | exact congrArg (fun z => tup3 (i64 z) (boo true) (i64 0)) (i64w _) | rfl) | ((try simp only [dnL] at *); exact (held_two (by assumption) (by assumption) (by assumption) (by assumption) (by assumption) (by assumption) (by assumption) (by assumption) (by assumption) (by assumption) (by assumption) (by assumption)).symm)
     ·refine Ws ?_
      refine W_region rfl ?_
      refine We tG rfl rfl rfl trivial ?_
      refine Wa 46 rfl (str_eql _ _) ?_
      refine We tG rfl rfl rfl trivial ?_
      refine Wn ?_
      refine Wi rfl (fun hi7 => ?_) (fun hi7 => ?_)
      ·refine Ws ?_
       refine W_region rfl ?_
       iterate 6 refine We tG rfl rfl rfl trivial ?_
       refine Wn ?_
       refine Wq ?_
       refine lP rfl ?_
       first | (exfalso; (try simp only [dnL] at *); simp_all; done) | ((try simp only [dnL] at *); simp_all [tTwo, tup3, i64, boo, i64w, two, andS, orS, xorS, IntKind.bits, tw_quo, tw_rem, tw_add, tw_sub, tw_mul, tw_and, tw_or, tw_xor, tw_shl, tw_shr, tw_min, tw_max]; done) | ((try simp only [dnL] at *); subst_vars; first | exact congrArg (fun z => tup3 (i64 z) (boo true) (i64 0)) (i64w _) | rfl) | ((try simp only [dnL] at *); exact (held_two (by assumption) (by assumption) (by assumption) (by assumption) (by assumption) (by assumption) (by assumption) (by assumption) (by assumption) (by assumption) (by assumption) (by assumption)).symm)
      ·refine Ws ?_
       refine W_region rfl ?_
       refine We tG rfl rfl rfl trivial ?_
       refine Wa 51 rfl (str_eql _ _) ?_
       refine We tG rfl rfl rfl trivial ?_
       refine Wn ?_
       refine Wi rfl (fun hi8 => ?_) (fun hi8 => ?_)
       ·refine Ws ?_
        refine W_region rfl ?_
        iterate 6 refine We tG rfl rfl rfl trivial ?_
        refine Wn ?_
        refine Wq ?_
        refine lP rfl ?_
        first | (exfalso; (try simp only [dnL] at *); simp_all; done) | ((try simp only [dnL] at *); simp_all [tTwo, tup3, i64, boo, i64w, two, andS, orS, xorS, IntKind.bits, tw_quo, tw_rem, tw_add, tw_sub, tw_mul, tw_and, tw_or, tw_xor, tw_shl, tw_shr, tw_min, tw_max]; done) | ((try simp only [dnL] at *); subst_vars; first | exact congrArg (fun z => tup3 (i64 z) (boo true) (i64 0)) (i64w _) | rfl) | ((try simp only [dnL] at *); exact (held_two (by assumption) (by assumption) (by assumption) (by assumption) (by assumption) (by assumption) (by assumption) (by assumption) (by assumption) (by assumption) (by assumption) (by assumption)).symm)
       ·refine Ws ?_
        refine W_region rfl ?_
        refine We tG rfl rfl rfl trivial ?_
        refine Wa 56 rfl (str_eql _ _) ?_
        refine We tG rfl rfl rfl trivial ?_
        refine Wn ?_
        refine Wi rfl (fun hi9 => ?_) (fun hi9 => ?_)
        ·refine Ws ?_
         refine W_region rfl ?_
         iterate 6 refine We tG rfl rfl rfl trivial ?_
         refine Wn ?_
         refine Wq ?_
         refine lP rfl ?_
         first | (exfalso; (try simp only [dnL] at *); simp_all; done) | ((try simp only [dnL] at *); simp_all [tTwo, tup3, i64, boo, i64w, two, andS, orS, xorS, IntKind.bits, tw_quo, tw_rem, tw_add, tw_sub, tw_mul, tw_and, tw_or, tw_xor, tw_shl, tw_shr, tw_min, tw_max]; done) | ((try simp only [dnL] at *); subst_vars; first | exact congrArg (fun z => tup3 (i64 z) (boo true) (i64 0)) (i64w _) | rfl) | ((try simp only [dnL] at *); exact (held_two (by assumption) (by assumption) (by assumption) (by assumption) (by assumption) (by assumption) (by assumption) (by assumption) (by assumption) (by assumption) (by assumption) (by assumption)).symm)
        ·refine Ws ?_
         refine Ws ?_
         refine W_region rfl ?_
         refine We tG rfl rfl rfl trivial ?_
         refine Wa 61 rfl (str_eql _ _) ?_
         refine We tG rfl rfl rfl trivial ?_
         refine Wn ?_
         refine Wi rfl (fun hi10 => ?_) (fun hi10 => ?_)
         ·refine Wj ?_
          refine Wi rfl (fun hi11 => ?_) (fun hi11 => ?_)
          ·refine Ws ?_
           refine W_region rfl ?_
           iterate 4 refine We tG rfl rfl rfl trivial ?_
           refine Wa 66 rfl (str_eql _ _) ?_
           refine Wc rfl rfl (dC rfl Tryz.func82 rfl rfl ((alu_shift a b _) _)) ?_
           iterate 3 refine We tG rfl rfl rfl trivial ?_
           refine Wn ?_
           refine Wq ?_
           refine lP rfl ?_
           first | (exfalso; (try simp only [dnL] at *); simp_all; done) | ((try simp only [dnL] at *); simp_all [tTwo, tup3, i64, boo, i64w, two, andS, orS, xorS, IntKind.bits, tw_quo, tw_rem, tw_add, tw_sub, tw_mul, tw_and, tw_or, tw_xor, tw_shl, tw_shr, tw_min, tw_max]; done) | ((try simp only [dnL] at *); subst_vars; first | exact congrArg (fun z => tup3 (i64 z) (boo true) (i64 0)) (i64w _) | rfl) | ((try simp only [dnL] at *); exact (held_two (by assumption) (by assumption) (by assumption) (by assumption) (by assumption) (by assumption) (by assumption) (by assumption) (by assumption) (by assumption) (by assumption) (by assumption)).symm)
          ·refine Ws ?_
           refine W_region rfl ?_
           refine We tG rfl rfl rfl trivial ?_
           refine Wa 69 rfl (str_eql _ _) ?_
           refine We tG rfl rfl rfl trivial ?_
           refine Wn ?_
           refine Wi rfl (fun hi12 => ?_) (fun hi12 => ?_)
           ·refine Ws ?_
            refine W_region rfl ?_
            iterate 6 refine We tG rfl rfl rfl trivial ?_
            refine Wn ?_
            refine Wq ?_
            refine lP rfl ?_
            first | (exfalso; (try simp only [dnL] at *); simp_all; done) | ((try simp only [dnL] at *); simp_all [tTwo, tup3, i64, boo, i64w, two, andS, orS, xorS, IntKind.bits, tw_quo, tw_rem, tw_add, tw_sub, tw_mul, tw_and, tw_or, tw_xor, tw_shl, tw_shr, tw_min, tw_max]; done) | ((try simp only [dnL] at *); subst_vars; first | exact congrArg (fun z => tup3 (i64 z) (boo true) (i64 0)) (i64w _) | rfl) | ((try simp only [dnL] at *); exact (held_two (by assumption) (by assumption) (by assumption) (by assumption) (by assumption) (by assumption) (by assumption) (by assumption) (by assumption) (by assumption) (by assumption) (by assumption)).symm)
           ·refine Ws ?_
            refine W_region rfl ?_
            refine We tG rfl rfl rfl trivial ?_
            refine Wa 74 rfl (str_eql _ _) ?_
            refine We tG rfl rfl rfl trivial ?_
            refine Wn ?_
            refine Wi rfl (fun hi13 => ?_) (fun hi13 => ?_)
            ·refine Ws ?_
             refine W_region rfl ?_
             iterate 6 refine We tG rfl rfl rfl trivial ?_
             refine Wn ?_
             refine Wq ?_
             refine lP rfl ?_
             first | (exfalso; (try simp only [dnL] at *); simp_all; done) | ((try simp only [dnL] at *); simp_all [tTwo, tup3, i64, boo, i64w, two, andS, orS, xorS, IntKind.bits, tw_quo, tw_rem, tw_add, tw_sub, tw_mul, tw_and, tw_or, tw_xor, tw_shl, tw_shr, tw_min, tw_max]; done) | ((try simp only [dnL] at *); subst_vars; first | exact congrArg (fun z => tup3 (i64 z) (boo true) (i64 0)) (i64w _) | rfl) | ((try simp only [dnL] at *); exact (held_two (by assumption) (by assumption) (by assumption) (by assumption) (by assumption) (by assumption) (by assumption) (by assumption) (by assumption) (by assumption) (by assumption) (by assumption)).symm)
            ·refine Wj ?_
             refine Ws ?_
             refine W_region rfl ?_
             iterate 3 refine We tG rfl rfl rfl trivial ?_
             refine Wc rfl rfl (dC rfl Tryz.func83 rfl rfl ((alu_held name a b) _)) ?_
             iterate 5 refine We tG rfl rfl rfl trivial ?_
             refine Wn ?_
             refine Ws ?_
             refine W_region rfl ?_
             iterate 5 refine We tG rfl rfl rfl trivial ?_
             refine Wn ?_
             refine Wq ?_
             refine lP rfl ?_
             first | (exfalso; (try simp only [dnL] at *); simp_all; done) | ((try simp only [dnL] at *); simp_all [tTwo, tup3, i64, boo, i64w, two, andS, orS, xorS, IntKind.bits, tw_quo, tw_rem, tw_add, tw_sub, tw_mul, tw_and, tw_or, tw_xor, tw_shl, tw_shr, tw_min, tw_max]; done) | ((try simp only [dnL] at *); subst_vars; first | exact congrArg (fun z => tup3 (i64 z) (boo true) (i64 0)) (i64w _) | rfl) | ((try simp only [dnL] at *); exact (held_two (by assumption) (by assumption) (by assumption) (by assumption) (by assumption) (by assumption) (by assumption) (by assumption) (by assumption) (by assumption) (by assumption) (by assumption)).symm)
         ·refine W_region rfl ?_
          refine We tG rfl rfl rfl trivial ?_
          refine Wa 62 rfl (str_eql _ _) ?_
          refine We tG rfl rfl rfl trivial ?_
          refine Wn ?_
          refine Wi rfl (fun hi11 => ?_) (fun hi11 => ?_)
          ·refine Ws ?_
           refine W_region rfl ?_
           iterate 4 refine We tG rfl rfl rfl trivial ?_
           refine Wa 66 rfl (str_eql _ _) ?_
           refine Wc rfl rfl (dC rfl Tryz.func82 rfl rfl ((alu_shift a b _) _)) ?_
           iterate 3 refine We tG rfl rfl rfl trivial ?_
           refine Wn ?_
           refine Wq ?_
           refine lP rfl ?_
           first | (exfalso; (try simp only [dnL] at *); simp_all; done) | ((try simp only [dnL] at *); simp_all [tTwo, tup3, i64, boo, i64w, two, andS, orS, xorS, IntKind.bits, tw_quo, tw_rem, tw_add, tw_sub, tw_mul, tw_and, tw_or, tw_xor, tw_shl, tw_shr, tw_min, tw_max]; done) | ((try simp only [dnL] at *); subst_vars; first | exact congrArg (fun z => tup3 (i64 z) (boo true) (i64 0)) (i64w _) | rfl) | ((try simp only [dnL] at *); exact (held_two (by assumption) (by assumption) (by assumption) (by assumption) (by assumption) (by assumption) (by assumption) (by assumption) (by assumption) (by assumption) (by assumption) (by assumption)).symm)
          ·refine Ws ?_
           refine W_region rfl ?_
           refine We tG rfl rfl rfl trivial ?_
           refine Wa 69 rfl (str_eql _ _) ?_
           refine We tG rfl rfl rfl trivial ?_
           refine Wn ?_
           refine Wi rfl (fun hi12 => ?_) (fun hi12 => ?_)
           ·refine Ws ?_
            refine W_region rfl ?_
            iterate 6 refine We tG rfl rfl rfl trivial ?_
            refine Wn ?_
            refine Wq ?_
            refine lP rfl ?_
            first | (exfalso; (try simp only [dnL] at *); simp_all; done) | ((try simp only [dnL] at *); simp_all [tTwo, tup3, i64, boo, i64w, two, andS, orS, xorS, IntKind.bits, tw_quo, tw_rem, tw_add, tw_sub, tw_mul, tw_and, tw_or, tw_xor, tw_shl, tw_shr, tw_min, tw_max]; done) | ((try simp only [dnL] at *); subst_vars; first | exact congrArg (fun z => tup3 (i64 z) (boo true) (i64 0)) (i64w _) | rfl) | ((try simp only [dnL] at *); exact (held_two (by assumption) (by assumption) (by assumption) (by assumption) (by assumption) (by assumption) (by assumption) (by assumption) (by assumption) (by assumption) (by assumption) (by assumption)).symm)
           ·refine Ws ?_
            refine W_region rfl ?_
            refine We tG rfl rfl rfl trivial ?_
            refine Wa 74 rfl (str_eql _ _) ?_
            refine We tG rfl rfl rfl trivial ?_
            refine Wn ?_
            refine Wi rfl (fun hi13 => ?_) (fun hi13 => ?_)
            ·refine Ws ?_
             refine W_region rfl ?_
             iterate 6 refine We tG rfl rfl rfl trivial ?_
             refine Wn ?_
             refine Wq ?_
             refine lP rfl ?_
             first | (exfalso; (try simp only [dnL] at *); simp_all; done) | ((try simp only [dnL] at *); simp_all [tTwo, tup3, i64, boo, i64w, two, andS, orS, xorS, IntKind.bits, tw_quo, tw_rem, tw_add, tw_sub, tw_mul, tw_and, tw_or, tw_xor, tw_shl, tw_shr, tw_min, tw_max]; done) | ((try simp only [dnL] at *); subst_vars; first | exact congrArg (fun z => tup3 (i64 z) (boo true) (i64 0)) (i64w _) | rfl) | ((try simp only [dnL] at *); exact (held_two (by assumption) (by assumption) (by assumption) (by assumption) (by assumption) (by assumption) (by assumption) (by assumption) (by assumption) (by assumption) (by assumption) (by assumption)).symm)
            ·refine Wj ?_
             refine Ws ?_
             refine W_region rfl ?_
             iterate 3 refine We tG rfl rfl rfl trivial ?_
             refine Wc rfl rfl (dC rfl Tryz.func83 rfl rfl ((alu_held name a b) _)) ?_
             iterate 5 refine We tG rfl rfl rfl trivial ?_
             refine Wn ?_
             refine Ws ?_
             refine W_region rfl ?_
             iterate 5 refine We tG rfl rfl rfl trivial ?_
             refine Wn ?_
             refine Wq ?_
             refine lP rfl ?_
             first | (exfalso; (try simp only [dnL] at *); simp_all; done) | ((try simp only [dnL] at *); simp_all [tTwo, tup3, i64, boo, i64w, two, andS, orS, xorS, IntKind.bits, tw_quo, tw_rem, tw_add, tw_sub, tw_mul, tw_and, tw_or, tw_xor, tw_shl, tw_shr, tw_min, tw_max]; done) | ((try simp only [dnL] at *); subst_vars; first | exact congrArg (fun z => tup3 (i64 z) (boo true) (i64 0)) (i64w _) | rfl) | ((try simp only [dnL] at *); exact (held_two (by assumption) (by assumption) (by assumption) (by assumption) (by assumption) (by assumption) (by assumption) (by assumption) (by assumption) (by assumption) (by assumption) (by assumption)).symm)
end Go.Proofs.YtphgdofmjpdhaaaGreat
namespace Go.Proofs.YtphgdofmjpdhaaaGreat
open Go.RowKit
set_option linter.unusedVariables false
set_option maxRecDepth 100000
set_option maxHeartbeats 4000000
theorem pic_Sign (p : VPic) (n : Int) (hp : p.b.length ≤ 1000000) : PureC Tryz.prog 159 [ePic p, i64 n] (tPic (picSign p n)) := by
 refine pW tG (rs := [.cell 4 32, .tmp 5]) Tryz.func159 rfl rfl rfl (by simp) (by simp) (fun B => ?_)
 refine Ws ?_
 refine W_region rfl ?_
 iterate 3 refine We tG rfl rfl rfl trivial ?_
 refine Wn ?_
 iterate 2 refine Ws ?_
 refine W_region rfl ?_
 iterate 2 refine We tG rfl rfl rfl trivial ?_
 refine Wn ?_
 refine Wi rfl (fun hi1 => ?_) (fun hi1 => ?_)
 ·have h0 : 0 ≤ n := by (try simp only [dnL] at *); omega
  refine Ws ?_
  refine W_region rfl ?_
  iterate 3 refine We tG rfl rfl rfl trivial ?_
  refine Wn ?_
  refine Wq ?_
  refine lP rfl ?_
  rw [picSign, if_pos h0]; rfl
 ·have h0 : ¬ 0 ≤ n := by (try simp only [dnL] at *); omega
  refine Wj ?_
  refine Ws ?_
  refine W_region rfl ?_
  refine We tG rfl rfl rfl trivial ?_
  refine Wc rfl rfl (dC rfl Tryz.func158 rfl rfl ((pic_Hold p 45 hp) _)) ?_
  iterate 4 refine We tG rfl rfl rfl trivial ?_
  refine Wn ?_
  refine Wq ?_
  refine lP rfl ?_
  rw [picSign, if_neg h0]; rfl
def digOf (p : VPic) (lo hi base : Int) : VPic × Int := picHold p (digS (udivS lo (udivS hi 0 base).2.1 base).2.1)
def picDigit (p : VPic) (lo hi base : Int) : VPic × Int × Int × Int :=
 if base < 2 ∨ 36 < base then (p, lo, hi, -24) else
  if (digOf p lo hi base).2 = 0 then ((digOf p lo hi base).1, (udivS lo (udivS hi 0 base).2.1 base).1, (udivS hi 0 base).1, 0) else (p, lo, hi, (digOf p lo hi base).2)
def tDig (r : VPic × Int × Int × Int) : PV := tup4 (ePic r.1) (i64 r.2.1) (i64 r.2.2.1) (i64 r.2.2.2)
@[simp] theorem flat_tDig (r : VPic × Int × Int × Int) : Flat (tDig r) := by simp [tDig]
theorem digS_wrap (n : Int) : IntKind.i64.wrap (digS n) = digS n := by rw [i64w]; unfold digS wrap64; split <;> (try split) <;> omega
theorem pic_Digit (p : VPic) (lo hi base : Int) (hp : p.b.length ≤ 1000000) : PureC Tryz.prog 155 [ePic p, i64 lo, i64 hi, i64 base] (tDig (picDigit p lo hi base)) := by
 refine pW tG (rs := [.cell 8 32, .tmp 9, .tmp 10, .tmp 11]) Tryz.func155 rfl rfl rfl (by simp) (by simp) (fun B => ?_)
 refine Ws ?_
 refine W_region rfl ?_
 iterate 5 refine We tG rfl rfl rfl trivial ?_
 refine Wn ?_
 iterate 2 refine Ws ?_
 refine W_region rfl ?_
 iterate 3 refine We tG rfl rfl rfl trivial ?_
 refine Wb 22 rfl (fun hg1 => ?_) (fun hg1 => ?_)
 ·refine Wk rfl rfl ?_
  refine Wk rfl rfl ?_
  refine We tG rfl rfl rfl trivial ?_
  refine Wn ?_
  refine Wt rfl rfl ?_
  refine Ws ?_
  refine W_region rfl ?_
  iterate 7 refine We tG rfl rfl rfl trivial ?_
  refine Wn ?_
  refine Wq ?_
  refine lP rfl ?_
  rw [picDigit, if_pos (by (try simp only [dnL] at *); omega)]; rfl
 ·refine We tG rfl rfl rfl trivial ?_
  iterate 2 refine We tG rfl rfl rfl trivial ?_
  refine Wn ?_
  refine Wi rfl (fun hi1 => ?_) (fun hi1 => ?_)
  ·have hb : base < 2 ∨ 36 < base := by (try simp only [dnL] at *); omega
   refine Ws ?_
   refine W_region rfl ?_
   iterate 7 refine We tG rfl rfl rfl trivial ?_
   refine Wn ?_
   refine Wq ?_
   refine lP rfl ?_
   rw [picDigit, if_pos hb]; rfl
  ·have hb : ¬ (base < 2 ∨ 36 < base) := by (try simp only [dnL] at *); omega
   refine Wj ?_
   refine Ws ?_
   refine W_region rfl ?_
   iterate 2 refine We tG rfl rfl rfl trivial ?_
   refine Wc rfl rfl (dC rfl Tryz.func96 rfl rfl ((k_UDiv hi 0 base) _)) ?_
   iterate 7 refine We tG rfl rfl rfl trivial ?_
   refine Wn ?_
   refine Ws ?_
   refine W_region rfl ?_
   iterate 3 refine We tG rfl rfl rfl trivial ?_
   refine Wc rfl rfl (dC rfl Tryz.func96 rfl rfl ((k_UDiv lo _ base) _)) ?_
   iterate 7 refine We tG rfl rfl rfl trivial ?_
   refine Wn ?_
   refine Ws ?_
   refine W_drawU [1, 0, 0, 0, 0, 0, 0, 0, 2, 3, 0] [0, 1, 2, 3, 4, 5, 6, 7, 8, 9, 10] mG rfl (by kernel_rfl) ?_
   refine Xf tG rfl rfl rfl rfl (fun _ => rfl) trivial ?_
   refine Xe tG rfl rfl rfl rfl (fun _ => rfl) trivial ?_
   refine Xc rfl rfl rfl rfl (fun _ => dC rfl Tryz.func237 rfl rfl ((k_Digit _) _)) ?_
   refine Xe tG rfl rfl rfl rfl (fun _ => rfl) trivial ?_
   refine Xa 48 rfl (congrArg (fun z => PV.val (Value.int .i64 z)) (digS_wrap _)) ?_
   refine Xc rfl rfl rfl rfl (fun _ => dC rfl Tryz.func158 rfl rfl ((pic_Hold p _ hp) _)) ?_
   refine Xe tG rfl rfl rfl rfl (fun _ => rfl) trivial ?_
   refine Xe tG rfl rfl rfl rfl (fun _ => rfl) trivial ?_
   refine Xe tG rfl rfl rfl rfl (fun _ => rfl) trivial ?_
   refine WU_ev2 tG rfl rfl rfl rfl rfl trivial rfl ?_
   refine WU_ev3 tG rfl rfl rfl rfl rfl trivial ?_
   refine Xe tG rfl rfl rfl rfl (fun _ => rfl) trivial ?_
   refine WU_nil ?_
   iterate 2 refine Ws ?_
   refine W_region rfl ?_
   iterate 2 refine We tG rfl rfl rfl trivial ?_
   refine Wn ?_
   refine Wi rfl (fun hi2 => ?_) (fun hi2 => ?_)
   ·have h0 : ¬ (digOf p lo hi base).2 = 0 := by (try simp only [dnL] at *); exact hi2
    refine Ws ?_
    refine W_region rfl ?_
    iterate 8 refine We tG rfl rfl rfl trivial ?_
    refine Wn ?_
    refine Wq ?_
    refine lP rfl ?_
    rw [picDigit, if_neg hb, if_neg h0]; rfl
   ·have h0 : (digOf p lo hi base).2 = 0 := by (try simp only [dnL] at *); exact hi2
    refine Wj ?_
    refine Ws ?_
    refine W_region rfl ?_
    iterate 7 refine We tG rfl rfl rfl trivial ?_
    refine Wn ?_
    refine Wq ?_
    refine lP rfl ?_
    rw [picDigit, if_neg hb, if_pos h0]; rfl
end Go.Proofs.YtphgdofmjpdhaaaGreat
namespace Go.Proofs.YtphgdofmjpdhaaaGreat
open Go.RowKit
set_option linter.unusedVariables false
set_option maxRecDepth 100000
set_option maxHeartbeats 4000000
def picEnd (p : VPic) : List UInt8 × Int := if p.on then (p.b.reverse, 0) else ([], -17)
end Go.Proofs.YtphgdofmjpdhaaaGreat
namespace Go.Proofs.YtphgdofmjpdhaaaGreat
open Go.RowKit
set_option linter.unusedVariables false
set_option maxRecDepth 100000
set_option maxHeartbeats 4000000
def kindOk (n : Int) : Prop := (0 ≤ n ∧ n ≤ 129) ∨ (256 ≤ n ∧ n ≤ 260) ∨ (300 ≤ n ∧ n ≤ 336)
instance (n : Int) : Decidable (kindOk n) := by unfold kindOk; infer_instance
def vmKind (v : VVm) (xt : Int) : Int × Int := if (memFetch v.mem xt).2 = 0 then (if kindOk (memFetch v.mem xt).1 then ((memFetch v.mem xt).1, 0) else (0, -9)) else (0, (memFetch v.mem xt).2)
theorem vm_Kind (v : VVm) (xt : Int) (hm : v.mem.b.length ≤ 140737488355328) (hx : Fit64 xt) : PureC Tryz.prog 164 [eVm v, i64 xt] (tFetch (vmKind v xt)) := by
 have h1 := names_len
 have h2 := specials_len
 refine pW tG (rs := [.tmp 4, .tmp 5]) Tryz.func164 rfl rfl rfl (by simp) (by simp) (fun B => ?_)
 refine Ws ?_
 refine W_region rfl ?_
 iterate 3 refine We tG rfl rfl rfl trivial ?_
 refine Wn ?_
 refine Ws ?_
 refine W_region rfl ?_
 iterate 3 refine We tG rfl rfl rfl trivial ?_
 refine Wc rfl rfl (dC rfl Tryz.func105 rfl rfl ((mem_Fetch v.mem xt hm hx) _)) ?_
 iterate 5 refine We tG rfl rfl rfl trivial ?_
 refine Wn ?_
 iterate 2 refine Ws ?_
 refine W_region rfl ?_
 iterate 2 refine We tG rfl rfl rfl trivial ?_
 refine Wn ?_
 refine Wi rfl (fun hi1 => ?_) (fun hi1 => ?_)
 ·have h0 : ¬ (memFetch v.mem xt).2 = 0 := by simpa using hi1
  refine Ws ?_
  refine W_region rfl ?_
  iterate 3 refine We tG rfl rfl rfl trivial ?_
  refine Wn ?_
  refine Wq ?_
  refine lP rfl ?_
  rw [vmKind, if_neg h0]; rfl
 ·have h0 : (memFetch v.mem xt).2 = 0 := by simpa using hi1
  have w1 : IntKind.i64.wrap (IntKind.i64.wrap (300 + (specials.length : Int)) - 1) = 336 := by rw [h2]; decide
  have w2 : IntKind.i64.wrap ((names.length : Int) - 1) = 129 := by rw [h1]; decide
  refine Wj ?_
  iterate 2 refine Ws ?_
  refine W_region rfl ?_
  refine We tG rfl rfl rfl trivial ?_
  refine Wc rfl rfl (dC rfl Tryz.func25 rfl rfl ((vm_Names) _)) ?_
  iterate 2 refine We tG rfl rfl rfl trivial ?_
  refine Wc rfl rfl (dC rfl Tryz.func243 rfl rfl ((vm_within _ _ _) _)) ?_
  refine We tG rfl rfl rfl trivial ?_
  refine Wb 23 rfl (fun hg1 => ?_) (fun hg1 => ?_)
  ·refine Wk rfl rfl ?_
   refine Wk rfl rfl ?_
   iterate 2 refine We tG rfl rfl rfl trivial ?_
   iterate 6 refine Wk rfl rfl ?_
   refine We tG rfl rfl rfl trivial ?_
   refine Wn ?_
   refine Wt rfl rfl ?_
   refine Ws ?_
   refine W_region rfl ?_
   iterate 3 refine We tG rfl rfl rfl trivial ?_
   refine Wn ?_
   refine Wq ?_
   refine lP rfl ?_
   first | (rw [vmKind, if_pos h0, if_pos (by unfold kindOk; (try simp only [dnL] at *); omega)]; rfl) | (rw [vmKind, if_pos h0, if_neg (by unfold kindOk; (try simp only [dnL] at *); omega)]; rfl)
  ·refine We tG rfl rfl rfl trivial ?_
   refine Wc rfl rfl (dC rfl Tryz.func243 rfl rfl ((vm_within _ _ _) _)) ?_
   iterate 2 refine We tG rfl rfl rfl trivial ?_
   refine Wb 27 rfl (fun hg2 => ?_) (fun hg2 => ?_)
   ·refine Wk rfl rfl ?_
    iterate 5 refine Wk rfl rfl ?_
    refine We tG rfl rfl rfl trivial ?_
    refine Wn ?_
    refine Wt rfl rfl ?_
    refine Ws ?_
    refine W_region rfl ?_
    iterate 3 refine We tG rfl rfl rfl trivial ?_
    refine Wn ?_
    refine Wq ?_
    refine lP rfl ?_
    first | (rw [vmKind, if_pos h0, if_pos (by unfold kindOk; (try simp only [dnL] at *); omega)]; rfl) | (rw [vmKind, if_pos h0, if_neg (by unfold kindOk; (try simp only [dnL] at *); omega)]; rfl)
   ·refine We tG rfl rfl rfl trivial ?_
    refine Wc rfl rfl (dC rfl Tryz.func226 rfl rfl ((vm_Specials) _)) ?_
    iterate 3 refine We tG rfl rfl rfl trivial ?_
    refine Wc rfl rfl (dC rfl Tryz.func243 rfl rfl ((vm_within _ _ _) _)) ?_
    refine We tG rfl rfl rfl trivial ?_
    refine Wn ?_
    refine Wi rfl (fun hi2 => ?_) (fun hi2 => ?_)
    ·refine Ws ?_
     refine W_region rfl ?_
     iterate 3 refine We tG rfl rfl rfl trivial ?_
     refine Wn ?_
     refine Wq ?_
     refine lP rfl ?_
     first | (rw [vmKind, if_pos h0, if_pos (by unfold kindOk; (try simp only [dnL] at *); omega)]; rfl) | (rw [vmKind, if_pos h0, if_neg (by unfold kindOk; (try simp only [dnL] at *); omega)]; rfl)
    ·refine Wj ?_
     refine Ws ?_
     refine W_region rfl ?_
     iterate 2 refine We tG rfl rfl rfl trivial ?_
     refine Wn ?_
     refine Wq ?_
     refine lP rfl ?_
     first | (rw [vmKind, if_pos h0, if_pos (by unfold kindOk; (try simp only [dnL] at *); omega)]; rfl) | (rw [vmKind, if_pos h0, if_neg (by unfold kindOk; (try simp only [dnL] at *); omega)]; rfl)
end Go.Proofs.YtphgdofmjpdhaaaGreat
namespace Go.Proofs.YtphgdofmjpdhaaaGreat
open Go.RowKit
set_option linter.unusedVariables false
set_option maxRecDepth 100000
set_option maxHeartbeats 4000000
theorem bits_Mul1 (n : Nat) (h : n ≤ 1000000) : PureC Tryz.prog 229 [.val (.int .u64 1), .val (.int .u64 n)] (tup2 (.val (.int .u64 0)) (.val (.int .u64 n))) := by
 refine pure_of_calls (P := Tryz.prog) (args := [.int .u64 1, .int .u64 n]) (v := .tuple #[.int .u64 0, .int .u64 n]) (fun c => ?_) (fun w => ?_)
 ·unfold tup2 Rep
  exact ⟨[_, _], rfl, repL_cons.2 ⟨rep_val _ _, repL_cons.2 ⟨rep_val _ _, repL_nil.2 rfl⟩⟩⟩
 ·refine Calls.mono (Tryz.bits_Mul 1 n (by omega) (by omega) w) ?_
  rintro e w' ⟨rfl, rfl⟩
  refine ⟨?_, Grows.refl _⟩
  rw [Nat.one_mul, Nat.div_eq_of_lt (by omega), Nat.mod_eq_of_lt (by omega)]; rfl
theorem u64_nat {n : Nat} (h : n ≤ 1000000) : PV.val (.int .u64 (IntKind.u64.wrap (n : Int))) = .val (.int .u64 (n : Int)) := by
 exact congrArg (fun z => PV.val (Value.int .u64 z)) (by rw [IntKind.wrap_u64]; omega)
theorem i64_nat {n : Nat} (h : n ≤ 1000000) : PV.val (.int .i64 (IntKind.i64.wrap (n : Int))) = .val (.int .i64 (n : Int)) := by
 exact congrArg (fun z => PV.val (Value.int .i64 z)) (by rw [i64w]; unfold wrap64; omega)
def filledP (c : UInt8) (n k : Nat) : List PV := (List.replicate k c).flatMap cByte ++ List.replicate (n - k) .any
theorem filledP_len {c : UInt8} {n k : Nat} (h : k ≤ n) : (filledP c n k).length = n := by
 unfold filledP
 rw [List.length_append, flatMap_len cByte 1 (fun _ => rfl)]
 simp; omega
theorem rep_cB (c : UInt8) (k : Nat) : (List.replicate k c).flatMap cByte = List.replicate k (.val (.int .u8 (c.toNat : Int))) := by
 rw [List.flatMap_replicate]
 induction k with
 | zero => rfl
 | succ k ih => rw [List.replicate_succ, List.flatten_cons, ih]; rfl
theorem filledP_more {c : UInt8} {n k q : Nat} (h : k + q ≤ n) : splice (filledP c n k) k ((List.replicate q c).flatMap cByte) = filledP c n (k + q) := by
 unfold filledP splice
 rw [rep_cB, rep_cB, rep_cB, List.take_append_of_le_length (by simp), List.take_of_length_le (by simp), List.drop_append, List.length_replicate, List.length_replicate, List.drop_of_length_le (by simp), List.nil_append, List.drop_replicate, List.replicate_append_replicate]
 congr 2; omega
theorem filledP_take {c : UInt8} {n k q : Nat} (h : q ≤ k) : ((filledP c n k).drop 0).take q = (List.replicate q c).flatMap cByte := by
 unfold filledP
 rw [rep_cB, rep_cB, List.drop_zero, List.take_append_of_le_length (by simpa using h), List.take_replicate, Nat.min_eq_left h]
theorem filledP_zero (c : UInt8) (n : Nat) : List.replicate n .any = filledP c n 0 := by simp [filledP]
theorem mk_body : Tryz.f257.body.isNone = true := by kernel_rfl
theorem mk_next : Extern.findNext Tryz.f257 = none := by kernel_rfl
theorem mk_find : Extern.find Tryz.f257 = some (Extern.BytealgMakeNoZero.makeNoZero #[3] #[24]) := by kernel_rfl
theorem mk_name : (Tryz.f257.name == "runtime.NumGoroutine") = false := by kernel_rfl
theorem does_mk {B : Nat → Nat → Prop} {o : Oper} {T : Nat → PV} {H : List Ob} {x : Operand} {ats : Array TypeId} {m : Nat} (ho : o.op = .call { callee := .value (.func 257), args := #[x], argTypes := ats }) (hx : opv T x = .val (.int .i64 (m : Int))) (hm : m ≤ 281474976710656) :
  Does Tryz.prog B o T H (.arw H.length 0 m) (H ++ [.cells (List.replicate m .any) 5]) :=
 does_makeNoZero ho Tryz.func257 mk_name mk_body mk_next mk_find (lO (G := tys) (t := 24) tG rfl) rfl hx hm
def chunkOf (n : Nat) : Nat := if 8192 < n then 8192 else n
theorem chunk_pos {n : Nat} (h : n ≠ 0) : 0 < chunkOf n := by unfold chunkOf; split <;> omega
theorem rep_one {n : Nat} (h : n ≠ 0) : PV.val (.int .i64 ((min 1 n : Nat) : Int)) = .val (.int .i64 ((1 : Nat) : Int)) := by rw [Nat.min_eq_left (by omega)]
theorem rep_first {c : UInt8} {n : Nat} {e : TypeId} (h : n ≠ 0) : [Ob.cells (filledP c n 1) e] = [Ob.cells (splice (filledP c n 0) 0 ((List.flatMap cByte [c]).take (min 1 n * 1))) e] := by
 rw [Nat.min_eq_left (by omega)]
 have := filledP_more (c := c) (n := n) (k := 0) (q := 1) (by omega)
 rw [Nat.zero_add] at this
 rw [← this]; rfl
theorem rep_min {k q : Nat} : PV.val (.int .i64 (if (q : Int) < (k : Int) then (q : Int) else (k : Int))) = .val (.int .i64 ((min k q : Nat) : Int)) :=
 congrArg (fun z => PV.val (Value.int .i64 z)) (by split <;> omega)
@[simp] theorem flat_filledP (c : UInt8) (n k : Nat) : FlatL (filledP c n k) := by
 unfold filledP
 refine flatL_app (flatL_map' flat_cByte _) ?_
 induction (n - k) with
 | zero => trivial
 | succ m ih => rw [List.replicate_succ]; exact ⟨trivial, ih⟩
theorem arr_from {n k : Nat} (h : k < n) : PV.arr 0 (if n = (k : Int).toNat then 0 else 0 + (k : Int).toNat * 1) (n - (k : Int).toNat) (n - (k : Int).toNat) = .arr 0 k (n - k) (n - k) := by
 rw [Int.toNat_natCast, if_neg (by omega)]; congr 1; omega
theorem arr_upto {n q : Nat} : PV.arr 0 (if n = 0 then 0 else 0 + 0 * 1) ((q : Int).toNat - 0) (n - 0) = .arr 0 0 q n := by
 simp
theorem filledP_ok {c : UInt8} {n k q : Nat} (h : q ≤ k) : ∀ z ∈ ((filledP c n k).drop 0).take q, okC z = true := by
 rw [filledP_take h, rep_cB]
 intro z hz
 rw [List.eq_of_mem_replicate hz]; rfl
theorem rep_step {c : UInt8} {n k q : Nat} {e : TypeId} (h : q ≤ k) (h2 : k + q ≤ n) : [Ob.cells (filledP c n (k + q)) e] = [Ob.cells (splice (filledP c n k) k (((filledP c n k).drop 0).take (q * 1))) e] := by
 rw [Nat.mul_one, filledP_take h, filledP_more h2]
theorem i64_add {a b : Nat} (h : a + b ≤ 1000000) : PV.val (.int .i64 (IntKind.i64.wrap ((a : Int) + (b : Int)))) = .val (.int .i64 ((a + b : Nat) : Int)) :=
 congrArg (fun z => PV.val (Value.int .i64 z)) (by rw [i64w]; unfold wrap64; omega)
theorem rep_end {c : UInt8} {n k : Nat} (h : n ≤ k) (h2 : k ≤ n) : PV.seq n ((filledP c n k).take n) .any = sq cByte (List.replicate n c) := by
 have : k = n := by omega
 subst this
 have := filledP_take (c := c) (n := k) (k := k) (q := k) (Nat.le_refl _)
 rw [List.drop_zero] at this
 rw [this]
 unfold sq
 rw [List.length_replicate]
theorem bytes_Repeat1 (c : UInt8) (n : Nat) (h : n ≤ 1000000) : PureC Tryz.prog 222 [sq cByte [c], i64 n] (sq cByte (List.replicate n c)) := by
 refine pW tG (rs := [.tmp 4]) Tryz.func222 rfl rfl rfl (by simp) (by simp) (fun B => ?_)
 refine Ws ?_
 refine W_region rfl ?_
 refine We tG rfl rfl rfl trivial ?_
 refine Wn ?_
 iterate 2 refine Ws ?_
 refine W_region rfl ?_
 iterate 2 refine We tG rfl rfl rfl trivial ?_
 refine Wn ?_
 refine Wi rfl (fun hi1 => ?_) (fun hi1 => ?_)
 ·have hz : n = 0 := by simpa using hi1
  subst hz
  refine Ws ?_
  refine W_region rfl ?_
  iterate 2 refine We tG rfl rfl rfl trivial ?_
  refine Wn ?_
  refine Wq ?_
  refine lP rfl ?_
  rfl
 ·have hn : n ≠ 0 := by simpa using hi1
  have hcp := chunk_pos hn
  refine Wj ?_
  iterate 2 refine Ws ?_
  refine W_region rfl ?_
  iterate 2 refine We tG rfl rfl rfl trivial ?_
  refine Wn ?_
  refine Wf rfl (by first | exact trivial | omega | (simp only [dnL] at *; omega) | (simp_all; done) | (simp_all; omega)) ?_
  refine Wj ?_
  refine Ws ?_
  refine W_region rfl ?_
  iterate 3 refine We tG rfl rfl rfl trivial ?_
  refine Wa 21 rfl ((rfl : PV.val (.int .u64 (IntKind.u64.wrap ((1 : Nat) : Int))) = .val (.int .u64 1))) ?_
  iterate 2 refine We tG rfl rfl rfl trivial ?_
  refine Wa 23 rfl (u64_nat h) ?_
  refine Wc rfl rfl (dC rfl Tryz.func229 rfl rfl ((bits_Mul1 n h) _)) ?_
  iterate 5 refine We tG rfl rfl rfl trivial ?_
  refine Wn ?_
  iterate 2 refine Ws ?_
  refine W_region rfl ?_
  iterate 3 refine We tG rfl rfl rfl trivial ?_
  refine WO_false 29 rfl (by rfl) ?_
  iterate 3 refine We tG rfl rfl rfl trivial ?_
  refine Wn ?_
  refine Wf rfl (by first | exact trivial | omega | (simp only [dnL] at *; omega) | (simp_all; done) | (simp_all; omega)) ?_
  refine Wj ?_
  refine Ws ?_
  refine W_region rfl ?_
  iterate 2 refine We tG rfl rfl rfl trivial ?_
  refine Wa 35 rfl (i64_nat h) ?_
  refine We tG rfl rfl rfl trivial ?_
  refine Wn ?_
  iterate 2 refine Ws ?_
  refine W_region rfl ?_
  iterate 3 refine We tG rfl rfl rfl trivial ?_
  refine Wn ?_
  refine Wf rfl (by rfl) ?_
  refine Wj ?_
  refine Ws ?_
  refine W_region rfl ?_
  iterate 2 refine We tG rfl rfl rfl trivial ?_
  refine Wn ?_
  iterate 2 refine Ws ?_
  refine W_region rfl ?_
  iterate 2 refine We tG rfl rfl rfl trivial ?_
  refine Wn ?_
  refine Wi rfl (fun hi5 => ?_) (fun hi5 => ?_)
  ·have hq : 8192 = chunkOf n := by unfold chunkOf; rw [if_pos (by have := of_decide_eq_true hi5; omega)]
   refine Ws ?_
   refine W_region rfl ?_
   iterate 3 refine We tG rfl rfl rfl trivial ?_
   refine Wa 45 rfl (congrArg (fun z => PV.val (Value.int .i64 z)) (show IntKind.i64.wrap (Int.tdiv 8192 ((1 : Nat) : Int)) = 8192 by decide)) ?_
   iterate 3 refine We tG rfl rfl rfl trivial ?_
   refine Wa 48 rfl (congrArg (fun z => PV.val (Value.int .i64 z)) (show IntKind.i64.wrap (8192 * ((1 : Nat) : Int)) = (chunkOf n : Int) by rw [← hq]; decide)) ?_
   refine We tG rfl rfl rfl trivial ?_
   refine Wn ?_
   refine Ws ?_
   refine W_region rfl ?_
   iterate 2 refine We tG rfl rfl rfl trivial ?_
   refine Wn ?_
   refine Wf rfl (by first | (simp; done) | (simp; omega)) ?_
   refine Wj ?_
   refine Ws ?_
   refine W_region rfl ?_
   refine We tG rfl rfl rfl trivial ?_
   have hmk : n ≤ 281474976710656 := by omega
   refine Wd (x := .arw 0 0 n) (H' := [.cells (List.replicate n .any) 5]) rfl rfl (does_mk (H := []) (m := n) rfl rfl hmk) ?_
   iterate 2 refine We tG rfl rfl rfl trivial ?_
   refine Wd rfl rfl (does_slice_arw_clip (lO tG rfl) rfl (lO tG rfl) rfl rfl ⟨_, _, rfl, by omega, by simp⟩ ⟨_, _, rfl, by omega, by simp⟩) ?_
   refine WO_ob (H' := [.cells (filledP c n 0) 5]) (by rw [← filledP_zero]) ?_
   refine We tG rfl rfl rfl trivial ?_
   refine Wn ?_
   refine Ws ?_
   refine W_region rfl ?_
   iterate 2 refine We tG rfl rfl rfl trivial ?_
   refine Wd rfl rfl (does_copy (lO tG rfl) rfl (lO tG rfl) rfl rfl rfl rfl (flatMap_len _ 1 (fun _ => rfl) _) (okC_flat _ (fun _ => rfl) _) (by rw [filledP_len (by omega)]; (try dsimp only); (try omega))) ?_
   refine Wa 60 rfl (rep_one hn) ?_
   refine WO_ob (H' := [.cells (filledP c n 1) 5]) (rep_first hn) ?_
   refine We tG rfl rfl rfl trivial ?_
   refine Wn ?_
   refine Ws ?_
   refine Wl ?_
   show W _ _ _ _ _ _ _
   refine W_loopS (fun (k : Nat) => [(7, i64 n), (8, i64 (chunkOf n)), (9, .arr 0 0 n n), (10, i64 k)]) (fun (k : Nat) => [.cells (filledP c n k) 5]) (fun (k : Nat) => []) (fun (k : Nat) => 1 ≤ k ∧ k ≤ n) (fun (k : Nat) => n - k) (1) (by omega) [] ?_ ?_
   ·exact ⟨rfl, ⟨(by repeat (first | exact reBase_nil | refine rB (.inl rfl) ?_ | refine rB (.inr rfl) ?_)), (by repeat (first | exact reX_nil | refine rX rfl ?_ | refine rX (by refine congrArg (fun q => some (Ob.free q)) ?_; simp <;> omega) ?_)), (by decide), (by repeat (first | exact moved_nil | refine mC (.inl (Nat.le_of_ble_eq_true rfl)) ?_ | refine mC (.inr rfl) ?_)), (by repeat (first | exact nlo_nil | exact nO nlo_nil | refine nlo_cells (by first | (refine nF ?_; simp; done) | (refine nF (flatL_map' ?_ _); intro x; simp; done) | (simp [NL1L, NL1]; done)) ?_ | refine nO ?_ | refine nlo_dead ?_ | refine nlo_iter ?_ | refine nlo_smap (by first | (refine nF ?_; simp; done) | (refine nF (flatL_map' ?_ _); intro x; simp; done) | (simp [NL1L, NL1]; done)) ?_))⟩, (by repeat (first | exact subL_nil | refine subL_cons (by first | exact imp_of rfl | exact imp_seq _ _ _ | exact imp_of (congrArg i64 (by rw [hq])) | exact imp_of (congrArg i64 (by rw [← hq])) | exact imp_of (congrArg i64 (by first | (rw [i64w]; unfold wrap64; omega) | omega | (simp; done)))) ?_)), (by repeat (first | exact nls_nil | refine nls_cons (by first | (refine nl_flat ?_; simp; done) | (show _ < _; first | decide | (simp; done)) | (refine ⟨?_, flatL_map' ?_ _⟩ <;> first | decide | (intro x; simp; done) | (simp; done)) | (refine ⟨?_, ?_⟩ <;> first | decide | (simp; done)) | (simp [NL, NL1L, NL1]; done)) ?_))⟩
   ·intro k hk
    iterate 2 refine Ws ?_
    refine W_region rfl ?_
    iterate 3 refine We tG rfl rfl rfl trivial ?_
    refine Wn ?_
    refine Wi rfl (fun hi7 => ?_) (fun hi7 => ?_)
    ·have hlt : k < n := by have := of_decide_eq_true hi7; omega
     have hm1 : min k (chunkOf n) ≤ n := by omega
     refine Wj ?_
     refine Wl ?_
     refine Ws ?_
     refine W_region rfl ?_
     iterate 3 refine We tG rfl rfl rfl trivial ?_
     refine Wa 66 rfl (rep_min) ?_
     refine We tG rfl rfl rfl trivial ?_
     refine Wn ?_
     refine W_drawU [0, 0, 0, 0, 0, 0, 0, 3, 0, 0] [0, 1, 2, 3, 4, 5, 6, 7, 8, 9] mG rfl (by kernel_rfl) ?_
     refine Xe tG rfl rfl rfl rfl (fun _ => rfl) trivial ?_
     refine Xe tG rfl rfl rfl rfl (fun _ => rfl) trivial ?_
     refine Xe tG rfl rfl rfl rfl (fun _ => rfl) trivial ?_
     refine Xe tG rfl rfl rfl rfl (fun _ => rfl) (by first | omega | (simp; omega)) ?_
     refine Xa 70 rfl (arr_from hlt) ?_
     refine Xe tG rfl rfl rfl rfl (fun _ => rfl) trivial ?_
     refine Xe tG rfl rfl rfl rfl (fun _ => rfl) trivial ?_
     refine Xe tG rfl rfl rfl rfl (fun _ => rfl) (by first | omega | (simp; omega)) ?_
     refine Xa 73 rfl (arr_upto) ?_
     refine WU_does3 rfl rfl rfl rfl (does_copy_self (lO tG rfl) rfl (lO tG rfl) rfl rfl rfl rfl (filledP_ok (by dsimp only; omega)) (by rw [filledP_len hk.2]; dsimp only; omega) (by rw [filledP_len hk.2]; dsimp only; omega)) ?_
     refine WU_ob (H' := [.cells (filledP c n (k + min (min k (chunkOf n)) (n - k))) 5]) (rep_step (by omega) (by omega)) ?_
     refine Xe tG rfl rfl rfl rfl (fun _ => rfl) trivial ?_
     refine Xa 75 rfl (i64_add (by omega)) ?_
     refine Xe tG rfl rfl rfl rfl (fun _ => rfl) trivial ?_
     refine WU_nil ?_
     exact ⟨k + min (min k (chunkOf n)) (n - k), [], (by omega), (by omega), ⟨rfl, ⟨(by repeat (first | exact reBase_nil | refine rB (.inl rfl) ?_ | refine rB (.inr rfl) ?_)), (by repeat (first | exact reX_nil | refine rX rfl ?_ | refine rX (by refine congrArg (fun q => some (Ob.free q)) ?_; simp <;> omega) ?_)), (by decide), (by repeat (first | exact moved_nil | refine mC (.inl (Nat.le_of_ble_eq_true rfl)) ?_ | refine mC (.inr rfl) ?_)), (by repeat (first | exact nlo_nil | exact nO nlo_nil | refine nlo_cells (by first | (refine nF ?_; simp; done) | (refine nF (flatL_map' ?_ _); intro x; simp; done) | (simp [NL1L, NL1]; done)) ?_ | refine nO ?_ | refine nlo_dead ?_ | refine nlo_iter ?_ | refine nlo_smap (by first | (refine nF ?_; simp; done) | (refine nF (flatL_map' ?_ _); intro x; simp; done) | (simp [NL1L, NL1]; done)) ?_))⟩, (by repeat (first | exact subL_nil | refine subL_cons (by first | exact imp_of rfl | exact imp_seq _ _ _ | exact imp_of (congrArg i64 (by first | (rw [i64w]; unfold wrap64; omega) | omega | (simp; done)))) ?_)), (by repeat (first | exact nls_nil | refine nls_cons (by first | (refine nl_flat ?_; simp; done) | (show _ < _; first | decide | (simp; done)) | (refine ⟨?_, flatL_map' ?_ _⟩ <;> first | decide | (intro x; simp; done) | (simp; done)) | (refine ⟨?_, ?_⟩ <;> first | decide | (simp; done)) | (simp [NL, NL1L, NL1]; done)) ?_))⟩⟩
    ·have hge : n ≤ k := by have := of_decide_eq_false hi7; omega
     refine W_exit ?_
     refine Ws ?_
     refine W_region rfl ?_
     refine We tG rfl rfl rfl trivial ?_
     refine Wm 76 rfl (imp_arr_arw (Nat.le_refl _)) ?_
     refine WO_freeze 76 0 _ n rfl rfl (by rw [filledP_len hk.2]; exact Nat.le_refl _) ?_
     refine Wa 76 rfl (rep_end hge hk.2) ?_
     refine We tG rfl rfl rfl trivial ?_
     refine Wn ?_
     refine Wq ?_
     refine lP rfl ?_
     first | rfl | (simp_all; done) | (simp_all; omega)
  ·have hq : chunkOf n = n := by unfold chunkOf; rw [if_neg (by have := of_decide_eq_false hi5; omega)]
   refine Wj ?_
   refine Ws ?_
   refine W_region rfl ?_
   refine We tG rfl rfl rfl trivial ?_
   have hmk : n ≤ 281474976710656 := by omega
   refine Wd (x := .arw 0 0 n) (H' := [.cells (List.replicate n .any) 5]) rfl rfl (does_mk (H := []) (m := n) rfl rfl hmk) ?_
   iterate 2 refine We tG rfl rfl rfl trivial ?_
   refine Wd rfl rfl (does_slice_arw_clip (lO tG rfl) rfl (lO tG rfl) rfl rfl ⟨_, _, rfl, by omega, by simp⟩ ⟨_, _, rfl, by omega, by simp⟩) ?_
   refine WO_ob (H' := [.cells (filledP c n 0) 5]) (by rw [← filledP_zero]) ?_
   refine We tG rfl rfl rfl trivial ?_
   refine Wn ?_
   refine Ws ?_
   refine W_region rfl ?_
   iterate 2 refine We tG rfl rfl rfl trivial ?_
   refine Wd rfl rfl (does_copy (lO tG rfl) rfl (lO tG rfl) rfl rfl rfl rfl (flatMap_len _ 1 (fun _ => rfl) _) (okC_flat _ (fun _ => rfl) _) (by rw [filledP_len (by omega)]; (try dsimp only); (try omega))) ?_
   refine Wa 60 rfl (rep_one hn) ?_
   refine WO_ob (H' := [.cells (filledP c n 1) 5]) (rep_first hn) ?_
   refine We tG rfl rfl rfl trivial ?_
   refine Wn ?_
   refine Ws ?_
   refine Wl ?_
   show W _ _ _ _ _ _ _
   refine W_loopS (fun (k : Nat) => [(7, i64 n), (8, i64 (chunkOf n)), (9, .arr 0 0 n n), (10, i64 k)]) (fun (k : Nat) => [.cells (filledP c n k) 5]) (fun (k : Nat) => []) (fun (k : Nat) => 1 ≤ k ∧ k ≤ n) (fun (k : Nat) => n - k) (1) (by omega) [] ?_ ?_
   ·exact ⟨rfl, ⟨(by repeat (first | exact reBase_nil | refine rB (.inl rfl) ?_ | refine rB (.inr rfl) ?_)), (by repeat (first | exact reX_nil | refine rX rfl ?_ | refine rX (by refine congrArg (fun q => some (Ob.free q)) ?_; simp <;> omega) ?_)), (by decide), (by repeat (first | exact moved_nil | refine mC (.inl (Nat.le_of_ble_eq_true rfl)) ?_ | refine mC (.inr rfl) ?_)), (by repeat (first | exact nlo_nil | exact nO nlo_nil | refine nlo_cells (by first | (refine nF ?_; simp; done) | (refine nF (flatL_map' ?_ _); intro x; simp; done) | (simp [NL1L, NL1]; done)) ?_ | refine nO ?_ | refine nlo_dead ?_ | refine nlo_iter ?_ | refine nlo_smap (by first | (refine nF ?_; simp; done) | (refine nF (flatL_map' ?_ _); intro x; simp; done) | (simp [NL1L, NL1]; done)) ?_))⟩, (by repeat (first | exact subL_nil | refine subL_cons (by first | exact imp_of rfl | exact imp_seq _ _ _ | exact imp_of (congrArg i64 (by rw [hq])) | exact imp_of (congrArg i64 (by rw [← hq])) | exact imp_of (congrArg i64 (by first | (rw [i64w]; unfold wrap64; omega) | omega | (simp; done)))) ?_)), (by repeat (first | exact nls_nil | refine nls_cons (by first | (refine nl_flat ?_; simp; done) | (show _ < _; first | decide | (simp; done)) | (refine ⟨?_, flatL_map' ?_ _⟩ <;> first | decide | (intro x; simp; done) | (simp; done)) | (refine ⟨?_, ?_⟩ <;> first | decide | (simp; done)) | (simp [NL, NL1L, NL1]; done)) ?_))⟩
   ·intro k hk
    iterate 2 refine Ws ?_
    refine W_region rfl ?_
    iterate 3 refine We tG rfl rfl rfl trivial ?_
    refine Wn ?_
    refine Wi rfl (fun hi7 => ?_) (fun hi7 => ?_)
    ·have hlt : k < n := by have := of_decide_eq_true hi7; omega
     have hm1 : min k (chunkOf n) ≤ n := by omega
     refine Wj ?_
     refine Wl ?_
     refine Ws ?_
     refine W_region rfl ?_
     iterate 3 refine We tG rfl rfl rfl trivial ?_
     refine Wa 66 rfl (rep_min) ?_
     refine We tG rfl rfl rfl trivial ?_
     refine Wn ?_
     refine W_drawU [0, 0, 0, 0, 0, 0, 0, 3, 0, 0] [0, 1, 2, 3, 4, 5, 6, 7, 8, 9] mG rfl (by kernel_rfl) ?_
     refine Xe tG rfl rfl rfl rfl (fun _ => rfl) trivial ?_
     refine Xe tG rfl rfl rfl rfl (fun _ => rfl) trivial ?_
     refine Xe tG rfl rfl rfl rfl (fun _ => rfl) trivial ?_
     refine Xe tG rfl rfl rfl rfl (fun _ => rfl) (by first | omega | (simp; omega)) ?_
     refine Xa 70 rfl (arr_from hlt) ?_
     refine Xe tG rfl rfl rfl rfl (fun _ => rfl) trivial ?_
     refine Xe tG rfl rfl rfl rfl (fun _ => rfl) trivial ?_
     refine Xe tG rfl rfl rfl rfl (fun _ => rfl) (by first | omega | (simp; omega)) ?_
     refine Xa 73 rfl (arr_upto) ?_
     refine WU_does3 rfl rfl rfl rfl (does_copy_self (lO tG rfl) rfl (lO tG rfl) rfl rfl rfl rfl (filledP_ok (by dsimp only; omega)) (by rw [filledP_len hk.2]; dsimp only; omega) (by rw [filledP_len hk.2]; dsimp only; omega)) ?_
     refine WU_ob (H' := [.cells (filledP c n (k + min (min k (chunkOf n)) (n - k))) 5]) (rep_step (by omega) (by omega)) ?_
     refine Xe tG rfl rfl rfl rfl (fun _ => rfl) trivial ?_
     refine Xa 75 rfl (i64_add (by omega)) ?_
     refine Xe tG rfl rfl rfl rfl (fun _ => rfl) trivial ?_
     refine WU_nil ?_
     exact ⟨k + min (min k (chunkOf n)) (n - k), [], (by omega), (by omega), ⟨rfl, ⟨(by repeat (first | exact reBase_nil | refine rB (.inl rfl) ?_ | refine rB (.inr rfl) ?_)), (by repeat (first | exact reX_nil | refine rX rfl ?_ | refine rX (by refine congrArg (fun q => some (Ob.free q)) ?_; simp <;> omega) ?_)), (by decide), (by repeat (first | exact moved_nil | refine mC (.inl (Nat.le_of_ble_eq_true rfl)) ?_ | refine mC (.inr rfl) ?_)), (by repeat (first | exact nlo_nil | exact nO nlo_nil | refine nlo_cells (by first | (refine nF ?_; simp; done) | (refine nF (flatL_map' ?_ _); intro x; simp; done) | (simp [NL1L, NL1]; done)) ?_ | refine nO ?_ | refine nlo_dead ?_ | refine nlo_iter ?_ | refine nlo_smap (by first | (refine nF ?_; simp; done) | (refine nF (flatL_map' ?_ _); intro x; simp; done) | (simp [NL1L, NL1]; done)) ?_))⟩, (by repeat (first | exact subL_nil | refine subL_cons (by first | exact imp_of rfl | exact imp_seq _ _ _ | exact imp_of (congrArg i64 (by first | (rw [i64w]; unfold wrap64; omega) | omega | (simp; done)))) ?_)), (by repeat (first | exact nls_nil | refine nls_cons (by first | (refine nl_flat ?_; simp; done) | (show _ < _; first | decide | (simp; done)) | (refine ⟨?_, flatL_map' ?_ _⟩ <;> first | decide | (intro x; simp; done) | (simp; done)) | (refine ⟨?_, ?_⟩ <;> first | decide | (simp; done)) | (simp [NL, NL1L, NL1]; done)) ?_))⟩⟩
    ·have hge : n ≤ k := by have := of_decide_eq_false hi7; omega
     refine W_exit ?_
     refine Ws ?_
     refine W_region rfl ?_
     refine We tG rfl rfl rfl trivial ?_
     refine Wm 76 rfl (imp_arr_arw (Nat.le_refl _)) ?_
     refine WO_freeze 76 0 _ n rfl rfl (by rw [filledP_len hk.2]; exact Nat.le_refl _) ?_
     refine Wa 76 rfl (rep_end hge hk.2) ?_
     refine We tG rfl rfl rfl trivial ?_
     refine Wn ?_
     refine Wq ?_
     refine lP rfl ?_
     first | rfl | (simp_all; done) | (simp_all; omega)
end Go.Proofs.YtphgdofmjpdhaaaGreat
namespace Go.Proofs.YtphgdofmjpdhaaaGreat
open Go.RowKit
set_option linter.unusedVariables false
set_option maxRecDepth 100000
theorem mem_Fill (m : VMem) (at_ n c : Int) (hm : MemOk m) (ha : Fit64 at_) (hn : Fit64 n) : PureC Tryz.prog 116 [eMem m, i64 at_, i64 n, i64 c] (tMem (memFill m at_ n c)) := by
 have hm1 := hm.b
 have hm2 := hm.old
 refine pW tG (rs := [.cell 8 27, .tmp 9]) Tryz.func116 rfl rfl rfl (by simp) (by simp) (fun B => ?_)
 refine Ws ?_
 refine W_region rfl ?_
 iterate 3 refine We tG rfl rfl rfl trivial ?_
 refine Wn ?_
 iterate 2 refine Ws ?_
 refine W_region rfl ?_
 iterate 3 refine We tG rfl rfl rfl trivial ?_
 refine Wc rfl rfl (dC rfl Tryz.func219 rfl rfl ((mem_there m at_ n (by omega) ha hn) _)) ?_
 refine We tG rfl rfl rfl trivial ?_
 refine Wn ?_
 refine Wi rfl (fun hi1 => ?_) (fun hi1 => ?_)
 ·have ht : ¬ memThere m at_ n = true := by simpa using hi1
  refine Ws ?_
  refine W_region rfl ?_
  iterate 3 refine We tG rfl rfl rfl trivial ?_
  refine Wn ?_
  refine Wq ?_
  refine lP rfl ?_
  rw [memFill, if_neg ht]; rfl
 ·have ht : memThere m at_ n = true := by simpa using hi1
  have hN : 0 ≤ n ∧ n ≤ 1000000 := by unfold memThere at ht; simp only [decide_eq_true_eq] at ht; omega
  refine Wj ?_
  refine Ws ?_
  refine W_drawU [1, 0, 0, 0, 0, 0, 0, 0, 0, 0, 3, 0] [0, 1, 2, 3, 4, 5, 6, 7, 8, 9, 10, 11] mG rfl (by kernel_rfl) ?_
  refine Xf tG rfl rfl rfl rfl (fun _ => rfl) trivial ?_
  refine Xe tG rfl rfl rfl rfl (fun _ => rfl) trivial ?_
  refine Xe tG rfl rfl rfl rfl (fun _ => rfl) trivial ?_
  refine Xe tG rfl rfl rfl rfl (fun _ => rfl) trivial ?_
  refine Xa 19 rfl (loB_pv c) ?_
  refine Xe tG rfl rfl rfl rfl (fun _ => rfl) trivial ?_
  first | refine Xa 20 rfl (bsL cByte [_] rfl rfl) ?_ | skip
  refine Xe tG rfl rfl rfl rfl (fun _ => rfl) trivial ?_
  refine Xa 21 rfl ((show PV.val (.int .i64 n) = i64 ((n.toNat : Nat) : Int) by rw [Int.toNat_of_nonneg hN.1]; rfl)) ?_
  refine Xc rfl rfl rfl rfl (fun _ => dC rfl Tryz.func222 rfl rfl ((bytes_Repeat1 (loB c) n.toNat (by omega)) _)) ?_
  refine Xc rfl rfl rfl rfl (fun _ => dC rfl Tryz.func162 rfl rfl ((mem_Write m at_ _ hm ha (by simp; omega)) _)) ?_
  refine Xe tG rfl rfl rfl rfl (fun _ => rfl) trivial ?_
  refine Xe tG rfl rfl rfl rfl (fun _ => rfl) trivial ?_
  refine WU_ev3 tG rfl rfl rfl rfl rfl trivial ?_
  refine Xe tG rfl rfl rfl rfl (fun _ => rfl) trivial ?_
  refine WU_nil ?_
  refine Wq ?_
  refine lP rfl ?_
  rw [memFill, if_pos ht]; rfl
end Go.Proofs.YtphgdofmjpdhaaaGreat
namespace Go.Proofs.YtphgdofmjpdhaaaGreat
open Go.RowKit
set_option linter.unusedVariables false
set_option maxRecDepth 100000
def spcAllot (m : VMem) (low here n : Int) : Int × Int := if n > m.b.length - here ∨ n < low - here then (here, -8) else (here + n, 0)
def spcLay (m : VMem) (here : Int) (b : List UInt8) : VMem × Int × Int := if (b.length : Int) > m.b.length - here then (m, here, -8) else ((memWrite m here b).1, here + b.length, 0)
def spcComma (m : VMem) (here n : Int) : VMem × Int × Int := if here.tmod 8 = 0 then spcLay m here (putC n) else (m, here, -23)
def spcAlign (m : VMem) (here : Int) : VMem × Int × Int := spcLay m here (List.replicate ((8 - here.tmod 8).tmod 8).toNat 0)
def tLay (r : VMem × Int × Int) : PV := tup3 (eMem r.1) (i64 r.2.1) (i64 r.2.2)
@[simp] theorem flat_tLay (r : VMem × Int × Int) : Flat (tLay r) := by simp [tLay]
structure HereOk (m : VMem) (here : Int) : Prop where
 h0 : 0 ≤ here
 h1 : here ≤ m.b.length
theorem HereOk.fit {m : VMem} {here : Int} (h : HereOk m here) (hm : MemOk m) : Fit64 here := by have := h.h0; have := h.h1; have := hm.b; unfold Fit64; omega
theorem room_left (m : VMem) (here : Int) (hm : MemOk m) (hh : HereOk m here) : PureC Tryz.prog 225 [.agg [sq cByte m.b, sq cPatch m.old, i64 here]] (i64 (m.b.length - here)) := by
 have h0 := hh.h0
 have h1 := hh.h1
 have h2 := hm.b
 refine pW tG (rs := [.tmp 2]) Tryz.func225 rfl rfl rfl (by simp) (by simp) (fun B => ?_)
 refine Ws ?_
 refine W_region rfl ?_
 iterate 2 refine We tG rfl rfl rfl trivial ?_
 refine Wn ?_
 refine Ws ?_
 refine W_region rfl ?_
 iterate 8 refine We tG rfl rfl rfl trivial ?_
 refine Wn ?_
 refine Wq ?_
 refine lP rfl ?_
 exact congrArg i64 (by (first | omega | (simp only [dnL] at *; omega) | (rw [i64w]; unfold wrap64; (try simp only [dnL] at *); omega)))
theorem spc_Allot (m : VMem) (low here n : Int) (hm : MemOk m) (hh : HereOk m here) (hl : Fit64 low ∧ 0 ≤ low) (hn : Fit64 n) : PureC Tryz.prog 129 [eMem m, i64 low, i64 here, i64 n] (tFetch (spcAllot m low here n)) := by
 have h0 := hh.h0
 have h1 := hh.h1
 have h2 := hm.b
 unfold Fit64 at hl hn
 have w1 : IntKind.i64.wrap (low - here) = low - here := by (first | omega | (simp only [dnL] at *; omega) | (rw [i64w]; unfold wrap64; (try simp only [dnL] at *); omega))
 refine pW tG (rs := [.tmp 8, .tmp 9]) Tryz.func129 rfl rfl rfl (by simp) (by simp) (fun B => ?_)
 refine Ws ?_
 refine W_region rfl ?_
 iterate 3 refine We tG rfl rfl rfl trivial ?_
 refine Wn ?_
 refine Ws ?_
 refine W_region rfl ?_
 iterate 5 refine We tG rfl rfl rfl trivial ?_
 refine Wn ?_
 iterate 2 refine Ws ?_
 refine W_region rfl ?_
 iterate 2 refine We tG rfl rfl rfl trivial ?_
 refine Wc rfl rfl (doesCWv rfl rfl Tryz.func225 rfl rfl (room_left m here hm hh _)) ?_
 iterate 2 refine We tG rfl rfl rfl trivial ?_
 refine Wb 19 rfl (fun hg1 => ?_) (fun hg1 => ?_)
 ·refine Wk rfl rfl ?_
  iterate 4 refine Wk rfl rfl ?_
  refine We tG rfl rfl rfl trivial ?_
  refine Wn ?_
  refine Wt rfl rfl ?_
  refine Ws ?_
  refine W_region rfl ?_
  iterate 3 refine We tG rfl rfl rfl trivial ?_
  refine Wn ?_
  refine Wq ?_
  refine lP rfl ?_
  first | (rw [spcAllot, if_pos (by (try simp only [dnL] at *); omega)]; rfl) | (rw [spcAllot, if_neg (by (try simp only [dnL] at *); omega)]; exact congrArg (fun z => tup2 (i64 z) (i64 0)) (by (first | omega | (simp only [dnL] at *; omega) | (rw [i64w]; unfold wrap64; (try simp only [dnL] at *); omega))))
 ·refine We tG rfl rfl rfl trivial ?_
  iterate 5 refine We tG rfl rfl rfl trivial ?_
  refine Wn ?_
  refine Wi rfl (fun hi1 => ?_) (fun hi1 => ?_)
  ·refine Ws ?_
   refine W_region rfl ?_
   iterate 3 refine We tG rfl rfl rfl trivial ?_
   refine Wn ?_
   refine Wq ?_
   refine lP rfl ?_
   first | (rw [spcAllot, if_pos (by (try simp only [dnL] at *); omega)]; rfl) | (rw [spcAllot, if_neg (by (try simp only [dnL] at *); omega)]; exact congrArg (fun z => tup2 (i64 z) (i64 0)) (by (first | omega | (simp only [dnL] at *; omega) | (rw [i64w]; unfold wrap64; (try simp only [dnL] at *); omega))))
  ·refine Wj ?_
   refine Ws ?_
   refine W_region rfl ?_
   iterate 5 refine We tG rfl rfl rfl trivial ?_
   refine Wn ?_
   refine Wq ?_
   refine lP rfl ?_
   first | (rw [spcAllot, if_pos (by (try simp only [dnL] at *); omega)]; rfl) | (rw [spcAllot, if_neg (by (try simp only [dnL] at *); omega)]; exact congrArg (fun z => tup2 (i64 z) (i64 0)) (by (first | omega | (simp only [dnL] at *; omega) | (rw [i64w]; unfold wrap64; (try simp only [dnL] at *); omega))))
end Go.Proofs.YtphgdofmjpdhaaaGreat
namespace Go.Proofs.YtphgdofmjpdhaaaGreat
open Go.RowKit
set_option linter.unusedVariables false
set_option maxRecDepth 100000
theorem spc_Lay (m : VMem) (here : Int) (b : List UInt8) (hm : MemOk m) (hh : HereOk m here) (hb : b.length ≤ 1000000) : PureC Tryz.prog 134 [eMem m, i64 here, sq cByte b] (tLay (spcLay m here b)) := by
 have h0 := hh.h0
 have h1 := hh.h1
 have h2 := hm.b
 refine pW tG (rs := [.cell 6 27, .tmp 7, .tmp 8]) Tryz.func134 rfl rfl rfl (by simp) (by simp) (fun B => ?_)
 refine Ws ?_
 refine W_region rfl ?_
 iterate 4 refine We tG rfl rfl rfl trivial ?_
 refine Wn ?_
 refine Ws ?_
 refine W_region rfl ?_
 iterate 5 refine We tG rfl rfl rfl trivial ?_
 refine Wn ?_
 iterate 2 refine Ws ?_
 refine W_region rfl ?_
 iterate 3 refine We tG rfl rfl rfl trivial ?_
 refine Wc rfl rfl (doesCWv rfl rfl Tryz.func225 rfl rfl (room_left m here hm hh _)) ?_
 refine We tG rfl rfl rfl trivial ?_
 refine Wn ?_
 refine Wi rfl (fun hi1 => ?_) (fun hi1 => ?_)
 ·refine Ws ?_
  refine W_region rfl ?_
  iterate 5 refine We tG rfl rfl rfl trivial ?_
  refine Wn ?_
  refine Wq ?_
  refine lP rfl ?_
  rw [spcLay, if_pos (by (try simp only [dnL] at *); omega)]; rfl
 ·refine Wj ?_
  refine Ws ?_
  refine W_region rfl ?_
  iterate 3 refine We tG rfl rfl rfl trivial ?_
  refine Wc rfl rfl (dC rfl Tryz.func162 rfl rfl ((mem_Write m here b hm (hh.fit hm) hb) _)) ?_
  iterate 4 refine We tG rfl rfl rfl trivial ?_
  refine Wn ?_
  refine Ws ?_
  refine W_region rfl ?_
  iterate 8 refine We tG rfl rfl rfl trivial ?_
  refine Wn ?_
  refine Wq ?_
  refine lP rfl ?_
  rw [spcLay, if_neg (by (try simp only [dnL] at *); omega)]; exact congrArg (fun z => tup3 (eMem (memWrite m here b).1) (i64 z) (i64 0)) (by (first | omega | (simp only [dnL] at *; omega) | (rw [i64w]; unfold wrap64; (try simp only [dnL] at *); omega)))
theorem spc_Comma (m : VMem) (here n : Int) (hm : MemOk m) (hh : HereOk m here) : PureC Tryz.prog 132 [eMem m, i64 here, i64 n] (tLay (spcComma m here n)) := by
 have h0 := hh.h0
 have h1 := hh.h1
 have h2 := hm.b
 refine pW tG (rs := [.cell 6 27, .tmp 7, .tmp 8]) Tryz.func132 rfl rfl rfl (by simp) (by simp) (fun B => ?_)
 refine Ws ?_
 refine W_region rfl ?_
 iterate 4 refine We tG rfl rfl rfl trivial ?_
 refine Wn ?_
 iterate 2 refine Ws ?_
 refine W_region rfl ?_
 iterate 3 refine We tG rfl rfl rfl trivial ?_
 refine Wn ?_
 refine Wi rfl (fun hi1 => ?_) (fun hi1 => ?_)
 ·refine Ws ?_
  refine W_region rfl ?_
  iterate 5 refine We tG rfl rfl rfl trivial ?_
  refine Wn ?_
  refine Wq ?_
  refine lP rfl ?_
  rw [spcComma, if_neg (by (try simp only [dnL] at *); omega)]; rfl
 ·refine Wj ?_
  refine Ws ?_
  refine W_drawU [1, 0, 0, 0, 0, 0, 0, 0, 3, 0, 0] [0, 1, 2, 3, 4, 5, 6, 7, 8, 9, 10] mG rfl (by kernel_rfl) ?_
  refine Xf tG rfl rfl rfl rfl (fun _ => rfl) trivial ?_
  refine Xe tG rfl rfl rfl rfl (fun _ => rfl) trivial ?_
  refine Xe tG rfl rfl rfl rfl (fun _ => rfl) trivial ?_
  refine Xc rfl rfl rfl rfl (fun _ => dC rfl Tryz.func221 rfl rfl ((cell_put8 n) _)) ?_
  refine Xc rfl rfl rfl rfl (fun _ => dC rfl Tryz.func134 rfl rfl ((spc_Lay m here (putC n) hm hh (by rw [putC_len]; omega)) _)) ?_
  refine Xe tG rfl rfl rfl rfl (fun _ => rfl) trivial ?_
  refine Xe tG rfl rfl rfl rfl (fun _ => rfl) trivial ?_
  refine Xe tG rfl rfl rfl rfl (fun _ => rfl) trivial ?_
  refine WU_ev3 tG rfl rfl rfl rfl rfl trivial ?_
  refine Xe tG rfl rfl rfl rfl (fun _ => rfl) trivial ?_
  refine Xe tG rfl rfl rfl rfl (fun _ => rfl) trivial ?_
  refine WU_nil ?_
  refine Wq ?_
  refine lP rfl ?_
  rw [spcComma, if_pos (by (try simp only [dnL] at *); omega)]; rfl
theorem tmod8 {x : Int} (h : 0 ≤ x) : 0 ≤ (8 - x.tmod 8).tmod 8 ∧ (8 - x.tmod 8).tmod 8 < 8 := by
 rw [Int.tmod_eq_emod_of_nonneg h, Int.tmod_eq_emod_of_nonneg (by omega)]; omega
theorem rep_zero {c : UInt8} {n : Nat} {d : TD} (hz : d.zero = cByte 0) : zerosPV n d = (List.replicate n (0 : UInt8)).flatMap cByte := by
 unfold zerosPV; rw [hz, List.flatMap_replicate]
theorem seq_zero {n : Int} {d : TD} (hz : d.zero = cByte 0) : PV.seq n.toNat (zerosPV n.toNat d) .clip = sqc cByte (List.replicate n.toNat (0 : UInt8)) := by
 rw [rep_zero (c := 0) hz]; unfold sqc; rw [List.length_replicate]
theorem spc_AlignUp (m : VMem) (here : Int) (hm : MemOk m) (hh : HereOk m here) : PureC Tryz.prog 136 [eMem m, i64 here] (tLay (spcAlign m here)) := by
 have h0 := hh.h0
 have h1 := hh.h1
 have h2 := hm.b
 obtain ⟨u0, u1⟩ := tmod8 h0
 have w1 : IntKind.i64.wrap (8 - here.tmod 8) = 8 - here.tmod 8 := by
  rw [i64w]; unfold wrap64; rw [Int.tmod_eq_emod_of_nonneg h0]; omega
 refine pW tG (rs := [.cell 4 27, .tmp 5, .tmp 6]) Tryz.func136 rfl rfl rfl (by simp) (by simp) (fun B => ?_)
 refine Ws ?_
 refine W_region rfl ?_
 iterate 4 refine We tG rfl rfl rfl trivial ?_
 refine Wn ?_
 refine Ws ?_
 refine W_drawU [1, 0, 0, 0, 0, 0, 0, 0, 0, 0, 0, 3, 0, 0] [0, 1, 2, 3, 4, 5, 6, 7, 8, 9, 10, 11, 12, 13] mG rfl (by kernel_rfl) ?_
 refine Xf tG rfl rfl rfl rfl (fun _ => rfl) trivial ?_
 refine Xe tG rfl rfl rfl rfl (fun _ => rfl) trivial ?_
 refine Xe tG rfl rfl rfl rfl (fun _ => rfl) trivial ?_
 refine Xe tG rfl rfl rfl rfl (fun _ => rfl) trivial ?_
 refine Xe tG rfl rfl rfl rfl (fun _ => rfl) trivial ?_
 refine Xe tG rfl rfl rfl rfl (fun _ => rfl) trivial ?_
 refine Xa 12 rfl ((show PV.val (.int .i64 _) = .val (.int .i64 ((8 - here.tmod 8).tmod 8)) by rw [w1])) ?_
 refine WU_does0 rfl rfl rfl rfl (fun _ => does_makeSeq (lO tG rfl) rfl (lO tG rfl) rfl rfl rfl u0 (by dsimp only; omega) (by omega)) ?_
 refine Xa 13 rfl (seq_zero rfl) ?_
 refine Xc rfl rfl rfl rfl (fun _ => dC rfl Tryz.func134 rfl rfl ((spc_Lay m here (List.replicate ((8 - here.tmod 8).tmod 8).toNat 0) hm hh (by simp; omega)) _)) ?_
 refine Xe tG rfl rfl rfl rfl (fun _ => rfl) trivial ?_
 refine Xe tG rfl rfl rfl rfl (fun _ => rfl) trivial ?_
 refine Xe tG rfl rfl rfl rfl (fun _ => rfl) trivial ?_
 refine WU_ev3 tG rfl rfl rfl rfl rfl trivial ?_
 refine Xe tG rfl rfl rfl rfl (fun _ => rfl) trivial ?_
 refine Xe tG rfl rfl rfl rfl (fun _ => rfl) trivial ?_
 refine WU_nil ?_
 refine Wq ?_
 refine lP rfl ?_
 first | rfl | (simp_all; done) | (simp_all; omega)
end Go.Proofs.YtphgdofmjpdhaaaGreat
namespace Go.Proofs.YtphgdofmjpdhaaaGreat
open Go.RowKit
set_option linter.unusedVariables false
set_option maxRecDepth 100000
set_option maxHeartbeats 4000000
def stkLaid (s : List Int) (takes : Nat) (leaves : List Int) (limit : Int) : List Int × Bool × Int :=
 if ((s.length - takes + leaves.length : Nat) : Int) > limit then (s, true, -3) else (s.take (s.length - takes) ++ leaves, true, 0)
def tStk (r : List Int × Bool × Int) : PV := tup3 (sq cInt r.1) (boo r.2.1) (i64 r.2.2)
@[simp] theorem flat_tStk (r : List Int × Bool × Int) : Flat (tStk r) := by simp [tStk]
theorem stk_laid (s : List Int) (takes : Nat) (leaves : List Int) (limit : Int) (hs : s.length ≤ 100000) (ht : takes ≤ s.length) (hl : leaves.length ≤ 100000) (hm : -9223372036854775808 ≤ limit ∧ limit ≤ 9223372036854775807) :
  PureC Tryz.prog 47 [sq cInt s, i64 takes, sq cInt leaves, i64 limit] (tStk (stkLaid s takes leaves limit)) := by
 have w1 : IntKind.i64.wrap ((s.length : Int) - (takes : Int)) = ((s.length - takes : Nat) : Int) := by (first | omega | (simp only [dnL] at *; omega) | (rw [i64w]; unfold wrap64; (try simp only [dnL] at *); omega))
 have w2 : IntKind.i64.wrap (((s.take (s.length - takes)).length : Int) + (leaves.length : Int)) = ((s.length - takes + leaves.length : Nat) : Int) := by
  rw [List.length_take, Nat.min_eq_left (by omega)]; (first | omega | (simp only [dnL] at *; omega) | (rw [i64w]; unfold wrap64; (try simp only [dnL] at *); omega))
 refine pW tG (rs := [.tmp 8, .tmp 9, .tmp 10]) Tryz.func47 rfl rfl rfl (by simp) (by simp) (fun B => ?_)
 refine Ws ?_
 refine W_region rfl ?_
 iterate 3 refine We tG rfl rfl rfl trivial ?_
 refine Wn ?_
 refine Ws ?_
 refine W_region rfl ?_
 iterate 5 refine We tG rfl rfl rfl trivial ?_
 refine Wa 16 rfl (congrArg (fun z => PV.val (Value.int .i64 z)) w1) ?_
 refine We tG rfl rfl rfl (by first | exact trivial | omega | (simp only [dnL] at *; omega) | (simp_all; done) | (simp_all; omega)) ?_
 refine Wa 17 rfl (sq_slice cInt 1 (fun _ => rfl) (by first | exact trivial | omega | (simp only [dnL] at *; omega) | (simp_all; done) | (simp_all; omega))) ?_
 refine Wa 17 rfl ((show _ = sq cInt (s.take (s.length - takes)) by rw [Int.toNat_natCast, List.drop_zero]; rfl)) ?_
 refine We tG rfl rfl rfl trivial ?_
 refine Wn ?_
 iterate 2 refine Ws ?_
 refine W_region rfl ?_
 iterate 5 refine We tG rfl rfl rfl trivial ?_
 refine Wa 22 rfl (congrArg (fun z => PV.val (Value.int .i64 z)) w2) ?_
 iterate 2 refine We tG rfl rfl rfl trivial ?_
 refine Wn ?_
 refine Wi rfl (fun hi1 => ?_) (fun hi1 => ?_)
 ·refine Ws ?_
  refine W_region rfl ?_
  iterate 4 refine We tG rfl rfl rfl trivial ?_
  refine Wn ?_
  refine Wq ?_
  refine lP rfl ?_
  rw [stkLaid, if_pos (by (try simp only [dnL] at *); omega)]; rfl
 ·refine Wj ?_
  refine Ws ?_
  refine W_region rfl ?_
  iterate 3 refine We tG rfl rfl rfl trivial ?_
  first | refine Wa 28 rfl (bsL cRow [_, _] rfl rfl) ?_ | skip
  refine Wc rfl rfl (dC rfl Tryz.func29 rfl rfl ((concat2 _ _ (by simp; omega) (by omega)) _)) ?_
  iterate 3 refine We tG rfl rfl rfl trivial ?_
  refine Wn ?_
  refine Wq ?_
  refine lP rfl ?_
  rw [stkLaid, if_neg (by (try simp only [dnL] at *); omega)]; rfl
def stkPop (s : List Int) : Int × List Int × Int := if s.length = 0 then (0, s, -4) else (s.getD (s.length - 1) 0, s.take (s.length - 1), 0)
def tPop (r : Int × List Int × Int) : PV := tup3 (i64 r.1) (sq cInt r.2.1) (i64 r.2.2)
@[simp] theorem flat_tPop (r : Int × List Int × Int) : Flat (tPop r) := by simp [tPop]
theorem stk_Pop (s : List Int) (hs : s.length ≤ 100000) : PureC Tryz.prog 79 [sq cInt s] (tPop (stkPop s)) := by
 refine pW tG (rs := [.tmp 2, .tmp 3, .tmp 4]) Tryz.func79 rfl rfl rfl (by simp) (by simp) (fun B => ?_)
 refine Ws ?_
 refine W_region rfl ?_
 iterate 3 refine We tG rfl rfl rfl trivial ?_
 refine Wn ?_
 iterate 2 refine Ws ?_
 refine W_region rfl ?_
 iterate 3 refine We tG rfl rfl rfl trivial ?_
 refine Wn ?_
 refine Wi rfl (fun hi1 => ?_) (fun hi1 => ?_)
 ·have h0 : s.length = 0 := by (try simp only [dnL] at *); omega
  refine Ws ?_
  refine W_region rfl ?_
  iterate 4 refine We tG rfl rfl rfl trivial ?_
  refine Wn ?_
  refine Wq ?_
  refine lP rfl ?_
  rw [stkPop, if_pos h0]; rfl
 ·have h0 : s.length ≠ 0 := by (try simp only [dnL] at *); omega
  have w1 : IntKind.i64.wrap ((s.length : Int) - 1) = ((s.length - 1 : Nat) : Int) := by (first | omega | (simp only [dnL] at *; omega) | (rw [i64w]; unfold wrap64; (try simp only [dnL] at *); omega))
  refine Wj ?_
  refine Ws ?_
  refine W_drawU [0, 0, 0, 0, 0, 1, 0, 0, 0, 0, 0, 0, 0, 0] [0, 1, 2, 3, 4, 5, 6, 7, 8, 9, 10, 11, 12, 13] mG rfl (by kernel_rfl) ?_
  refine Xe tG rfl rfl rfl rfl (fun _ => rfl) trivial ?_
  refine Xe tG rfl rfl rfl rfl (fun _ => rfl) trivial ?_
  refine Xe tG rfl rfl rfl rfl (fun _ => rfl) trivial ?_
  refine Xe tG rfl rfl rfl rfl (fun _ => rfl) trivial ?_
  refine Xa 12 rfl (congrArg (fun z => PV.val (Value.int .i64 z)) w1) ?_
  first | refine Xi tG rfl rfl rfl rfl (fun _ => rfl) (by first | exact trivial | omega | (simp only [dnL] at *; omega) | (simp_all; done) | (simp_all; omega)) (iN cInt 1 (fun _ => rfl) 0 (by first | exact trivial | omega | (simp only [dnL] at *; omega) | (simp_all; done) | (simp_all; omega))) ?_ | refine Xi tG rfl rfl rfl rfl (fun _ => rfl) (by first | exact trivial | omega | (simp only [dnL] at *; omega) | (simp_all; done) | (simp_all; omega)) (iR cInt 1 (fun _ => rfl) 0 (by first | exact trivial | omega | (simp only [dnL] at *; omega) | (simp_all; done) | (simp_all; omega))) ?_
  refine Xf tG rfl rfl rfl rfl (fun _ => rfl) trivial ?_
  refine Xe tG rfl rfl rfl rfl (fun _ => rfl) trivial ?_
  refine Xe tG rfl rfl rfl rfl (fun _ => rfl) trivial ?_
  refine Xe tG rfl rfl rfl rfl (fun _ => rfl) trivial ?_
  refine Xe tG rfl rfl rfl rfl (fun _ => rfl) trivial ?_
  refine Xa 18 rfl (congrArg (fun z => PV.val (Value.int .i64 z)) w1) ?_
  refine Xe tG rfl rfl rfl rfl (fun _ => rfl) (by first | exact trivial | omega | (simp only [dnL] at *; omega) | (simp_all; done) | (simp_all; omega)) ?_
  refine Xa 19 rfl (sq_slice cInt 1 (fun _ => rfl) (by first | exact trivial | omega | (simp only [dnL] at *; omega) | (simp_all; done) | (simp_all; omega))) ?_
  refine Xa 19 rfl ((show _ = sq cInt (s.take (s.length - 1)) by rw [Int.toNat_natCast, List.drop_zero]; rfl)) ?_
  refine Xe tG rfl rfl rfl rfl (fun _ => rfl) trivial ?_
  refine Xe tG rfl rfl rfl rfl (fun _ => rfl) trivial ?_
  refine Xe tG rfl rfl rfl rfl (fun _ => rfl) trivial ?_
  refine WU_nil ?_
  refine Wq ?_
  refine lP rfl ?_
  rw [stkPop, if_neg h0]; rfl
end Go.Proofs.YtphgdofmjpdhaaaGreat
namespace Go.Proofs.YtphgdofmjpdhaaaGreat
open Go.RowKit
set_option linter.unusedVariables false
set_option maxRecDepth 100000
set_option maxHeartbeats 4000000
abbrev W64 (n : Int) : Int := IntKind.i64.wrap n
def xat (x : List Int) (i : Nat) : Int := x.getD i 0
def pDivMod (x : List Int) : List Int × Int := ([(divS (xat x 0) (xat x 1)).2.1, (divS (xat x 0) (xat x 1)).1], (divS (xat x 0) (xat x 1)).2.2)
def pBoth (x : List Int) : Int × Int × Int := fdivS (mulS (xat x 0) (xat x 1)).1 (mulS (xat x 0) (xat x 1)).2 (xat x 2)
def pStarMod (x : List Int) : List Int × Int := ([(pBoth x).2.1, (pBoth x).1], (pBoth x).2.2)
def pStar (x : List Int) : List Int × Int := ([(pBoth x).1], (pBoth x).2.2)
def pUM (x : List Int) : List Int × Int := ([(umulS (xat x 0) (xat x 1)).1, (umulS (xat x 0) (xat x 1)).2], 0)
def pM (x : List Int) : List Int × Int := ([(mulS (xat x 0) (xat x 1)).1, (mulS (xat x 0) (xat x 1)).2], 0)
def pUMod (x : List Int) : List Int × Int := ([(udivS (xat x 0) (xat x 1) (xat x 2)).2.1, (udivS (xat x 0) (xat x 1) (xat x 2)).1], (udivS (xat x 0) (xat x 1) (xat x 2)).2.2)
def pSRem (x : List Int) : List Int × Int := ([(sdivS (xat x 0) (xat x 1) (xat x 2)).2.1, (sdivS (xat x 0) (xat x 1) (xat x 2)).1], (sdivS (xat x 0) (xat x 1) (xat x 2)).2.2)
def pFMod (x : List Int) : List Int × Int := ([(fdivS (xat x 0) (xat x 1) (xat x 2)).2.1, (fdivS (xat x 0) (xat x 1) (xat x 2)).1], (fdivS (xat x 0) (xat x 1) (xat x 2)).2.2)
def pSD (x : List Int) : List Int × Int := ([xat x 0, flagS (decide (xat x 0 < 0))], 0)
def pWithin (x : List Int) : List Int × Int := ([flagS (decide (U (wrap64 (xat x 0 - xat x 1)) < U (wrap64 (xat x 2 - xat x 1))))], 0)
def reckonS (name : Str) (x : List Int) : Option (List Int × Int) :=
 if name = [47, 77, 79, 68] then some (pDivMod x) else
 if name = [42, 47] then some (pStar x) else
 if name = [42, 47, 77, 79, 68] then some (pStarMod x) else
 if name = [85, 77, 42] then some (pUM x) else
 if name = [77, 42] then some (pM x) else
 if name = [85, 77, 47, 77, 79, 68] then some (pUMod x) else
 if name = [83, 77, 47, 82, 69, 77] then some (pSRem x) else
 if name = [70, 77, 47, 77, 79, 68] then some (pFMod x) else
 if name = [83, 62, 68] then some (pSD x) else
 if name = [87, 73, 84, 72, 73, 78] then some (pWithin x) else
 if name = [84, 82, 85, 69] then some ([-1], 0) else
 if name = [66, 65, 83, 69] then some ([0], 0) else
 if name = [70, 65, 76, 83, 69] then some ([0], 0) else
 if name = [83, 84, 65, 84, 69] then some ([8], 0) else
 if name = [66, 76] then some ([32], 0) else none
def withM (v : VVm) (m : VMem) : VVm := { v with mem := m }
def pFetch (v : VVm) (x : List Int) : VVm × List Int × Int := (v, [(memFetch v.mem (xat x 0)).1], (memFetch v.mem (xat x 0)).2)
def pFetchB (v : VVm) (x : List Int) : VVm × List Int × Int := (v, [(memFetchByte v.mem (xat x 0)).1], (memFetchByte v.mem (xat x 0)).2)
def pPut (v : VVm) (r : VMem × Int) : VVm × List Int × Int := (withM v r.1, [], r.2)
def pAddTo (v : VVm) (x : List Int) : VMem × Int := if (memFetch v.mem (xat x 1)).2 = 0 then memStore v.mem (xat x 1) (W64 ((memFetch v.mem (xat x 1)).1 + xat x 0)) else (v.mem, (memFetch v.mem (xat x 1)).2)
def pFetch2 (v : VVm) (x : List Int) : VVm × List Int × Int :=
 if (memFetch v.mem (xat x 0)).2 = 0 then (v, [(memFetch v.mem (W64 (xat x 0 + 8))).1, (memFetch v.mem (xat x 0)).1], (memFetch v.mem (W64 (xat x 0 + 8))).2) else (v, [], (memFetch v.mem (xat x 0)).2)
def pStore2 (v : VVm) (x : List Int) : VMem × Int := if (memStore v.mem (xat x 2) (xat x 1)).2 = 0 then memStore (memStore v.mem (xat x 2) (xat x 1)).1 (W64 (xat x 2 + 8)) (xat x 0) else memStore v.mem (xat x 2) (xat x 1)
def pCount (v : VVm) (x : List Int) : VVm × List Int × Int := (v, [W64 (xat x 0 + 1), (memFetchByte v.mem (xat x 0)).1], (memFetchByte v.mem (xat x 0)).2)
def stated (v : VVm) (s b : Int) : Int := if (memFetch v.mem (W64 (b + 8))).2 = 0 then (if s < 0 ∨ (memFetch v.mem (W64 (b + 8))).1 ≤ s then -24 else 0) else (memFetch v.mem (W64 (b + 8))).2
def pSetState (v : VVm) (x : List Int) : VVm × List Int × Int := if stated v (xat x 0) (xat x 1) = 0 then pPut v (memStore v.mem (xat x 1) (xat x 0)) else (v, [], stated v (xat x 0) (xat x 1))
def pAtState (v : VVm) (x : List Int) : VVm × List Int × Int := if stated v (xat x 1) (xat x 2) = 0 then pPut v (memStore v.mem (W64 (W64 (xat x 2 + 16) + W64 (8 * xat x 1))) (xat x 0)) else (v, [], stated v (xat x 1) (xat x 2))
def memoryS (v : VVm) (name : Str) (x : List Int) : Option (VVm × List Int × Int) :=
 if name = [64] ∨ name = [71, 69, 84, 45, 83, 84, 65, 84, 69] then some (pFetch v x) else
 if name = [67, 64] then some (pFetchB v x) else
 if name = [33] then some (pPut v (memStore v.mem (xat x 1) (xat x 0))) else
 if name = [67, 33] then some (pPut v (memStoreByte v.mem (xat x 1) (xat x 0))) else
 if name = [43, 33] then some (pPut v (pAddTo v x)) else
 if name = [50, 64] then some (pFetch2 v x) else
 if name = [50, 33] then some (pPut v (pStore2 v x)) else
 if name = [70, 73, 76, 76] then some (pPut v (memFill v.mem (xat x 0) (xat x 1) (xat x 2))) else
 if name = [77, 79, 86, 69] then some (pPut v (memMove v.mem (xat x 0) (xat x 1) (xat x 2))) else
 if name = [67, 79, 85, 78, 84] then some (pCount v x) else
 if name = [68, 69, 67, 73, 77, 65, 76] then some (pPut v (memStore v.mem 0 10)) else
 if name = [72, 69, 88] then some (pPut v (memStore v.mem 0 16)) else
 if name = [83, 69, 84, 45, 83, 84, 65, 84, 69] then some (pSetState v x) else
 if name = [65, 84, 45, 83, 84, 65, 84, 69] then some (pAtState v x) else none
def pLay (v : VVm) (r : VMem × Int × Int) : VVm × List Int × Int := ({ v with mem := r.1, here := r.2.1 }, [], r.2.2)
def pAllot (v : VVm) (x : List Int) : VMem × Int × Int := (v.mem, (spcAllot v.mem 1368 v.here (xat x 0)).1, (spcAllot v.mem 1368 v.here (xat x 0)).2)
def spaceS (v : VVm) (name : Str) (x : List Int) : Option (VVm × List Int × Int) :=
 if name = [65, 76, 76, 79, 84] then some (pLay v (pAllot v x)) else
 if name = [44] then some (pLay v (spcComma v.mem v.here (xat x 0))) else
 if name = [67, 44] then some (pLay v (spcLay v.mem v.here [loB (xat x 0)])) else
 if name = [65, 76, 73, 71, 78] then some (pLay v (spcAlign v.mem v.here)) else none
def baseS (v : VVm) : Int := (memFetch v.mem 0).1
def pSpaces (v : VVm) (x : List Int) : Str := List.replicate (min (max (xat x 0) 0) (v.conf.out + 1)).toNat 32
def pDot (r : Str × Int) : Str × Int := (r.1 ++ [32], r.2)
def textS (v : VVm) (name : Str) (x : List Int) : Option (Str × Int) :=
 if name = [69, 77, 73, 84] then some ([loB (xat x 0)], 0) else
 if name = [67, 82] then some ([10], 0) else
 if name = [83, 80, 65, 67, 69] then some ([32], 0) else
 if name = [83, 80, 65, 67, 69, 83] then some (pSpaces v x, 0) else
 if name = [84, 89, 80, 69] then some (memText v.mem (xat x 0) (xat x 1)) else
 if name = [46] then some (pDot (showS (xat x 0) (baseS v))) else
 if name = [85, 46] then some (pDot (ushowS (xat x 0) (baseS v))) else none
def pPrint (v : VVm) (r : Str × Int) : VVm × List Int × Int := if r.2 = 0 then ((vmPrint v r.1).1, [], (vmPrint v r.1).2) else (v, [], r.2)
def withP (v : VVm) (p : VPic) : VVm := { v with pic := p }
def picAllN : Nat → VPic → Int → Int → Int → VPic × Int
 | 0, q, lo, hi, base => (q, (picDigit q lo hi base).2.2.2)
 | n + 1, q, lo, hi, base => if (picDigit q lo hi base).2.2.2 ≠ 0 then (q, (picDigit q lo hi base).2.2.2) else if (picDigit q lo hi base).2.1 = 0 ∧ (picDigit q lo hi base).2.2.1 = 0 then ((picDigit q lo hi base).1, 0) else picAllN n (picDigit q lo hi base).1 (picDigit q lo hi base).2.1 (picDigit q lo hi base).2.2.1 base
def picAllF (q : VPic) (lo hi base : Int) : VPic × Int := picAllN (131 - q.b.length) q lo hi base
def finP (p : VPic) (r : VPic × Int) : VPic × Int := if r.2 = 0 then (r.1, 0) else (p, r.2)
def picAll (p : VPic) (lo hi base : Int) : VPic × Int := finP p (picAllF p lo hi base)
def pDig (v : VVm) (x : List Int) : VVm × List Int × Int := (withP v (picDigit v.pic (xat x 0) (xat x 1) (baseS v)).1, [(picDigit v.pic (xat x 0) (xat x 1) (baseS v)).2.1, (picDigit v.pic (xat x 0) (xat x 1) (baseS v)).2.2.1], (picDigit v.pic (xat x 0) (xat x 1) (baseS v)).2.2.2)
def pAll (v : VVm) (x : List Int) : VVm × List Int × Int := (withP v (picAll v.pic (xat x 0) (xat x 1) (baseS v)).1, [0, 0], (picAll v.pic (xat x 0) (xat x 1) (baseS v)).2)
def pPic (v : VVm) (r : VPic × Int) : VVm × List Int × Int := (withP v r.1, [], r.2)
def pEnd (v : VVm) : VVm × List Int × Int :=
 if (picEnd v.pic).2 = 0 then (withP (withM v (memWrite v.mem (W64 (v.conf.mem - 136)) (picEnd v.pic).1).1) ⟨[], false⟩, [W64 (v.conf.mem - 136), ((picEnd v.pic).1.length : Int)], (memWrite v.mem (W64 (v.conf.mem - 136)) (picEnd v.pic).1).2) else (v, [], (picEnd v.pic).2)
def picsS (v : VVm) (name : Str) (x : List Int) : Option (VVm × List Int × Int) :=
 if name = [60, 35] then some (withP v ⟨[], true⟩, [], 0) else
 if name = [35] then some (pDig v x) else
 if name = [35, 83] then some (pAll v x) else
 if name = [72, 79, 76, 68] then some (pPic v (picHold v.pic (xat x 0))) else
 if name = [83, 73, 71, 78] then some (pPic v (picSign v.pic (xat x 0))) else
 if name = [35, 62] then some (pEnd v) else none
def withR (v : VVm) (q : VReq) : VVm := { v with req := v.req ++ [q] }
def pBounds (v : VVm) (x : List Int) : Prop := xat x 1 < 0 ∨ (v.hand.length : Int) ≤ xat x 1 ∨ xat x 2 < 0 ∨ 3 < xat x 2
instance (v : VVm) (x : List Int) : Decidable (pBounds v x) := by unfold pBounds; infer_instance
def pCancel (v : VVm) (x : List Int) : VVm × List Int × Int := if 16 ≤ (v.req.length : Int) then (v, [], -257) else (withR v ⟨4, 0, 0, 0, 0, xat x 0⟩, [], 0)
def pPost (v : VVm) (x : List Int) : VVm × List Int × Int := if pBounds v x then (v, [], -259) else if 16 ≤ (v.req.length : Int) then (v, [], -257) else (withR v ⟨1, xat x 0, xat x 1, xat x 2, 0, 0⟩, [], 0)
def pTimer (kind : Int) (v : VVm) (x : List Int) : VVm × List Int × Int :=
 if pBounds v x then (v, [], -259) else if xat x 3 < 1 ∨ 4294967295 < xat x 3 then (v, [], -24) else if 16 ≤ (v.req.length : Int) then (v, [], -257) else if v.free = 0 ∨ v.next = 4611686018427387904 then (v, [], -258) else
  ({ withR v ⟨kind, xat x 0, xat x 1, xat x 2, xat x 3, v.next⟩ with free := W64 (v.free - 1), next := W64 (v.next + 1) }, [v.next], 0)
def askS2 (v : VVm) (name : Str) (x : List Int) : Option (VVm × List Int × Int) :=
 if name = [80, 79, 83, 84] then some (pPost v x) else
 if name = [67, 65, 78, 67, 69, 76] then some (pCancel v x) else
 if name = [65, 70, 84, 69, 82] then some (pTimer 2 v x) else
 if name = [69, 86, 69, 82, 89] then some (pTimer 3 v x) else none
def pBody (v : VVm) (x : List Int) : VVm × List Int × Int := if (vmKind v (xat x 0)).2 = 0 ∧ ((vmKind v (xat x 0)).1 < 257 ∨ 260 < (vmKind v (xat x 0)).1) then (v, [], -31) else (v, [W64 (xat x 0 + 16)], (vmKind v (xat x 0)).2)
def restS (v : VVm) (name : Str) (x : List Int) : VVm × List Int × Int :=
 if name = [72, 69, 82, 69] then (v, [v.here], 0) else
 if name = [65, 82, 71] then (v, [v.arg], 0) else
 if name = [83, 69, 76, 70] then (v, [v.self], 0) else
 if name = [78, 79, 87] then (v, [v.now], 0) else
 if name = [62, 66, 79, 68, 89] then pBody v x else (v, [], -1)
def doneS (v : VVm) (n : Int) (name : Str) (x : List Int) : VVm × List Int × Int :=
 if n ≤ 58 then (v, [(twoS name (xat x 0) (xat x 1)).1], (twoS name (xat x 0) (xat x 1)).2.2) else
 if n ≤ 72 then (v, [(oneS name (xat x 0)).1], 0) else
 match reckonS name x with
 | some r => (v, r.1, r.2)
 | none => match memoryS v name x with
  | some r => r
  | none => match spaceS v name x with
   | some r => r
   | none => match textS v name x with
    | some r => pPrint v r
    | none => match picsS v name x with
     | some r => r
     | none => match askS2 v name x with
      | some r => r
      | none => restS v name x
def takesS (n : Int) (name : Str) : Nat :=
 if n ≤ 58 then 2 else if n ≤ 72 then 1 else
 if name = [65, 70, 84, 69, 82] ∨ name = [69, 86, 69, 82, 89] then 4 else
 if name = [42, 47] ∨ name = [42, 47, 77, 79, 68] ∨ name = [85, 77, 47, 77, 79, 68] ∨ name = [83, 77, 47, 82, 69, 77] ∨ name = [70, 77, 47, 77, 79, 68] ∨ name = [87, 73, 84, 72, 73, 78] ∨ name = [50, 33] ∨ name = [70, 73, 76, 76] ∨ name = [77, 79, 86, 69] ∨ name = [80, 79, 83, 84] ∨ name = [65, 84, 45, 83, 84, 65, 84, 69] then 3 else
 if name = [47, 77, 79, 68] ∨ name = [85, 77, 42] ∨ name = [77, 42] ∨ name = [33] ∨ name = [67, 33] ∨ name = [43, 33] ∨ name = [84, 89, 80, 69] ∨ name = [35] ∨ name = [35, 83] ∨ name = [35, 62] ∨ name = [83, 69, 84, 45, 83, 84, 65, 84, 69] then 2 else
 if name = [83, 62, 68] ∨ name = [64] ∨ name = [67, 64] ∨ name = [50, 64] ∨ name = [67, 79, 85, 78, 84] ∨ name = [65, 76, 76, 79, 84] ∨ name = [44] ∨ name = [67, 44] ∨ name = [69, 77, 73, 84] ∨ name = [83, 80, 65, 67, 69, 83] ∨ name = [46] ∨ name = [85, 46] ∨ name = [72, 79, 76, 68] ∨ name = [83, 73, 71, 78] ∨ name = [62, 66, 79, 68, 89] ∨ name = [67, 65, 78, 67, 69, 76] ∨ name = [71, 69, 84, 45, 83, 84, 65, 84, 69] then 1 else 0
def takesK (name : Str) (s : List Int) : Int :=
 if name = [68, 69, 80, 84, 72] then 0 else
 if name = [68, 85, 80] ∨ name = [68, 82, 79, 80] ∨ name = [63, 68, 85, 80] then 1 else
 if name = [83, 87, 65, 80] ∨ name = [79, 86, 69, 82] ∨ name = [78, 73, 80] ∨ name = [84, 85, 67, 75] ∨ name = [50, 68, 85, 80] ∨ name = [50, 68, 82, 79, 80] then 2 else
 if name = [82, 79, 84] ∨ name = [45, 82, 79, 84] then 3 else
 if name = [50, 83, 87, 65, 80] ∨ name = [50, 79, 86, 69, 82] then 4 else
 if name = [80, 73, 67, 75] ∨ name = [82, 79, 76, 76] then (if s.length = 0 ∨ s.getD (s.length - 1) 0 < 0 ∨ (s.length : Int) - 1 ≤ s.getD (s.length - 1) 0 then (s.length : Int) + 1 else s.getD (s.length - 1) 0 + 2) else -1
def leftK (name : Str) (x : List Int) (depth : Nat) : List Int :=
 if name = [68, 85, 80] then [xat x 0, xat x 0] else
 if name = [83, 87, 65, 80] then [xat x 1, xat x 0] else
 if name = [79, 86, 69, 82] then [xat x 0, xat x 1, xat x 0] else
 if name = [78, 73, 80] then [xat x 1] else
 if name = [84, 85, 67, 75] then [xat x 1, xat x 0, xat x 1] else
 if name = [82, 79, 84] then [xat x 1, xat x 2, xat x 0] else
 if name = [45, 82, 79, 84] then [xat x 2, xat x 0, xat x 1] else
 if name = [50, 68, 85, 80] then [xat x 0, xat x 1, xat x 0, xat x 1] else
 if name = [50, 83, 87, 65, 80] then [xat x 2, xat x 3, xat x 0, xat x 1] else
 if name = [50, 79, 86, 69, 82] then [xat x 0, xat x 1, xat x 2, xat x 3, xat x 0, xat x 1] else
 if name = [63, 68, 85, 80] then (if xat x 0 = 0 then x else [xat x 0, xat x 0]) else
 if name = [68, 69, 80, 84, 72] then [(depth : Int)] else
 if name = [80, 73, 67, 75] then x.take (x.length - 1) ++ [xat x 0] else
 if name = [82, 79, 76, 76] then (x.take (x.length - 1)).drop 1 ++ [xat x 0] else []
def shuffleS (name : Str) (s : List Int) (limit : Int) : List Int × Bool × Int :=
 if takesK name s < 0 then (s, false, 0) else
 if (s.length : Int) < takesK name s then (s, true, -4) else
 if limit < ((s.length - (takesK name s).toNat + (leftK name (s.drop (s.length - (takesK name s).toNat)) s.length).length : Nat) : Int) then (s, true, -3) else
 (s.take (s.length - (takesK name s).toNat) ++ leftK name (s.drop (s.length - (takesK name s).toNat)) s.length, true, 0)
def doS (v : VVm) (n : Int) : VVm × Int :=
 if n < 23 ∨ 129 < n then (v, -24) else
 let name := names.getD n.toNat []
 if n ≤ 38 then ({ v with d := (shuffleS name v.d v.conf.data).1 }, (shuffleS name v.d v.conf.data).2.2) else
 let k := takesS n name
 if v.d.length < k then (v, -4) else
 let r := doneS v n name (v.d.drop (v.d.length - k))
 if r.2.2 ≠ 0 then (v, r.2.2) else
 if v.conf.data < ((v.d.length - k + r.2.1.length : Nat) : Int) then (v, -3) else ({ r.1 with d := v.d.take (v.d.length - k) ++ r.2.1 }, 0)
def tLv (r : List Int × Int) : PV := tup2 (sq cInt r.1) (i64 r.2)
@[simp] theorem flat_tLv (r : List Int × Int) : Flat (tLv r) := by simp [tLv]
end Go.Proofs.YtphgdofmjpdhaaaGreat
namespace Go.Proofs.YtphgdofmjpdhaaaGreat
open Go.RowKit
def RowAt (w : World) (size : Nat) (sl : Value) (n : Nat) (xs : List Value) : Prop :=
 xs.length = n * size ∧ ∃ (a : Option Addr) (cap : Nat), sl = .slice a n cap ∧ (a = none → n = 0 ∧ cap = 0) ∧ n ≤ cap ∧ ∀ b, a = some b → ∀ (j : Nat) (u : Value), xs[j]? = some u → w.cell? (b.add j) = some u
def BytesAt (w : World) (sl : Value) (xs : List Int) : Prop := RowAt w 1 sl xs.length (xs.map (Value.int .u8)) ∧ ∀ x ∈ xs, 0 ≤ x ∧ x < 256
theorem rowAt_below {w w' : World} {size n : Nat} {sl : Value} {xs : List Value} (h : RowAt w size sl n xs) (hb : Below w.heap.size w w') : RowAt w' size sl n xs := by
 obtain ⟨hl, a, cap, rfl, hn, hc, hx⟩ := h
 refine ⟨hl, a, cap, rfl, hn, hc, fun b hb' j u hj => ?_⟩
 have h1 := hx b hb' j u hj
 rw [hb.cell (World.block_lt_of_cell? w (b.add j) h1)]
 exact h1
theorem bytesAt_below {w w' : World} {sl : Value} {xs : List Int} (h : BytesAt w sl xs) (hb : Below w.heap.size w w') : BytesAt w' sl xs := ⟨rowAt_below h.1 hb, h.2⟩
end Go.Proofs.YtphgdofmjpdhaaaGreat
namespace Go.Proofs.YtphgdofmjpdhaaaGreat
open Go.RowKit
set_option linter.unusedVariables false
set_option maxRecDepth 100000
abbrev PicL := List Int × Bool
def PicAt (w : World) (v : Value) (p : PicL) : Prop := ∃ sl, v = .agg #[sl, .bool p.2] ∧ BytesAt w sl p.1
theorem clone_at (w : World) (sl : Value) (xs : List Int) (h : BytesAt w sl xs) (hl : xs.length ≤ 140737488355328) :
  Calls Tryz.prog 240 #[sl] w fun e w' => ∃ v', e = .returned v' ∧ w'.ownsRow w.heap.size 5 1 v' xs.length (xs.map (Value.int .u8)) ∧ Below w.heap.size w w' := by
 obtain ⟨⟨hlen, a, cap, rfl, hn, hc, hx⟩, _⟩ := h
 match a with
 | none =>
  obtain ⟨h0, rfl⟩ := hn rfl
  refine (AnyE.slices_Clone_nil Tryz.lClone xs.length 0 w).mono ?_
  rintro e w' ⟨rfl, rfl⟩
  have hx0 : xs = [] := List.eq_nil_of_length_eq_zero h0
  subst hx0
  exact ⟨_, rfl, ⟨rfl, .inl ⟨rfl, rfl⟩⟩, Below.refl _ _⟩
 | some ad =>
  obtain ⟨i0, hi, hz0, hz1, hz2⟩ := info_parts info8
  have q22 : ∀ (w : World) (a : Option Addr) (n c n' c' : Nat), (binOp .eql 24 (.slice a n c) (.slice none n' c')).run Tryz.prog w = .ok (.bool a.isNone) w := fun w a n c n' c' => Lib.run_eql_slice_nil w _ _ a n c n' c' Tryz.underlying24
  have HX := Lib.hid (hx ad rfl)
  have HL := Lib.hid hlen
  clear hx hlen
  go_enter Tryz.func240, Tryz.ntmps240
  go_wp2_with (at_builtin; refine wpList_append_own _ rfl _ _ 24 rfl w.heap.size 5 i0 (.int .u8 0) 1 1 Tryz.underlying24 hi hz0 hz1 hz2 rfl (by decide) _ _ _ rfl (World.ownsRow_made w #[] 0 (Nat.le_refl _) (Nat.zero_le _) (by simp)) ad xs.length cap (xs.map (Value.int .u8)) rfl ?qc1 ?qc2 ?qc3 ?qc4 ?qc5 ?qc6 ?_)
  case qc1 => exact HL.out
  case qc2 => intro j u hj; exact Lib.cell?_alloc_some _ (HX.out j u hj)
  case qc3 => simp [Value.oneCell']
  case qc4 => unfold maxLen; omega
  case qc5 => omega
  case qc6 => simp
  intro v' w1 hown hgrow _
  go_wp2
  go_ret
  refine ⟨v', rfl, by simpa using hown, ?_⟩
  exact ((Below.refl _ w).alloc (Nat.le_refl _) _).grown hgrow (by simp) (by intro k hk; simp [Value.ownBlock] at hk; omega)
def endS (p : PicL) : List UInt8 × Int := if p.2 then ((p.1.map (fun n => UInt8.ofNat n.toNat)).reverse, 0) else ([], -17)
theorem end_text (xs : List Int) : strOfNums xs.reverse = ⟨((xs.map (fun n => UInt8.ofNat n.toNat)).reverse).toArray⟩ := by unfold strOfNums; rw [List.map_reverse]
theorem w_End (v : Value) (p : PicL) (w : World) (h : PicAt w v p) (hl : p.1.length ≤ 140737488355328) : Calls Tryz.prog 161 #[v] w fun e w' => e = .returned (.tuple #[.string ⟨(endS p).1.toArray⟩, .int .i64 (endS p).2]) ∧ Below w.heap.size w w' := by
 obtain ⟨sl, rfl, hs⟩ := h
 obtain ⟨xs, on⟩ := p
 have b0 := fun o => (Below.refl w.heap.size w).alloc (Nat.le_refl _) o
 cases on with
 | false =>
  go_enter Tryz.func161, Tryz.ntmps161
  go_wp2
  go_ret2
  exact ⟨rfl, b0 _⟩
 | true =>
  have hC := fun o => clone_at (w.alloc o) sl xs (bytesAt_below hs (b0 o)) hl
  have HC := Lib.hid hC
  have HL := Lib.hid hl
  clear hC hs hl
  go_enter Tryz.func161, Tryz.ntmps161
  go_wp2_with fail
  refine (HC.out _).mono ?_
  rintro e w1 ⟨v', rfl, hown, hb1⟩
  have c1 := (b0 _).trans (hb1.mono (b0 _).size)
  have hown1 := own_base hown (b0 _).size
  have HR := Lib.hid (rev_own w1 _ v' _ xs hown1 (Nat.le_trans HL.out (by omega)))
  clear hown hown1 hb1 b0
  go_wp2_with fail
  refine HR.out.mono ?_
  rintro e w2 ⟨rfl, hown2, hb2⟩
  have c2 := hb2 w c1
  have hcv := text_own hown2
  rw [end_text] at hcv
  clear hown2 hb2 c1 HR
  go_wp2
  go_ret2
  exact ⟨rfl, c2⟩
set_option maxHeartbeats 4000000
theorem rep_bytes {c : Cx} {l : List UInt8} {v : Value} (h : Rep c (sq cByte l) v) : BytesAt c.w v (l.map fun b => (b.toNat : Int)) := by
 unfold sq at h
 obtain ⟨ad, cap, vs, hv, hle, hnil, hrl, hlies, hk⟩ := rep_seq h
 have hvs : vs = (l.map fun b => (b.toNat : Int)).map (Value.int .u8) := by
  rw [cByte_map] at hrl
  have : ((l.map fun b => (b.toNat : Int)).map byteP) = ((l.map fun b => (b.toNat : Int)).map (Value.int .u8)).map PV.val := by simp only [List.map_map]; rfl
  rw [this] at hrl
  exact repL_vals hrl
 refine ⟨⟨by simp, ad, cap, by rw [hv]; simp, (fun h => by have := hnil h; exact ⟨by simpa using this.1, this.2.1⟩), by simpa using hle, fun b hb j u hj => ?_⟩, fun x hx => ?_⟩
 ·rw [← hvs] at hj
  have hL := (hlies b hb).resolve_right (by rintro ⟨_, h3⟩; rw [h3] at hj; simp at hj)
  rw [lies_addr hL, Addr.add_lit]
  exact (hL.2 j u hj).1
 ·obtain ⟨b, _, rfl⟩ := List.mem_map.1 hx
  have := b.toNat_lt
  omega
theorem pic_End (p : VPic) (hp : p.b.length ≤ 1000000) : PureC Tryz.prog 161 [ePic p] (tShow (picEnd p)) := by
 intro H B σ w vs s hr
 match vs, hr with
 | [], hr => unfold RepL at hr; obtain ⟨u, us, h1, _⟩ := hr; cases h1
 | v :: v2 :: vs, hr => rw [repL_cons] at hr; have := RepL.length hr.2; simp at this
 | [v], hr =>
 rw [repL_cons] at hr
 have h1 := hr.1
 unfold ePic Rep at h1
 obtain ⟨us, rfl, h2⟩ := h1
 match us, h2 with
 | [], h2 => unfold cPic RepL at h2; obtain ⟨u, us, h1, _⟩ := h2; cases h1
 | [a], h2 => have := RepL.length h2; simp [cPic] at this
 | a :: b :: d :: us, h2 => have := RepL.length h2; simp [cPic] at this
 | [a, b], h2 =>
 unfold cPic at h2
 rw [repL_cons, repL_cons] at h2
 have h3 := rep_bytes h2.1
 have h4 := h2.2.1
 unfold boo Rep at h4
 subst h4
 have hw := w_End (.agg #[a, .bool p.on]) (List.map (fun b : UInt8 => (b.toNat : Int)) p.b, p.on) w ⟨a, rfl, h3⟩ (by simp; omega)
 refine Calls.mono hw ?_
 rintro e w' ⟨rfl, hb⟩
 obtain ⟨s', st⟩ := grow_sim s (Grows.of_below hb)
 refine ⟨_, σ, rfl, ?_, s', st⟩
 have e1 : endS (List.map (fun b : UInt8 => (b.toNat : Int)) p.b, p.on) = picEnd p := by
  unfold endS picEnd
  cases p.on with
  | true => simp [List.map_map, Function.comp_def]
  | false => rfl
 rw [e1]
 unfold tShow tup2 Rep
 exact ⟨[_, _], rfl, repL_cons.2 ⟨by unfold str; exact rep_val _ _, repL_cons.2 ⟨by unfold i64; exact rep_val _ _, repL_nil.2 rfl⟩⟩⟩
theorem picHold_len {p : VPic} {c : Int} (h : (picHold p c).2 = 0) : (picHold p c).1.b.length = p.b.length + 1 ∧ p.b.length < 130 := by
 unfold picHold at h ⊢
 split at h
 ·rename_i hc; rw [if_pos hc]; simp [hc.2]
 ·cases h
theorem picDigit_len {q : VPic} {lo hi base : Int} (h : (picDigit q lo hi base).2.2.2 = 0) : (picDigit q lo hi base).1.b.length = q.b.length + 1 ∧ q.b.length < 130 := by
 unfold picDigit at h ⊢
 split at h
 ·cases h
 ·rename_i hb
  rw [if_neg hb]
  split at h
  ·rename_i h0
   rw [if_pos h0]
   exact picHold_len h0
  ·rename_i h0; exact absurd h h0
theorem picAllF_step (q : VPic) (lo hi base : Int) : picAllF q lo hi base = if (picDigit q lo hi base).2.2.2 ≠ 0 then (q, (picDigit q lo hi base).2.2.2) else if (picDigit q lo hi base).2.1 = 0 ∧ (picDigit q lo hi base).2.2.1 = 0 then ((picDigit q lo hi base).1, 0) else picAllF (picDigit q lo hi base).1 (picDigit q lo hi base).2.1 (picDigit q lo hi base).2.2.1 base := by
 by_cases h : (picDigit q lo hi base).2.2.2 = 0
 ·obtain ⟨h1, h2⟩ := picDigit_len h
  unfold picAllF
  rw [h1, show 131 - q.b.length = (131 - (q.b.length + 1)) + 1 by omega]
  rfl
 ·rw [if_pos h]
  unfold picAllF
  cases hn : 131 - q.b.length with
  | zero => rfl
  | succ n => unfold picAllN; rw [if_pos h]
def picZ : List PV := [.seq 0 [] .clip, .val (.bool false)]
@[simp] theorem nl_picZ {n : Nat} : NL1L n picZ := by unfold picZ; exact ⟨flat_clip0, flat_val (.bool false), trivial⟩
theorem pic_step (p q : VPic) (lo hi base : Int) (hq : q.b.length ≤ 1000000) :
  HC Tryz.prog 239 [.ptr 5 0, .ptr 1 0, .ptr 2 0, .ptr 3 0] [.cells (cPic p) 32, .cells [i64 lo] 3, .cells [i64 hi] 3, .cells [i64 base] 3, .cells picZ 32, .cells (cPic q) 32] (i64 (picDigit q lo hi base).2.2.2)
   [.cells (cPic p) 32, .cells [i64 (picDigit q lo hi base).2.1] 3, .cells [i64 (picDigit q lo hi base).2.2.1] 3, .cells [i64 base] 3, .cells picZ 32, .cells (cPic (picDigit q lo hi base).1) 32, .cells (cPic (picDigit q lo hi base).1) 32] := by
 refine hc_of_WR tG (rs := [.tmp 4]) Tryz.func239 rfl rfl rfl (fun B => ?_)
 refine Ws ?_
 refine W_region rfl ?_
 refine We tG rfl rfl rfl trivial ?_
 refine Wn ?_
 refine Ws ?_
 refine W_region rfl ?_
 iterate 4 refine We tG rfl rfl rfl trivial ?_
 refine Wc rfl rfl (dC rfl Tryz.func155 rfl rfl ((pic_Digit q lo hi base hq) _)) ?_
 iterate 10 refine We tG rfl rfl rfl trivial ?_
 refine Wn ?_
 refine Ws ?_
 refine W_region rfl ?_
 iterate 6 refine We tG rfl rfl rfl trivial ?_
 refine Wn ?_
 refine Ws ?_
 refine W_region rfl ?_
 iterate 2 refine We tG rfl rfl rfl trivial ?_
 refine Wn ?_
 refine Wq ?_
 refine leafH rfl ?_ ?_
 ·rfl
 ·rfl
theorem pic_All (p : VPic) (lo hi base : Int) (hp : p.b.length ≤ 1000000) : PureC Tryz.prog 157 [ePic p, i64 lo, i64 hi, i64 base] (tPic (picAll p lo hi base)) := by
 refine pW tG (rs := [.cell 8 32, .tmp 9]) Tryz.func157 rfl rfl rfl (by simp) (by simp) (fun B => ?_)
 refine Ws ?_
 refine W_region rfl ?_
 iterate 6 refine We tG rfl rfl rfl trivial ?_
 refine Wn ?_
 refine Ws ?_
 refine W_region rfl ?_
 iterate 3 refine We tG rfl rfl rfl trivial ?_
 refine Wn ?_
 refine Ws ?_
 refine W_region rfl ?_
 iterate 2 refine We tG rfl rfl rfl trivial ?_
 refine Wn ?_
 refine Wl ?_
 show W _ _ _ _ _ _ _
 refine W_loopS (fun (v : VPic × Int × Int) => [(4, .ptr 0 0), (5, .ptr 1 0), (6, .ptr 2 0), (8, .ptr 4 0), (10, .ptr 5 0), (11, .fn (.func 239) [] [.ptr 5 0, .ptr 1 0, .ptr 2 0, .ptr 3 0])]) (fun (v : VPic × Int × Int) => [.cells (cPic p) 32, .cells [i64 v.2.1] 3, .cells [i64 v.2.2] 3, .cells [i64 base] 3, .cells picZ 32, .cells (cPic v.1) 32]) (fun (v : VPic × Int × Int) => []) (fun (v : VPic × Int × Int) => v.1.b.length ≤ 1000000 ∧ picAll p lo hi base = finP p (picAllF v.1 v.2.1 v.2.2 base)) (fun (v : VPic × Int × Int) => 131 - v.1.b.length) ((p, lo, hi)) (by exact ⟨hp, rfl⟩) [] ?_ ?_
 ·exact ⟨rfl, ⟨(by repeat (first | exact reBase_nil | refine rB (.inl rfl) ?_ | refine rB (.inr rfl) ?_)), (by repeat (first | exact reX_nil | refine rX rfl ?_ | refine rX (by refine congrArg (fun q => some (Ob.free q)) ?_; simp <;> omega) ?_)), (by decide), (by repeat (first | exact moved_nil | refine mC (.inl (Nat.le_of_ble_eq_true rfl)) ?_ | refine mC (.inr rfl) ?_)), (by repeat (first | exact nlo_nil | exact nO nlo_nil | refine nlo_cells (by first | (refine nF ?_; simp; done) | (refine nF (flatL_map' ?_ _); intro x; simp; done) | (simp [NL1L, NL1]; done)) ?_ | refine nO ?_ | refine nlo_dead ?_ | refine nlo_iter ?_ | refine nlo_smap (by first | (refine nF ?_; simp; done) | (refine nF (flatL_map' ?_ _); intro x; simp; done) | (simp [NL1L, NL1]; done)) ?_))⟩, (by repeat (first | exact subL_nil | refine subL_cons (by first | exact imp_of rfl | exact imp_seq _ _ _ | exact imp_of (congrArg i64 (by first | (rw [i64w]; unfold wrap64; omega) | omega | (simp; done)))) ?_)), (by repeat (first | exact nls_nil | refine nls_cons (by first | (refine nl_flat ?_; simp; done) | (show _ < _; first | decide | (simp; done)) | (refine ⟨?_, flatL_map' ?_ _⟩ <;> first | decide | (intro x; simp; done) | (simp; done)) | (refine ⟨?_, ?_⟩ <;> first | decide | (simp; done)) | (simp [NL, NL1L, NL1]; done)) ?_))⟩
 ·intro v hv
  refine Wl ?_
  iterate 2 refine Ws ?_
  refine W_region rfl ?_
  refine We tG rfl rfl rfl trivial ?_
  refine Wc rfl rfl (doesCWv rfl rfl Tryz.func239 rfl rfl (pic_step p v.1 v.2.1 v.2.2 base hv.1)) ?_
  refine We tG rfl rfl rfl trivial ?_
  refine Wn ?_
  refine Ws ?_
  refine W_region rfl ?_
  iterate 2 refine We tG rfl rfl rfl trivial ?_
  refine Wn ?_
  refine Wi rfl (fun hi1 => ?_) (fun hi1 => ?_)
  ·have h0 : (picDigit v.1 v.2.1 v.2.2 base).2.2.2 ≠ 0 := by simpa using hi1
   refine Ws ?_
   refine W_region rfl ?_
   iterate 4 refine We tG rfl rfl rfl trivial ?_
   refine Wn ?_
   refine Wq ?_
   refine lP rfl ?_
   rw [hv.2, picAllF_step, if_pos h0, finP, if_neg h0]; rfl
  ·have h0 : (picDigit v.1 v.2.1 v.2.2 base).2.2.2 = 0 := by simpa using hi1
   have hl := picDigit_len h0
   refine Wj ?_
   refine Ws ?_
   refine W_region rfl ?_
   iterate 3 refine We tG rfl rfl rfl trivial ?_
   refine Wb 23 rfl (fun hg1 => ?_) (fun hg1 => ?_)
   ·have h1 : (picDigit v.1 v.2.1 v.2.2 base).2.1 = 0 := by simpa using hg1
    iterate 3 refine We tG rfl rfl rfl trivial ?_
    refine Wn ?_
    refine Wi rfl (fun hi2 => ?_) (fun hi2 => ?_)
    ·have h2 : (picDigit v.1 v.2.1 v.2.2 base).2.1 = 0 ∧ (picDigit v.1 v.2.1 v.2.2 base).2.2.1 = 0 := by (try simp only [dnL] at *); exact ⟨h1, hi2⟩
     refine Ws ?_
     refine W_region rfl ?_
     iterate 3 refine We tG rfl rfl rfl trivial ?_
     refine Wn ?_
     refine Wq ?_
     refine lP rfl ?_
     rw [hv.2, picAllF_step, if_neg (by rw [h0]; simp), if_pos h2, finP, if_pos rfl]; rfl
    ·have h2 : ¬ ((picDigit v.1 v.2.1 v.2.2 base).2.1 = 0 ∧ (picDigit v.1 v.2.1 v.2.2 base).2.2.1 = 0) := by rintro ⟨q1, q2⟩; (try simp only [dnL] at *); first | exact hi2 q2 | exact h1 q1
     refine Wj ?_
     exact ⟨((picDigit v.1 v.2.1 v.2.2 base).1, (picDigit v.1 v.2.1 v.2.2 base).2.1, (picDigit v.1 v.2.1 v.2.2 base).2.2.1), [], (by exact ⟨by show (picDigit v.1 v.2.1 v.2.2 base).1.b.length ≤ _; omega, by rw [hv.2, picAllF_step, if_neg (by rw [h0]; simp), if_neg (by first | exact h2 | (rintro ⟨q1, q2⟩; exact h1 q1))]⟩), (by show 131 - (picDigit v.1 v.2.1 v.2.2 base).1.b.length < _; omega), ⟨rfl, ⟨(by repeat (first | exact reBase_nil | refine rB (.inl rfl) ?_ | refine rB (.inr rfl) ?_)), (by repeat (first | exact reX_nil | refine rX rfl ?_ | refine rX (by refine congrArg (fun q => some (Ob.free q)) ?_; simp <;> omega) ?_)), (by decide), (by repeat (first | exact moved_nil | refine mC (.inl (Nat.le_of_ble_eq_true rfl)) ?_ | refine mC (.inr rfl) ?_)), (by repeat (first | exact nlo_nil | exact nO nlo_nil | refine nlo_cells (by first | (refine nF ?_; simp; done) | (refine nF (flatL_map' ?_ _); intro x; simp; done) | (simp [NL1L, NL1]; done)) ?_ | refine nO ?_ | refine nlo_dead ?_ | refine nlo_iter ?_ | refine nlo_smap (by first | (refine nF ?_; simp; done) | (refine nF (flatL_map' ?_ _); intro x; simp; done) | (simp [NL1L, NL1]; done)) ?_))⟩, (by repeat (first | exact subL_nil | refine subL_cons (by first | exact imp_of rfl | exact imp_seq _ _ _ | exact imp_of (congrArg i64 (by first | (rw [i64w]; unfold wrap64; omega) | omega | (simp; done)))) ?_)), (by repeat (first | exact nls_nil | refine nls_cons (by first | (refine nl_flat ?_; simp; done) | (show _ < _; first | decide | (simp; done)) | (refine ⟨?_, flatL_map' ?_ _⟩ <;> first | decide | (intro x; simp; done) | (simp; done)) | (refine ⟨?_, ?_⟩ <;> first | decide | (simp; done)) | (simp [NL, NL1L, NL1]; done)) ?_))⟩⟩
   ·have h1 : ¬ (picDigit v.1 v.2.1 v.2.2 base).2.1 = 0 := by simpa using hg1
    iterate 2 refine Wk rfl rfl ?_
    refine We tG rfl rfl rfl trivial ?_
    refine Wn ?_
    refine Wf rfl rfl ?_
    refine Wj ?_
    exact ⟨((picDigit v.1 v.2.1 v.2.2 base).1, (picDigit v.1 v.2.1 v.2.2 base).2.1, (picDigit v.1 v.2.1 v.2.2 base).2.2.1), [], (by exact ⟨by show (picDigit v.1 v.2.1 v.2.2 base).1.b.length ≤ _; omega, by rw [hv.2, picAllF_step, if_neg (by rw [h0]; simp), if_neg (by first | exact h2 | (rintro ⟨q1, q2⟩; exact h1 q1))]⟩), (by show 131 - (picDigit v.1 v.2.1 v.2.2 base).1.b.length < _; omega), ⟨rfl, ⟨(by repeat (first | exact reBase_nil | refine rB (.inl rfl) ?_ | refine rB (.inr rfl) ?_)), (by repeat (first | exact reX_nil | refine rX rfl ?_ | refine rX (by refine congrArg (fun q => some (Ob.free q)) ?_; simp <;> omega) ?_)), (by decide), (by repeat (first | exact moved_nil | refine mC (.inl (Nat.le_of_ble_eq_true rfl)) ?_ | refine mC (.inr rfl) ?_)), (by repeat (first | exact nlo_nil | exact nO nlo_nil | refine nlo_cells (by first | (refine nF ?_; simp; done) | (refine nF (flatL_map' ?_ _); intro x; simp; done) | (simp [NL1L, NL1]; done)) ?_ | refine nO ?_ | refine nlo_dead ?_ | refine nlo_iter ?_ | refine nlo_smap (by first | (refine nF ?_; simp; done) | (refine nF (flatL_map' ?_ _); intro x; simp; done) | (simp [NL1L, NL1]; done)) ?_))⟩, (by repeat (first | exact subL_nil | refine subL_cons (by first | exact imp_of rfl | exact imp_seq _ _ _ | exact imp_of (congrArg i64 (by first | (rw [i64w]; unfold wrap64; omega) | omega | (simp; done)))) ?_)), (by repeat (first | exact nls_nil | refine nls_cons (by first | (refine nl_flat ?_; simp; done) | (show _ < _; first | decide | (simp; done)) | (refine ⟨?_, flatL_map' ?_ _⟩ <;> first | decide | (intro x; simp; done) | (simp; done)) | (refine ⟨?_, ?_⟩ <;> first | decide | (simp; done)) | (simp [NL, NL1L, NL1]; done)) ?_))⟩⟩
end Go.Proofs.YtphgdofmjpdhaaaGreat
