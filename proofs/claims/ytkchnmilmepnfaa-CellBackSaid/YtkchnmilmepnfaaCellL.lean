/- The plain laws of layer 1 that the walks of it end in: numbers alone. -/
import Derived.Test.YtkchnmilmepnfaaSpec
namespace Go.Proofs.Ytkchnmilmepnfaa
open Go.RowKit (wrap64)

theorem wrap64_bmod (n : Int) : wrap64 n = n.bmod 18446744073709551616 := by
  unfold wrap64; rw [Int.bmod_def]; split <;> omega
theorem wrap64_add_l (x y : Int) : wrap64 (wrap64 x + y) = wrap64 (x + y) := by simp [wrap64_bmod]
theorem wrap64_add_r (x y : Int) : wrap64 (x + wrap64 y) = wrap64 (x + y) := by simp [wrap64_bmod]
theorem wrap64_sub_l (x y : Int) : wrap64 (wrap64 x - y) = wrap64 (x - y) := by simp [wrap64_bmod]
theorem wrap64_sub_r (x y : Int) : wrap64 (x - wrap64 y) = wrap64 (x - y) := by simp [wrap64_bmod]
theorem wrap64_mul_l (x y : Int) : wrap64 (wrap64 x * y) = wrap64 (x * y) := by simp [wrap64_bmod]
theorem wrap64_mul_r (x y : Int) : wrap64 (x * wrap64 y) = wrap64 (x * y) := by simp [wrap64_bmod]
theorem wrap64_neg (x : Int) : wrap64 (-wrap64 x) = wrap64 (-x) := by simp [wrap64_bmod]

theorem U_fst (a : Int) : (U a : Int) = a % 18446744073709551616 := by unfold U; omega
theorem U_cases (a : Int) (ha : -9223372036854775808 ≤ a ∧ a ≤ 9223372036854775807) : (U a : Int) = a + (if a < 0 then 18446744073709551616 else 0) := by
  unfold U; split <;> omega

/-- The product without signs, by that with signs. -/
theorem umul_mul (a b : Int) (ha : -9223372036854775808 ≤ a ∧ a ≤ 9223372036854775807) (hb : -9223372036854775808 ≤ b ∧ b ≤ 9223372036854775807) :
    ((U a * U b : Nat) : Int) = a * b + 18446744073709551616 * ((if a < 0 then b else 0) + (if b < 0 then a else 0) + (if a < 0 ∧ b < 0 then 18446744073709551616 else 0)) := by
  rw [Int.natCast_mul, U_cases a ha, U_cases b hb]
  by_cases h1 : a < 0 <;> by_cases h2 : b < 0
  · simp only [h1, h2, if_true, and_self]; rw [Int.add_mul, Int.mul_add, Int.mul_add, Int.mul_comm a 18446744073709551616]; omega
  · simp only [h1, h2, if_true, if_false, and_false, Int.add_zero]; rw [Int.add_mul]
  · simp only [h1, h2, if_true, if_false, false_and]; rw [Int.mul_add, Int.add_zero, Int.mul_comm a 18446744073709551616]; omega
  · simp only [h1, h2, if_false, and_self, Int.add_zero, Int.mul_zero]

theorem prod_rng (a b : Int) (ha : -9223372036854775808 ≤ a ∧ a ≤ 9223372036854775807) (hb : -9223372036854775808 ≤ b ∧ b ≤ 9223372036854775807) :
    -85070591730234615865843651857942052864 ≤ a * b ∧ a * b ≤ 85070591730234615865843651857942052864 := by
  have h : (a * b).natAbs ≤ 9223372036854775808 * 9223372036854775808 := by
    rw [Int.natAbs_mul]; exact Nat.mul_le_mul (by omega) (by omega)
  omega

theorem umul_fst (a b : Int) (ha : -9223372036854775808 ≤ a ∧ a ≤ 9223372036854775807) (hb : -9223372036854775808 ≤ b ∧ b ≤ 9223372036854775807) :
    (umulS a b).1 = (mulS a b).1 := by
  have h := umul_mul a b ha hb
  simp only [umulS, mulS, S]
  generalize U a * U b = p at *
  generalize a * b = q at *
  unfold wrap64
  omega

theorem mul_hi (a b : Int) (ha : -9223372036854775808 ≤ a ∧ a ≤ 9223372036854775807) (hb : -9223372036854775808 ≤ b ∧ b ≤ 9223372036854775807) :
    wrap64 ((umulS a b).2 - ((if a < 0 then b else 0) + (if b < 0 then a else 0))) = (mulS a b).2 := by
  have h := umul_mul a b ha hb
  have h2 := prod_rng a b ha hb
  simp only [umulS, mulS, S]
  generalize (if a < 0 then b else 0) + (if b < 0 then a else 0) = x at *
  have hz : (if a < 0 ∧ b < 0 then (18446744073709551616 : Int) else 0) = 0 ∨ (if a < 0 ∧ b < 0 then (18446744073709551616 : Int) else 0) = 18446744073709551616 := by
    split <;> simp
  generalize (if a < 0 ∧ b < 0 then (18446744073709551616 : Int) else 0) = z at *
  generalize U a * U b = p at *
  generalize a * b = q at *
  have e : ((p / 18446744073709551616 : Nat) : Int) = q / 18446744073709551616 + (x + z) := by
    rw [Int.natCast_ediv, h]
    exact Int.add_mul_ediv_left _ _ (by decide)
  rw [wrap64_sub_l, e, show q / 18446744073709551616 + (x + z) - x = q / 18446744073709551616 + z from by omega]
  have hq : -9223372036854775808 ≤ q / 18446744073709551616 ∧ q / 18446744073709551616 ≤ 9223372036854775807 := by omega
  generalize q / 18446744073709551616 = r at *
  unfold wrap64
  omega

/-! ### Quotients rounded down -/
theorem divS_zero (a b : Int) (hb : b = 0) : divS a b = (0, 0, -10) := by simp [divS, hb]
theorem divS_even {a b : Int} (hb : b ≠ 0) (h : a.tmod b = 0) : divS a b = (wrap64 (a.tdiv b), a.tmod b, 0) := by
  obtain ⟨h1, h2⟩ := fdiv_tdiv a b hb
  rw [if_neg (by simp [h])] at h1 h2
  simp [divS, hb, h1, h2]
theorem tmod_sign (a b : Int) (h : a.tmod b ≠ 0) : decide (a.tmod b < 0) = decide (a < 0) := by
  by_cases hb : b = 0
  · subst hb; simp
  have := (tdiv_sizes a b hb).2
  by_cases ha : a < 0
  · rw [if_pos ha] at this; simp [ha]; omega
  · rw [if_neg ha] at this; simp [ha]; omega
theorem tmod_lt (a b : Int) (hb : b ≠ 0) : (a.tmod b).natAbs < b.natAbs := by
  rw [Int.natAbs_tmod]; exact Nat.mod_lt _ (by omega)
theorem divS_off {a b : Int} (hb : b ≠ 0) (hb2 : -9223372036854775808 ≤ b ∧ b ≤ 9223372036854775807) (h : a.tmod b ≠ 0) (hs : (decide (a.tmod b < 0) == decide (b < 0)) = false) :
    divS a b = (wrap64 (wrap64 (a.tdiv b) - 1), wrap64 (a.tmod b + b), 0) := by
  have ht := tmod_sign a b h
  have hl := tmod_lt a b hb
  obtain ⟨h1, h2⟩ := fdiv_tdiv a b hb
  rw [← ht] at h1 h2
  have hs' : (decide (a.tmod b < 0) != decide (b < 0)) = true := by simp [bne, hs]
  rw [if_pos ⟨h, hs'⟩] at h1 h2
  have hf : wrap64 (a.tmod b + b) = a.tmod b + b := by
    apply wrap64_fit
    simp at hs
    omega
  rw [wrap64_sub_l, hf]
  simp only [divS, if_neg hb, h1, h2]
theorem divS_on {a b : Int} (hb : b ≠ 0) (hs : a.tmod b = 0 ∨ (decide (a.tmod b < 0) == decide (b < 0)) = true) :
    divS a b = (wrap64 (a.tdiv b), a.tmod b, 0) := by
  by_cases h : a.tmod b = 0
  · exact divS_even hb h
  have ht := tmod_sign a b h
  obtain ⟨h1, h2⟩ := fdiv_tdiv a b hb
  rw [← ht] at h1 h2
  have hs' : (decide (a.tmod b < 0) != decide (b < 0)) = false := by
    rcases hs with hs | hs
    · exact absurd hs h
    · simp [bne, hs]
  rw [if_neg (by simp [hs'])] at h1 h2
  simp [divS, hb, h1, h2]
theorem rest_back (a b : Int) (ha : -9223372036854775808 ≤ a ∧ a ≤ 9223372036854775807) : wrap64 (a - wrap64 (wrap64 (a.tdiv b) * b)) = a.tmod b := by
  rw [wrap64_sub_r]
  have e : wrap64 (a - wrap64 (a.tdiv b) * b) = wrap64 (a - a.tdiv b * b) := by
    rw [← wrap64_sub_r, wrap64_mul_l, wrap64_sub_r]
  rw [e]
  have h := Int.mul_tdiv_add_tmod a b
  rw [show a - a.tdiv b * b = a.tmod b from by rw [Int.mul_comm]; omega]
  apply wrap64_fit
  by_cases hb : b = 0
  · subst hb; rw [Int.tmod_zero]; exact ha
  have h3 := (tdiv_sizes a b hb).2
  have h4 := Nat.mod_le a.natAbs b.natAbs
  by_cases hn : a < 0
  · rw [if_pos hn] at h3; omega
  · rw [if_neg hn] at h3; omega
theorem rest_back' (a b : Int) (ha : -9223372036854775808 ≤ a ∧ a ≤ 9223372036854775807) : wrap64 (a - wrap64 (a.tdiv b * b)) = a.tmod b := by
  rw [← rest_back a b ha, wrap64_mul_l]
theorem tdiv_fit {a b : Int} (ha : -9223372036854775808 ≤ a ∧ a ≤ 9223372036854775807) (hb : 0 < b) : wrap64 (a.tdiv b) = a.tdiv b := by
  apply wrap64_fit
  have h3 := (tdiv_sizes a b (by omega)).1
  have h4 := Nat.div_le_self a.natAbs b.natAbs
  have hd : decide (b < 0) = false := by simp; omega
  rw [hd] at h3
  generalize a.natAbs / b.natAbs = q at *
  by_cases hn : a < 0
  · rw [if_pos (by simp [hn])] at h3; omega
  · rw [if_neg (by simp [hn])] at h3; omega
/-- The school's product of two numbers, by halves. -/
theorem umul_parts (a b : Nat) (ha : a < 18446744073709551616) (hb : b < 18446744073709551616) :
    (0 ≤ (a : Int) % 4294967296 * ((b : Int) % 4294967296) ∧ (a : Int) % 4294967296 * ((b : Int) % 4294967296) ≤ 18446744065119617025) ∧
    (0 ≤ (a : Int) / 4294967296 * ((b : Int) % 4294967296) ∧ (a : Int) / 4294967296 * ((b : Int) % 4294967296) ≤ 18446744065119617025) ∧
    (0 ≤ (a : Int) % 4294967296 * ((b : Int) / 4294967296) ∧ (a : Int) % 4294967296 * ((b : Int) / 4294967296) ≤ 18446744065119617025) ∧
    (0 ≤ (a : Int) / 4294967296 * ((b : Int) / 4294967296) ∧ (a : Int) / 4294967296 * ((b : Int) / 4294967296) ≤ 18446744065119617025) ∧
    ((a * b : Nat) : Int) = (a : Int) / 4294967296 * ((b : Int) / 4294967296) * 18446744073709551616 + ((a : Int) / 4294967296 * ((b : Int) % 4294967296) + (a : Int) % 4294967296 * ((b : Int) / 4294967296)) * 4294967296 + (a : Int) % 4294967296 * ((b : Int) % 4294967296) := by
  have key : ∀ x y : Int, 0 ≤ x → x ≤ 4294967295 → 0 ≤ y → y ≤ 4294967295 → 0 ≤ x * y ∧ x * y ≤ 18446744065119617025 := by
    intro x y h1 h2 h3 h4
    exact ⟨Int.mul_nonneg h1 h3, Int.le_trans (Int.mul_le_mul h2 h4 h3 (by decide)) (by decide)⟩
  refine ⟨key _ _ (by omega) (by omega) (by omega) (by omega), key _ _ (by omega) (by omega) (by omega) (by omega), key _ _ (by omega) (by omega) (by omega) (by omega), key _ _ (by omega) (by omega) (by omega) (by omega), ?_⟩
  have e1 : (a : Int) = 4294967296 * ((a : Int) / 4294967296) + (a : Int) % 4294967296 := by omega
  have e2 : (b : Int) = 4294967296 * ((b : Int) / 4294967296) + (b : Int) % 4294967296 := by omega
  generalize (a : Int) / 4294967296 = a1 at *
  generalize (a : Int) % 4294967296 = a0 at *
  generalize (b : Int) / 4294967296 = b1 at *
  generalize (b : Int) % 4294967296 = b0 at *
  rw [Int.natCast_mul, e1, e2, Int.add_mul, Int.mul_add, Int.mul_add]
  have f1 : 4294967296 * a1 * (4294967296 * b1) = 18446744073709551616 * (a1 * b1) := by
    rw [Int.mul_assoc, Int.mul_left_comm a1, ← Int.mul_assoc]; rfl
  have f2 : 4294967296 * a1 * b0 = 4294967296 * (a1 * b0) := Int.mul_assoc _ _ _
  have f3 : a0 * (4294967296 * b1) = 4294967296 * (a0 * b1) := Int.mul_left_comm _ _ _
  rw [f1, f2, f3]
  omega
end Go.Proofs.Ytkchnmilmepnfaa
