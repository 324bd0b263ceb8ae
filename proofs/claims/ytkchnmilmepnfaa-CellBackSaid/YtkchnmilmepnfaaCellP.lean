/- The plain laws behind the statements of layer 1: what quotients and products have to do with one another. No program in sight. -/
import Derived.Test.YtkchnmilmepnfaaCellM
namespace Go.Proofs.Ytkchnmilmepnfaa
open Go.RowKit (wrap64)

theorem mulS_comm (a b : Int) : mulS b a = mulS a b := by simp only [mulS, Int.mul_comm b a]
theorem umulS_comm (a b : Int) : umulS b a = umulS a b := by simp only [umulS, Nat.mul_comm (U b)]
theorem mulS_one (a : Int) (ha : -9223372036854775808 ≤ a ∧ a ≤ 9223372036854775807) : mulS a 1 = (a, if a < 0 then -1 else 0) := by
  simp only [mulS, Int.mul_one, wrap64_fit a ha]
  congr 1
  split <;> omega
theorem umulS_pos (a b : Int) (ha : 0 ≤ a ∧ a ≤ 9223372036854775807) (hb : 0 ≤ b ∧ b ≤ 9223372036854775807) : umulS a b = mulS a b := by
  have h1 := umul_fst a b (by omega) (by omega)
  have h2 := mul_hi a b (by omega) (by omega)
  rw [if_neg (by omega), if_neg (by omega), Int.add_zero, Int.sub_zero] at h2
  have h3 : wrap64 (umulS a b).2 = (umulS a b).2 := wrap64_fit _ (S_rng _)
  rw [h3] at h2
  exact Prod.ext h1 h2

theorem divS_parts (a b : Int) (ha : -9223372036854775808 ≤ a ∧ a ≤ 9223372036854775807) (hb : b ≠ 0) :
    ∃ q r, divS a b = (q, r, 0) ∧ wrap64 (wrap64 (q * b) + r) = a ∧ ((0 < b ∧ 0 ≤ r ∧ r < b) ∨ (b < 0 ∧ b < r ∧ r ≤ 0)) := by
  refine ⟨wrap64 (a.fdiv b), a.fmod b, by simp [divS, hb], ?_, ?_⟩
  · rw [wrap64_add_l]
    have e : wrap64 (wrap64 (a.fdiv b) * b + a.fmod b) = wrap64 (a.fdiv b * b + a.fmod b) := by
      rw [← wrap64_add_l, wrap64_mul_l, wrap64_add_l]
    rw [e, Int.mul_comm, Int.mul_fdiv_add_fmod]
    exact wrap64_fit a ha
  · have h1 := Int.mul_fdiv_add_fmod a b
    by_cases hp : 0 < b
    · exact .inl ⟨hp, Int.fmod_nonneg_of_pos a hp, Int.fmod_lt_of_pos a hp⟩
    · have h2 := Int.fmod_nonneg_of_pos (-a) (b := -b) (by omega)
      have h3 := Int.fmod_lt_of_pos (-a) (b := -b) (by omega)
      rw [Int.neg_fmod_neg] at h2 h3
      exact .inr ⟨by omega, by omega, by omega⟩

/-- The pair of a product is the product. -/
theorem PS_mul (a b : Int) : PS (mulS a b).1 (mulS a b).2 = a * b := by
  simp only [mulS, PS]
  generalize a * b = p
  unfold U wrap64
  omega
theorem sdiv_mul (a b : Int) (ha : -9223372036854775808 ≤ a ∧ a ≤ 9223372036854775807) (hb : b ≠ 0) : sdivS (mulS a b).1 (mulS a b).2 b = (a, 0, 0) := by
  have hf : fits a = true := by simp [fits]; omega
  simp only [sdivS, if_neg hb, PS_mul, Int.mul_tdiv_cancel _ hb, Int.mul_tmod_left, hf, if_true]
theorem fdiv_mul (a b : Int) (ha : -9223372036854775808 ≤ a ∧ a ≤ 9223372036854775807) (hb : b ≠ 0) : fdivS (mulS a b).1 (mulS a b).2 b = (a, 0, 0) := by
  have hf : fits a = true := by simp [fits]; omega
  simp only [fdivS, if_neg hb, PS_mul, Int.mul_fdiv_cancel _ hb, Int.mul_fmod_left, hf, if_true]
theorem mulS_zero (a : Int) : mulS a 0 = (0, 0) := by simp only [mulS, Int.mul_zero]; decide +kernel
theorem umulS_zero (a : Int) : umulS a 0 = (0, 0) := by
  have : U 0 = 0 := rfl
  simp only [umulS, this, Nat.mul_zero]; decide +kernel

theorem mulS_fit (a b : Int) (ha : -9223372036854775808 ≤ a ∧ a ≤ 9223372036854775807) (hb : -9223372036854775808 ≤ b ∧ b ≤ 9223372036854775807) :
    (-9223372036854775808 ≤ (mulS a b).1 ∧ (mulS a b).1 ≤ 9223372036854775807) ∧ (-9223372036854775808 ≤ (mulS a b).2 ∧ (mulS a b).2 ≤ 9223372036854775807) := by
  have := prod_rng a b ha hb
  refine ⟨wrap64_rng _, ?_⟩
  simp only [mulS]
  omega

theorem U_ne {b : Int} (hb : -9223372036854775808 ≤ b ∧ b ≤ 9223372036854775807) (h : b ≠ 0) : 0 < U b := by unfold U; omega

theorem U_wrap64 (x : Int) : U (wrap64 x) = U x := by unfold U wrap64; omega
theorem U_add (x r : Int) : U (x + r) = (U x + U r) % 18446744073709551616 := by unfold U; omega

theorem carry_yes {P R X Y L Z : Nat} (hP : P / 18446744073709551616 < 18446744073709551615) (hX : X = P % 18446744073709551616) (hY : Y = P / 18446744073709551616) (hR : R < 18446744073709551616)
    (hL : L = (X + R) % 18446744073709551616) (hZ : Z = (Y + 1) % 18446744073709551616) (hc : L < X) : Z * 18446744073709551616 + L = P + R := by omega
theorem carry_no {P R X Y L : Nat} (hX : X = P % 18446744073709551616) (hY : Y = P / 18446744073709551616) (hR : R < 18446744073709551616)
    (hL : L = (X + R) % 18446744073709551616) (hc : ¬ L < X) : Y * 18446744073709551616 + L = P + R := by omega

/-- The product without signs, a rest added, is divided by its factor. -/
theorem udiv_back (a b r x y l : Int) (ha : -9223372036854775808 ≤ a ∧ a ≤ 9223372036854775807) (hb : -9223372036854775808 ≤ b ∧ b ≤ 9223372036854775807) (hr : -9223372036854775808 ≤ r ∧ r ≤ 9223372036854775807) (h0 : b ≠ 0)
    (hp : umulS a b = (x, y)) (hl : wrap64 (x + r) = l) (hlt : U r < U b) :
    (U l < U x → udivS l (wrap64 (y + 1)) b = (a, r, 0)) ∧ (¬ U l < U x → udivS l y b = (a, r, 0)) := by
  have hb0 := U_ne hb h0
  have hU1 := U_lt a
  have hU2 := U_lt b
  have hU3 := U_lt r
  have hx : x = S (U a * U b % 18446744073709551616) := by have := congrArg Prod.fst hp; exact this.symm
  have hy : y = S (U a * U b / 18446744073709551616) := by have := congrArg Prod.snd hp; exact this.symm
  have hP : U a * U b ≤ 18446744073709551615 * U b := Nat.mul_le_mul_right _ (by omega)
  have hq : (U a * U b + U r) / U b = U a := by
    rw [Nat.mul_comm, Nat.mul_add_div hb0, Nat.div_eq_of_lt hlt, Nat.add_zero]
  have hm : (U a * U b + U r) % U b = U r := by
    rw [Nat.mul_comm, Nat.mul_add_mod, Nat.mod_eq_of_lt hlt]
  have hUl : U l = (U x + U r) % 18446744073709551616 := by rw [← hl, U_wrap64, U_add]
  have hUz : U (wrap64 (y + 1)) = (U y + 1) % 18446744073709551616 := by rw [U_wrap64, U_add]; rfl
  generalize U a * U b = P at *
  have hPl : P / 18446744073709551616 < 18446744073709551615 := by omega
  have hUx : U x = P % 18446744073709551616 := by rw [hx]; exact U_S _ (by omega)
  have hUy : U y = P / 18446744073709551616 := by rw [hy]; exact U_S _ (by omega)
  have fin : ∀ z : Int, U z * 18446744073709551616 + U l = P + U r → udivS l z b = (a, r, 0) := by
    intro z hz
    have hPU : PU l z = P + U r := hz
    have hzb : ¬ U b ≤ U z := by
      clear hq hm hUl hUz hUx hUy hx hy hPl
      omega
    simp only [udivS, if_neg h0, if_neg hzb, hPU, hq, hm, S_U a ha, S_U r hr]
  exact ⟨fun hc => fin _ (carry_yes hPl hUx hUy hU3 hUl hUz hc), fun hc => fin _ (carry_no hUx hUy hU3 hUl hc)⟩

theorem sdiv_ne (lo hi d e : Int) (hd : d ≠ 0) (he : e < 0) (h : sdivS lo hi d = (0, 0, e)) : e = -11 := by
  simp only [sdivS, if_neg hd] at h
  split at h
  · have := congrArg (fun x => x.2.2) h; simp at this; omega
  · have := congrArg (fun x => x.2.2) h; simp at this; omega

theorem PS_one (n : Int) (hn : -9223372036854775808 ≤ n ∧ n ≤ 9223372036854775807) : PS n (if n < 0 then -1 else 0) = n := by
  unfold PS U; split <;> omega
theorem sdiv_one (n : Int) (hn : -9223372036854775808 ≤ n ∧ n ≤ 9223372036854775807) : sdivS n (if n < 0 then -1 else 0) 1 = (n, 0, 0) := by
  have hf : fits n = true := by simp [fits]; omega
  simp only [sdivS, PS_one n hn, Int.tdiv_one, hf, if_true, Int.tmod_one, if_neg (show ¬ (1 : Int) = 0 by decide)]
theorem sdiv_neg (n : Int) (hn : -9223372036854775808 ≤ n ∧ n ≤ 9223372036854775807) :
    sdivS n (if n < 0 then -1 else 0) (-1) = if n = -9223372036854775808 then (0, 0, -11) else (-n, 0, 0) := by
  simp only [sdivS, PS_one n hn, if_neg (show ¬ (-1 : Int) = 0 by decide), Int.tdiv_neg, Int.tdiv_one, Int.tmod_neg, Int.tmod_one]
  by_cases h : n = -9223372036854775808
  · rw [if_pos h, if_neg (by simp [fits]; omega)]
  · rw [if_neg h, if_pos (by simp [fits]; omega)]
theorem fdiv_one (n d : Int) (hn : -9223372036854775808 ≤ n ∧ n ≤ 9223372036854775807) (hd : d ≠ 0) (h : ¬ (n = -9223372036854775808 ∧ d = -1)) :
    fdivS n (if n < 0 then -1 else 0) d = divS n d := by
  have hf : -9223372036854775808 ≤ n.fdiv d ∧ n.fdiv d ≤ 9223372036854775807 := by
    obtain ⟨h1, h2⟩ := tdiv_sizes n d hd
    obtain ⟨h3, _⟩ := fdiv_tdiv n d hd
    have hz : n.tmod d ≠ 0 → 2 ≤ d.natAbs := by
      intro hne
      rcases Nat.lt_or_ge d.natAbs 2 with h5 | h5
      · exfalso
        apply hne
        have : d = 1 ∨ d = -1 := by omega
        rcases this with rfl | rfl <;> simp
      · exact h5
    have h6 : 2 ≤ d.natAbs → n.natAbs / d.natAbs ≤ 4611686018427387904 := by
      intro h5
      have := Nat.div_le_div_left (a := n.natAbs) h5 (by decide)
      omega
    have h7 : n.natAbs / d.natAbs ≤ n.natAbs := Nat.div_le_self _ _
    have h8 : d = -1 → n.natAbs / d.natAbs = n.natAbs := by intro e; rw [e]; simp
    have h9 : d.natAbs < 2 → d = 1 ∨ d = -1 := by omega
    have h10 : d = 1 → n.natAbs / d.natAbs = n.natAbs := by intro e; rw [e]; simp
    generalize n.natAbs / d.natAbs = Q at *
    by_cases hn0 : n < 0 <;> by_cases hd0 : d < 0 <;> simp [hn0, hd0] at h1 h3 <;> (try split at h3) <;> omega
  simp only [fdivS, divS, PS_one n hn, if_neg hd, wrap64_fit _ hf, if_pos (show fits (n.fdiv d) = true by simp [fits]; omega)]
theorem fdiv_least : fdivS (-9223372036854775808) (-1) (-1) = (0, 0, -11) := by decide +kernel
theorem div_least : divS (-9223372036854775808) (-1) = (-9223372036854775808, 0, 0) := by decide +kernel
end Go.Proofs.Ytkchnmilmepnfaa
