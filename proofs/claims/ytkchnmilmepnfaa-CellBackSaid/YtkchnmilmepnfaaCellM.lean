/- The plain laws of the pairs of layer 1: quotients with signs, and the document's quotient bit by bit. -/
import Derived.Test.YtkchnmilmepnfaaCellL
namespace Go.Proofs.Ytkchnmilmepnfaa
open Go.RowKit (wrap64)

/-! ### Bit by bit -/

/-- What the document's quotient has looked at, k bits before its end. -/
def seen (lo hi k : Nat) : Nat := hi * 2 ^ (64 - k) + lo / 2 ^ k
theorem seen_all (lo hi : Nat) : seen lo hi 0 = hi * 18446744073709551616 + lo := by simp [seen]
theorem seen_none (lo hi : Nat) (h : lo < 18446744073709551616) : seen lo hi 64 = hi := by
  have : lo / 2 ^ 64 = 0 := Nat.div_eq_of_lt h
  simp only [seen, this]; simp
theorem seen_step (lo hi j : Nat) (hj : j < 64) : seen lo hi j = 2 * seen lo hi (j + 1) + lo / 2 ^ j % 2 := by
  unfold seen
  have e1 : 64 - j = (64 - (j + 1)) + 1 := by omega
  have e2 : lo / 2 ^ (j + 1) = lo / 2 ^ j / 2 := by rw [Nat.div_div_eq_div_mul, Nat.pow_succ]
  rw [e1, e2, Nat.pow_succ, ← Nat.mul_assoc]
  have := Nat.div_add_mod (lo / 2 ^ j) 2
  omega
theorem seen_lt (lo hi k d : Nat) (h : hi < d) (hl : lo < 18446744073709551616) (hk : k ≤ 64) : seen lo hi k < d * 2 ^ (64 - k) := by
  unfold seen
  have e : 2 ^ (64 - k) * 2 ^ k = 18446744073709551616 := by rw [← Nat.pow_add, show 64 - k + k = 64 from by omega]
  have h1 : lo / 2 ^ k < 2 ^ (64 - k) := by rw [Nat.div_lt_iff_lt_mul (Nat.two_pow_pos _), e]; exact hl
  have h2 : (hi + 1) * 2 ^ (64 - k) ≤ d * 2 ^ (64 - k) := Nat.mul_le_mul_right _ h
  rw [Nat.add_mul, Nat.one_mul] at h2
  omega
theorem seen_quot (lo hi j d : Nat) (h : hi < d) (hl : lo < 18446744073709551616) (hj : j < 64) : seen lo hi (j + 1) / d ≤ 9223372036854775807 := by
  have h1 := seen_lt lo hi (j + 1) d h hl (by omega)
  have h2 : seen lo hi (j + 1) / d < 2 ^ (64 - (j + 1)) := by rw [Nat.div_lt_iff_lt_mul (by omega), Nat.mul_comm]; exact h1
  have h3 : 2 ^ (64 - (j + 1)) ≤ 2 ^ 63 := Nat.pow_le_pow_right (by omega) (by omega)
  have h4 : (2 : Nat) ^ 63 = 9223372036854775808 := by decide
  omega

theorem bit_more {N d b : Nat} (hd : 0 < d) (h : d ≤ 2 * (N % d) + b) (hb : b < 2) : (2 * N + b) / d = 2 * (N / d) + 1 ∧ (2 * N + b) % d = 2 * (N % d) + b - d := by
  have e := Nat.div_add_mod N d
  have hm := Nat.mod_lt N hd
  have e2 : 2 * N + b = (2 * (N % d) + b - d) + d * (2 * (N / d) + 1) := by
    rw [Nat.mul_add, Nat.mul_one, Nat.mul_left_comm]; omega
  rw [e2]
  constructor
  · rw [Nat.add_mul_div_left _ _ hd, Nat.div_eq_of_lt (by omega), Nat.zero_add]
  · rw [Nat.add_mul_mod_self_left, Nat.mod_eq_of_lt (by omega)]
theorem bit_less {N d b : Nat} (h : 2 * (N % d) + b < d) : (2 * N + b) / d = 2 * (N / d) ∧ (2 * N + b) % d = 2 * (N % d) + b := by
  have e := Nat.div_add_mod N d
  have hd : 0 < d := by omega
  have e2 : 2 * N + b = (2 * (N % d) + b) + d * (2 * (N / d)) := by
    rw [Nat.mul_left_comm]; omega
  rw [e2]
  constructor
  · rw [Nat.add_mul_div_left _ _ hd, Nat.div_eq_of_lt h, Nat.zero_add]
  · rw [Nat.add_mul_mod_self_left, Nat.mod_eq_of_lt h]

/-! ### Pairs with a sign -/

theorem PS_size (lo hi : Int) (h : 0 ≤ hi) : (PS lo hi).natAbs = hi.toNat * 18446744073709551616 + U lo := by unfold PS; omega
theorem PS_neg (lo hi : Int) : PS lo hi < 0 ↔ hi < 0 := by
  have := U_lt lo
  unfold PS; omega
theorem PS_rng (lo hi : Int) (h : -9223372036854775808 ≤ hi ∧ hi ≤ 9223372036854775807) : (PS lo hi).natAbs ≤ 170141183460469231731687303715884105728 := by
  have := U_lt lo
  unfold PS; omega

/-- The size of a pair below 0, as two cells. -/
theorem PS_turn (lo hi : Int) (h : -9223372036854775808 ≤ hi ∧ hi < 0) :
    ((-((U hi : Int) * 18446744073709551616 + U lo)) % 18446744073709551616) = (((PS lo hi).natAbs % 18446744073709551616 : Nat) : Int) ∧
    ((-((U hi : Int) * 18446744073709551616 + U lo)) / 18446744073709551616 % 18446744073709551616) = (((PS lo hi).natAbs / 18446744073709551616 : Nat) : Int) := by
  have h1 := U_lt lo
  have h2 := U_neg hi h.2 h.1
  have h3 : ((PS lo hi).natAbs : Int) = -(hi * 18446744073709551616 + U lo) := by unfold PS; omega
  omega

/-- A quotient of a pair fits, just if its size does. -/
theorem sdivS_of (lo hi d : Int) (hd : d ≠ 0) (q r : Nat) (hq : q = (PS lo hi).natAbs / d.natAbs) (hr : r = (PS lo hi).natAbs % d.natAbs) :
    sdivS lo hi d = (if (decide (hi < 0) != decide (d < 0)) = true then (if q ≤ 9223372036854775808 then (-(q : Int), (if hi < 0 then -(r : Int) else r), 0) else (0, 0, -11))
      else (if q < 9223372036854775808 then ((q : Int), (if hi < 0 then -(r : Int) else r), 0) else (0, 0, -11))) := by
  obtain ⟨h1, h2⟩ := tdiv_sizes (PS lo hi) d hd
  rw [← hq] at h1
  rw [← hr] at h2
  have hn : decide (PS lo hi < 0) = decide (hi < 0) := by simp [PS_neg]
  rw [hn] at h1
  simp only [PS_neg] at h2
  simp only [sdivS, if_neg hd, h1, h2]
  by_cases hb : (decide (hi < 0) != decide (d < 0)) = true
  · simp only [if_pos hb]
    by_cases hf : q ≤ 9223372036854775808
    · rw [if_pos hf, if_pos (by simp [fits]; omega)]
    · rw [if_neg hf, if_neg (by simp [fits]; omega)]
  · simp only [if_neg hb]
    by_cases hf : q < 9223372036854775808
    · rw [if_pos hf, if_pos (by simp [fits]; omega)]
    · rw [if_neg hf, if_neg (by simp [fits]; omega)]

theorem fdivS_of (lo hi d : Int) (hd : d ≠ 0) (q r : Nat) (hq : q = (PS lo hi).natAbs / d.natAbs) (hr : r = (PS lo hi).natAbs % d.natAbs) :
    fdivS lo hi d = (if (decide (hi < 0) != decide (d < 0)) = true then
        (if r = 0 then (if q ≤ 9223372036854775808 then (-(q : Int), 0, 0) else (0, 0, -11))
         else (if q + 1 ≤ 9223372036854775808 then (-((q : Int) + 1), (if d < 0 then -((d.natAbs - r : Nat) : Int) else ((d.natAbs - r : Nat) : Int)), 0) else (0, 0, -11)))
      else (if q < 9223372036854775808 then ((q : Int), (if d < 0 then -(r : Int) else r), 0) else (0, 0, -11))) := by
  obtain ⟨h1, h2⟩ := tdiv_sizes (PS lo hi) d hd
  obtain ⟨h3, h4⟩ := fdiv_tdiv (PS lo hi) d hd
  have hlt : r < d.natAbs := by rw [hr]; exact Nat.mod_lt _ (by omega)
  rw [← hq] at h1
  rw [← hr] at h2
  have hn : decide (PS lo hi < 0) = decide (hi < 0) := by simp [PS_neg]
  rw [hn] at h1 h3 h4
  simp only [PS_neg] at h2
  have hz : (PS lo hi).tmod d ≠ 0 ↔ r ≠ 0 := by rw [h2]; split <;> omega
  simp only [hz] at h3 h4
  simp only [fdivS, if_neg hd]
  by_cases hb : (decide (hi < 0) != decide (d < 0)) = true
  · simp only [if_pos hb]
    rw [if_pos hb] at h1
    by_cases hr0 : r = 0
    · rw [if_neg (by simp [hr0])] at h3 h4
      rw [if_pos hr0]
      have h5 : (PS lo hi).tmod d = 0 := by rw [h2, hr0]; split <;> rfl
      rw [h3, h4, h1, h5]
      by_cases hf : q ≤ 9223372036854775808
      · rw [if_pos hf, if_pos (by simp [fits]; omega)]
      · rw [if_neg hf, if_neg (by simp [fits]; omega)]
    · rw [if_pos ⟨hr0, hb⟩] at h3 h4
      rw [if_neg hr0]
      have h5 : (PS lo hi).tmod d + d = (if d < 0 then -((d.natAbs - r : Nat) : Int) else ((d.natAbs - r : Nat) : Int)) := by
        rw [h2]
        by_cases a : hi < 0 <;> by_cases b : d < 0 <;> simp [a, b] at hb ⊢ <;> omega
      rw [h3, h4, h1, h5]
      by_cases hf : q + 1 ≤ 9223372036854775808
      · rw [if_pos hf, if_pos (by simp [fits]; omega), show -(q : Int) - 1 = -((q : Int) + 1) from by omega]
      · rw [if_neg hf, if_neg (by simp [fits]; omega)]
  · simp only [if_neg hb]
    rw [if_neg hb] at h1
    rw [if_neg (by simp [hb])] at h3 h4
    have h5 : (PS lo hi).tmod d = (if d < 0 then -(r : Int) else r) := by
      rw [h2]
      by_cases a : hi < 0 <;> by_cases b : d < 0 <;> simp [a, b] at hb ⊢
    rw [h3, h4, h1, h5]
    by_cases hf : q < 9223372036854775808
    · rw [if_pos hf, if_pos (by simp [fits]; omega)]
    · rw [if_neg hf, if_neg (by simp [fits]; omega)]

/-- The quotient of a pair that is rounded down, by the one that is rounded to 0. -/
theorem fdiv_cases (lo hi d : Int) (hd2 : -9223372036854775808 ≤ d ∧ d ≤ 9223372036854775807) :
    (∃ e, e < 0 ∧ sdivS lo hi d = (0, 0, e) ∧ fdivS lo hi d = (0, 0, e)) ∨
    (d ≠ 0 ∧ ∃ q r, sdivS lo hi d = (q, r, 0) ∧ (-9223372036854775808 ≤ q ∧ q ≤ 9223372036854775807) ∧ r.natAbs < d.natAbs ∧ (r < 0 → hi < 0) ∧ (0 < r → 0 ≤ hi) ∧ d * q + r = PS lo hi ∧
      (((r = 0 ∨ decide (hi < 0) = decide (d < 0)) ∧ fdivS lo hi d = (q, r, 0)) ∨
       (r ≠ 0 ∧ decide (hi < 0) ≠ decide (d < 0) ∧
        ((q = -9223372036854775808 ∧ fdivS lo hi d = (0, 0, -11)) ∨
         (q ≠ -9223372036854775808 ∧ fdivS lo hi d = (q - 1, r + d, 0) ∧ (-9223372036854775808 ≤ r + d ∧ r + d ≤ 9223372036854775807)))))) := by
  by_cases hd : d = 0
  · exact .inl ⟨-10, by decide, by simp [sdivS, hd], by simp [fdivS, hd]⟩
  obtain ⟨h1, h2⟩ := tdiv_sizes (PS lo hi) d hd
  obtain ⟨h3, h4⟩ := fdiv_tdiv (PS lo hi) d hd
  have hl := tmod_lt (PS lo hi) d hd
  have he := Int.mul_tdiv_add_tmod (PS lo hi) d
  have hn : decide (PS lo hi < 0) = decide (hi < 0) := by simp [PS_neg]
  rw [hn] at h1 h3 h4
  simp only [PS_neg] at h2
  simp only [sdivS, fdivS, if_neg hd, h3, h4]
  generalize (PS lo hi).tdiv d = q at *
  generalize (PS lo hi).tmod d = r at *
  generalize (PS lo hi).natAbs / d.natAbs = Q at *
  generalize (PS lo hi).natAbs % d.natAbs = R at *
  have hs1 : r < 0 → hi < 0 := by
    intro h; by_cases hh : hi < 0
    · exact hh
    · rw [if_neg hh] at h2; omega
  have hs2 : 0 < r → 0 ≤ hi := by
    intro h; by_cases hh : hi < 0
    · rw [if_pos hh] at h2; omega
    · omega
  by_cases hf : fits q = true
  · have hf' : -9223372036854775808 ≤ q ∧ q ≤ 9223372036854775807 := by simpa [fits] using hf
    refine .inr ⟨hd, q, r, by rw [if_pos hf], hf', hl, hs1, hs2, he, ?_⟩
    by_cases hc : r ≠ 0 ∧ (decide (hi < 0) != decide (d < 0)) = true
    · have hne : decide (hi < 0) ≠ decide (d < 0) := by simpa using hc.2
      refine .inr ⟨hc.1, hne, ?_⟩
      rw [if_pos hc, if_pos hc]
      by_cases hm : q = -9223372036854775808
      · exact .inl ⟨hm, by rw [if_neg (by simp [fits]; omega)]⟩
      · refine .inr ⟨hm, by rw [if_pos (by simp [fits]; omega)], ?_⟩
        by_cases a : hi < 0 <;> by_cases b : d < 0 <;> simp [a, b] at hne <;> omega
    · refine .inl ⟨?_, by rw [if_neg hc, if_neg hc, if_pos hf]⟩
      by_cases hr : r = 0
      · exact .inl hr
      · right
        have : ¬ (decide (hi < 0) != decide (d < 0)) = true := fun h => hc ⟨hr, h⟩
        simpa using this
  · have hf' : ¬ (-9223372036854775808 ≤ q ∧ q ≤ 9223372036854775807) := by simpa [fits] using hf
    refine .inl ⟨-11, by decide, by rw [if_neg hf], ?_⟩
    by_cases hc : r ≠ 0 ∧ (decide (hi < 0) != decide (d < 0)) = true
    · rw [if_pos hc, if_pos hc]
      rw [if_pos hc.2] at h1
      rw [if_neg (by simp [fits]; omega)]
    · rw [if_neg hc, if_neg hc, if_neg hf]
end Go.Proofs.Ytkchnmilmepnfaa
