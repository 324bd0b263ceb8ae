/- The plain law of math/bits.Div64: shifting, and its two digits. No program in sight. -/
import Derived.Test.YtkchnmilmepnfaaSpec
import Derived.Lib.ItoaNum
import Derived.Laws.BitsAllLaws
namespace Go.Proofs.Ytkchnmilmepnfaa

/-- What is shifted: the pair, and the divisor, by as many places; all in halves. -/
theorem div64_prep (hi lo y s : Nat) (h0 : hi < y) (s1 : s ≤ 63) (s2 : 9223372036854775808 ≤ y * 2 ^ s) (s3 : y * 2 ^ s < 18446744073709551616) (hl : lo < 18446744073709551616) :
    ∃ Y y1 y0 un ul u1 u0 : Nat,
      ((y : Int) * 2 ^ s = (Y : Int)) ∧ ((Y : Int) / 4294967296 = (y1 : Int)) ∧ (bits .and .u64 (Y : Int) 4294967295 = (y0 : Int)) ∧
      (bits .or .u64 (IntKind.u64.wrap ((hi : Int) * 2 ^ s)) ((lo : Int) / 2 ^ (64 - s)) = (un : Int)) ∧ (IntKind.u64.wrap ((lo : Int) * 2 ^ s) = (ul : Int)) ∧
      ((ul : Int) / 4294967296 = (u1 : Int)) ∧ (bits .and .u64 (ul : Int) 4294967295 = (u0 : Int)) ∧
      Y = y1 * 4294967296 + y0 ∧ y0 < 4294967296 ∧ 2147483648 ≤ y1 ∧ y1 < 4294967296 ∧ ul = u1 * 4294967296 + u0 ∧ u1 < 4294967296 ∧ u0 < 4294967296 ∧ un < Y ∧
      Y = y * 2 ^ s ∧ un * 18446744073709551616 + ul = (hi * 18446744073709551616 + lo) * 2 ^ s := by
  have hp : 0 < 2 ^ s := Nat.two_pow_pos _
  have hq : 0 < 2 ^ (64 - s) := Nat.two_pow_pos _
  have e64 : 2 ^ (64 - s) * 2 ^ s = 18446744073709551616 := by rw [← Nat.pow_add, show 64 - s + s = 64 from by omega]
  have hhi : hi * 2 ^ s + 2 ^ s ≤ y * 2 ^ s := by
    have : (hi + 1) * 2 ^ s ≤ y * 2 ^ s := Nat.mul_le_mul_right _ h0
    rwa [Nat.add_mul, Nat.one_mul] at this
  have hlo : lo / 2 ^ (64 - s) < 2 ^ s := by rw [Nat.div_lt_iff_lt_mul hq, Nat.mul_comm, e64]; exact hl
  have hlo2 : lo * 2 ^ s / 18446744073709551616 = lo / 2 ^ (64 - s) := by
    rw [← e64]; exact Nat.mul_div_mul_right _ _ hp
  have hul := Nat.div_add_mod (lo * 2 ^ s) 18446744073709551616
  refine ⟨y * 2 ^ s, y * 2 ^ s / 4294967296, y * 2 ^ s % 4294967296, hi * 2 ^ s + lo / 2 ^ (64 - s), lo * 2 ^ s % 18446744073709551616,
    lo * 2 ^ s % 18446744073709551616 / 4294967296, lo * 2 ^ s % 18446744073709551616 % 4294967296, ?_⟩
  refine ⟨by simp, by simp, ?_, ?_, ?_, by simp, ?_, ?_⟩
  · rw [show (4294967295 : Int) = ((4294967295 : Nat) : Int) from rfl, u64_and_nat _ _ s3 (by decide)]
    rw [show (4294967295 : Nat) = 2 ^ 32 - 1 from rfl, Nat.and_two_pow_sub_one_eq_mod]
  · have e1 : IntKind.u64.wrap ((hi : Int) * 2 ^ s) = ((hi * 2 ^ s : Nat) : Int) := by
      rw [show ((hi : Int) * 2 ^ s) = ((hi * 2 ^ s : Nat) : Int) from by simp]
      exact IntWalk.u64_in _ (by omega)
    have e2 : (lo : Int) / 2 ^ (64 - s) = ((lo / 2 ^ (64 - s) : Nat) : Int) := by simp
    rw [e1, e2, u64_or_nat _ _ (by omega) (by omega)]
    congr 1
    have := Nat.shiftLeft_add_eq_or_of_lt hlo hi
    rw [Nat.shiftLeft_eq] at this
    exact this.symm
  · rw [show ((lo : Int) * 2 ^ s) = ((lo * 2 ^ s : Nat) : Int) from by simp, IntKind.wrap_u64]
    rfl
  · rw [show (4294967295 : Int) = ((4294967295 : Nat) : Int) from rfl, u64_and_nat _ _ (Nat.mod_lt _ (by decide)) (by decide)]
    rw [show (4294967295 : Nat) = 2 ^ 32 - 1 from rfl, Nat.and_two_pow_sub_one_eq_mod]
  · refine ⟨by omega, by omega, by omega, by omega, by omega, by omega, by omega, by omega, rfl, ?_⟩
    rw [Nat.add_mul, Nat.add_mul, ← hlo2]
    rw [show hi * 18446744073709551616 * 2 ^ s = hi * 2 ^ s * 18446744073709551616 from by rw [Nat.mul_right_comm]]
    omega

/-- What the two digits come to. -/
theorem div64_end {hi lo y s Y un ul u1 u0 q1 q0 r1 r0 : Nat} (hy : 0 < y) (eY : Y = y * 2 ^ s) (eN : un * 18446744073709551616 + ul = (hi * 18446744073709551616 + lo) * 2 ^ s) (eu : ul = u1 * 4294967296 + u0)
    (e1 : q1 = (un * 4294967296 + u1) / Y) (f1 : r1 = (un * 4294967296 + u1) % Y) (e0 : q0 = (r1 * 4294967296 + u0) / Y) (f0 : r0 = (r1 * 4294967296 + u0) % Y) :
    q1 * 4294967296 + q0 = (hi * 18446744073709551616 + lo) / y ∧ r0 / 2 ^ s = (hi * 18446744073709551616 + lo) % y := by
  have hp : 0 < 2 ^ s := Nat.two_pow_pos _
  have hY : 0 < Y := by rw [eY]; exact Nat.mul_pos hy hp
  obtain ⟨a, b⟩ := two_digits (B := 4294967296) (un := un) (u1 := u1) (u0 := u0) hY
  have e : un * (4294967296 * 4294967296) + u1 * 4294967296 + u0 = (hi * 18446744073709551616 + lo) * 2 ^ s := by
    have hB : 4294967296 * 4294967296 = 18446744073709551616 := by decide
    rw [hB, ← eN, eu, Nat.add_assoc]
  rw [e, eY] at a b
  rw [Nat.mul_div_mul_right _ _ hp] at a
  rw [Nat.mul_mod_mul_right] at b
  subst e1 f1 e0 f0
  rw [eY]
  exact ⟨a, by rw [b]; exact Nat.mul_div_cancel _ hp⟩

/-- A step of a digit's loop: the digit that is tried is one less. -/
theorem dig_next {un y1 y0 u1 a b Q Y : Nat} (hY : Y = y1 * 4294967296 + y0) (hQ : Q = (un * 4294967296 + u1) / Y) (h1 : 2147483648 ≤ y1) (h0 : y0 < 4294967296) (hu : u1 < 4294967296) (hlt : un < Y)
    (inv : a * y1 + b = un ∧ Q ≤ a) (hc : 4294967296 ≤ a ∨ 4294967296 * b + u1 < a * y0) :
    ∃ a', a = a' + 1 ∧ (a' * y1 + (b + y1) = un ∧ Q ≤ a') ∧ (4294967296 ≤ b + y1 → a' = Q) := by
  obtain ⟨i1, i2⟩ := inv
  have hs := dig_step (B := 4294967296) (un := un) (y1 := y1) (y0 := y0) (u1 := u1) (q := a) (r := b) (by omega) (by omega) hu i1 (by omega) (by rw [← hY, ← hQ]; exact i2) hc
  rw [← hY, ← hQ] at hs
  obtain ⟨a', rfl⟩ : ∃ a', a = a' + 1 := ⟨a - 1, by omega⟩
  have e : (a' + 1) * y1 = a' * y1 + y1 := by rw [Nat.add_mul, Nat.one_mul]
  refine ⟨a', rfl, ⟨by omega, by omega⟩, fun hb => ?_⟩
  have ha : a' ≤ 4294967296 := by
    apply Nat.le_of_not_lt
    intro hgt
    have : 4294967297 * y1 ≤ a' * y1 := Nat.mul_le_mul_right _ hgt
    omega
  have hm : a' * y0 ≤ 4294967296 * y0 := Nat.mul_le_mul_right _ ha
  have := dig_stop (B := 4294967296) (un := un) (y1 := y1) (y0 := y0) (u1 := u1) (q := a') (r := b + y1) (by omega) (by omega) (by omega) (by rw [← hY, ← hQ]; omega) (by omega)
  rw [← hY, ← hQ] at this
  exact this.symm

/-- The end of a digit's loop: the digit that is tried is the quotient's. -/
theorem dig_out {un y1 y0 u1 a b Q Y : Nat} (hY : Y = y1 * 4294967296 + y0) (hQ : Q = (un * 4294967296 + u1) / Y) (h1 : 2147483648 ≤ y1)
    (inv : a * y1 + b = un ∧ Q ≤ a) (hc : ¬ 4294967296 * b + u1 < a * y0) : a = Q := by
  obtain ⟨i1, i2⟩ := inv
  have := dig_stop (B := 4294967296) (un := un) (y1 := y1) (y0 := y0) (u1 := u1) (q := a) (r := b) (by omega) (by omega) i1 (by rw [← hY, ← hQ]; exact i2) (by omega)
  rw [← hY, ← hQ] at this
  exact this.symm

/-- The first digit that is tried. -/
theorem dig_first {un y1 y0 u1 Q Y : Nat} (hY : Y = y1 * 4294967296 + y0) (hQ : Q = (un * 4294967296 + u1) / Y) (h1 : 2147483648 ≤ y1) (hu : u1 < 4294967296) :
    ∃ q r : Nat, ((un : Int) / y1 = (q : Int)) ∧ ((un : Int) - (q : Int) * y1 = (r : Int)) ∧ (q * y1 + r = un ∧ Q ≤ q) ∧ r < y1 ∧ q ≤ un ∧ 0 ≤ (q : Int) * y1 ∧ (q : Int) * y1 ≤ un := by
  have hm := Nat.div_add_mod un y1
  have hc := Nat.mul_comm y1 (un / y1)
  have hs := dig_start (B := 4294967296) (un := un) (y1 := y1) (y0 := y0) (u1 := u1) (by omega) (by omega) hu
  rw [← hY, ← hQ] at hs
  have e : ((un / y1 * y1 : Nat) : Int) = ((un / y1 : Nat) : Int) * y1 := by simp
  refine ⟨un / y1, un % y1, by simp, by omega, ⟨by omega, hs⟩, Nat.mod_lt _ (by omega), Nat.div_le_self _ _, by omega, by omega⟩

/-- A product of two halves, as the walk has it. -/
theorem half_prod (a b : Nat) (ha : a < 4294967296) (hb : b < 4294967296) : 0 ≤ (a : Int) * b ∧ (a : Int) * b ≤ 18446744065119617025 := by
  have h : a * b ≤ 4294967295 * 4294967295 := Nat.mul_le_mul (by omega) (by omega)
  have e : ((a * b : Nat) : Int) = (a : Int) * b := by simp
  omega
theorem prod_cast (a b : Nat) : ((a * b : Nat) : Int) = (a : Int) * b := by simp

theorem quo_wrap {hi lo y Q1 Q0 : Nat} (h0 : hi < y) (hl : lo < 18446744073709551616) (x1 : Q1 * 4294967296 + Q0 = (hi * 18446744073709551616 + lo) / y) :
    IntKind.u64.wrap (IntKind.u64.wrap ((Q1 : Int) * 4294967296) + Q0) = (((hi * 18446744073709551616 + lo) / y : Nat) : Int) := by
  have hlt : (hi * 18446744073709551616 + lo) / y < 18446744073709551616 := by
    rw [Nat.div_lt_iff_lt_mul (by omega)]
    have : (hi + 1) * 18446744073709551616 ≤ y * 18446744073709551616 := Nat.mul_le_mul_right _ h0
    rw [Nat.add_mul] at this
    rw [Nat.mul_comm _ y]
    omega
  generalize (hi * 18446744073709551616 + lo) / y = z at *
  rw [IntKind.wrap_u64, IntKind.wrap_u64]
  omega
theorem rest_pow {r0 s z : Nat} (h : r0 / 2 ^ s = z) : (r0 : Int) / 2 ^ s = (z : Int) := by rw [← h]; simp
theorem small_wrap (lo y : Nat) (hl : lo < 18446744073709551616) : IntKind.u64.wrap ((lo : Int) / y) = (lo : Int) / y := by
  have e : (lo : Int) / y = ((lo / y : Nat) : Int) := by simp
  have := Nat.div_le_self lo y
  rw [e]
  generalize lo / y = z at *
  exact IntWalk.u64_in _ (by omega)
end Go.Proofs.Ytkchnmilmepnfaa
