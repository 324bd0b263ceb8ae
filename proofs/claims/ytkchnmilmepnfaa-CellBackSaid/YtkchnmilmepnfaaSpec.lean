/- What the functions of layer 1 (cell) compute, as plain Lean functions, and the plain laws of these: no program in sight. -/
import Derived.WalkKit
namespace Go.Proofs.Ytkchnmilmepnfaa
open Go.RowKit (wrap64)

/-- A cell without its sign. -/
def U (x : Int) : Nat := (x % 18446744073709551616).toNat
/-- A pair of cells without a sign. -/
def PU (lo hi : Int) : Nat := U hi * 18446744073709551616 + U lo
/-- A pair of cells with a sign. -/
def PS (lo hi : Int) : Int := hi * 18446744073709551616 + U lo
/-- Does a number fit into a cell? -/
def fits (n : Int) : Bool := decide (-9223372036854775808 ≤ n) && decide (n ≤ 9223372036854775807)
/-- A number without a sign as a cell. -/
def S (n : Nat) : Int := wrap64 n

def divS (a b : Int) : Int × Int × Int := if b = 0 then (0, 0, -10) else (wrap64 (a.fdiv b), a.fmod b, 0)
def umulS (a b : Int) : Int × Int := (S (U a * U b % 18446744073709551616), S (U a * U b / 18446744073709551616))
def mulS (a b : Int) : Int × Int := (wrap64 (a * b), (a * b) / 18446744073709551616)
def udivS (lo hi d : Int) : Int × Int × Int :=
  if d = 0 then (0, 0, -10) else if U d ≤ U hi then (0, 0, -11) else (S (PU lo hi / U d), S (PU lo hi % U d), 0)
def sdivS (lo hi d : Int) : Int × Int × Int :=
  if d = 0 then (0, 0, -10) else if fits ((PS lo hi).tdiv d) then ((PS lo hi).tdiv d, (PS lo hi).tmod d, 0) else (0, 0, -11)
def fdivS (lo hi d : Int) : Int × Int × Int :=
  if d = 0 then (0, 0, -10) else if fits ((PS lo hi).fdiv d) then ((PS lo hi).fdiv d, (PS lo hi).fmod d, 0) else (0, 0, -11)

theorem U_lt (x : Int) : U x < 18446744073709551616 := by unfold U; omega
theorem U_wrap (x : Int) : IntKind.u64.wrap x = ((U x : Nat) : Int) := by
  rw [show IntKind.u64.wrap x = x % 18446744073709551616 from by simp [IntKind.wrap, IntKind.bits, IntKind.signed]]; unfold U; omega
theorem i64_S (n : Nat) : IntKind.i64.wrap (n : Int) = S n := by unfold S; exact IntWalk.i64_left _
theorem U_of (x : Int) (h : 0 ≤ x) (h1 : x ≤ 9223372036854775807) : U x = x.toNat := by unfold U; omega
theorem U_neg (x : Int) (h : x < 0) (h1 : -9223372036854775808 ≤ x) : ((U x : Nat) : Int) = x + 18446744073709551616 := by unfold U; omega
theorem wrap64_fit (n : Int) (h : -9223372036854775808 ≤ n ∧ n ≤ 9223372036854775807) : wrap64 n = n := by unfold wrap64; omega
theorem S_U (x : Int) (h : -9223372036854775808 ≤ x ∧ x ≤ 9223372036854775807) : S (U x) = x := by unfold S U wrap64; omega
theorem U_S (n : Nat) (h : n < 18446744073709551616) : U (S n) = n := by unfold S U wrap64; omega
theorem S_rng (n : Nat) : -9223372036854775808 ≤ S n ∧ S n ≤ 9223372036854775807 := by unfold S wrap64; omega
theorem wrap64_rng (n : Int) : -9223372036854775808 ≤ wrap64 n ∧ wrap64 n ≤ 9223372036854775807 := by unfold wrap64; omega

theorem fdiv_uniq {a d q r : Int} (h : d * q + r = a) (hr : (0 < d ∧ 0 ≤ r ∧ r < d) ∨ (d < 0 ∧ d < r ∧ r ≤ 0)) : a.fdiv d = q ∧ a.fmod d = r := by
  rcases hr with ⟨hd, h0, h1⟩ | ⟨hd, h0, h1⟩
  · rw [Int.fdiv_eq_ediv_of_nonneg a (by omega), Int.fmod_eq_emod_of_nonneg a (by omega)]
    exact (Int.ediv_emod_unique hd).2 ⟨by rw [Int.add_comm]; exact h, h0, h1⟩
  · have e1 := Int.neg_fdiv_neg a d
    have e2 := Int.neg_fmod_neg a d
    rw [Int.fdiv_eq_ediv_of_nonneg (-a) (by omega)] at e1
    rw [Int.fmod_eq_emod_of_nonneg (-a) (by omega)] at e2
    have := (Int.ediv_emod_unique (a := -a) (b := -d) (r := -r) (q := q) (by omega)).2 ⟨by rw [Int.neg_mul]; omega, by omega, by omega⟩
    omega

theorem tdiv_uniq {a d q r : Int} (h : d * q + r = a) (hr : r.natAbs < d.natAbs) (hs : (0 ≤ a ∧ 0 ≤ r) ∨ (a ≤ 0 ∧ r ≤ 0)) : a.tdiv d = q ∧ a.tmod d = r := by
  have key : ∀ (a d q r : Int), d * q + r = a → 0 < d → 0 ≤ a → 0 ≤ r → r < d → a.tdiv d = q ∧ a.tmod d = r := by
    intro a d q r h hd ha h0 h1
    rw [Int.tdiv_eq_ediv_of_nonneg ha, Int.tmod_eq_emod_of_nonneg ha]
    exact (Int.ediv_emod_unique hd).2 ⟨by rw [Int.add_comm]; exact h, h0, h1⟩
  rcases hs with ⟨ha, h0⟩ | ⟨ha, h0⟩
  · by_cases hp : 0 < d
    · exact key a d q r h hp ha h0 (by omega)
    · have := key a (-d) (-q) r (by rw [Int.neg_mul_neg]; exact h) (by omega) ha h0 (by omega)
      rw [Int.tdiv_neg, Int.tmod_neg] at this
      omega
  · by_cases hp : 0 < d
    · have := key (-a) d (-q) (-r) (by rw [Int.mul_neg]; omega) hp (by omega) (by omega) (by omega)
      rw [Int.neg_tdiv, Int.neg_tmod] at this
      omega
    · have := key (-a) (-d) q (-r) (by rw [Int.neg_mul]; omega) (by omega) (by omega) (by omega) (by omega)
      rw [Int.neg_tdiv, Int.neg_tmod, Int.tdiv_neg, Int.tmod_neg] at this
      omega

/-- Quotient and rest rounded to 0, by the sizes. -/
theorem tdiv_sizes (V d : Int) (hd : d ≠ 0) :
    V.tdiv d = (if decide (V < 0) != decide (d < 0) then -((V.natAbs / d.natAbs : Nat) : Int) else ((V.natAbs / d.natAbs : Nat) : Int)) ∧
    V.tmod d = (if V < 0 then -((V.natAbs % d.natAbs : Nat) : Int) else ((V.natAbs % d.natAbs : Nat) : Int)) := by
  have hD : 0 < d.natAbs := by omega
  have hm := Nat.mod_lt V.natAbs hD
  have he := Nat.div_add_mod V.natAbs d.natAbs
  generalize V.natAbs / d.natAbs = q at *
  generalize V.natAbs % d.natAbs = r at *
  have he' : ((d.natAbs : Nat) : Int) * (q : Int) + (r : Int) = (V.natAbs : Nat) := by exact_mod_cast he
  by_cases hV : V < 0 <;> by_cases hn : d < 0
  · simp only [hV, hn, decide_true, bne_self_eq_false, Bool.false_eq_true, if_false, if_true]
    have e : ((d.natAbs : Nat) : Int) = -d := by omega
    rw [e, Int.neg_mul] at he'
    exact tdiv_uniq (by omega) (by omega) (by omega)
  · have hb : (decide (V < 0) != decide (d < 0)) = true := by simp [hV, hn]
    rw [if_pos hb, if_pos hV]
    have e : ((d.natAbs : Nat) : Int) = d := by omega
    rw [e] at he'
    exact tdiv_uniq (by rw [Int.mul_neg]; omega) (by omega) (by omega)
  · have hb : (decide (V < 0) != decide (d < 0)) = true := by simp [hV, hn]
    rw [if_pos hb, if_neg hV]
    have e : ((d.natAbs : Nat) : Int) = -d := by omega
    rw [e, Int.neg_mul] at he'
    exact tdiv_uniq (by rw [Int.mul_neg]; omega) (by omega) (by omega)
  · have hb : ¬ (decide (V < 0) != decide (d < 0)) = true := by simp [hV, hn]
    rw [if_neg hb, if_neg hV]
    have e : ((d.natAbs : Nat) : Int) = d := by omega
    rw [e] at he'
    exact tdiv_uniq (by omega) (by omega) (by omega)

/-- Quotient and rest rounded down, by those rounded to 0. -/
theorem fdiv_tdiv (V d : Int) (hd : d ≠ 0) :
    V.fdiv d = (if V.tmod d ≠ 0 ∧ (decide (V < 0) != decide (d < 0)) = true then V.tdiv d - 1 else V.tdiv d) ∧
    V.fmod d = (if V.tmod d ≠ 0 ∧ (decide (V < 0) != decide (d < 0)) = true then V.tmod d + d else V.tmod d) := by
  obtain ⟨h1, h2⟩ := tdiv_sizes V d hd
  have hD : 0 < d.natAbs := by omega
  have hm := Nat.mod_lt V.natAbs hD
  have he := Int.mul_tdiv_add_tmod V d
  generalize V.tdiv d = q at *
  generalize V.tmod d = r at *
  generalize V.natAbs % d.natAbs = s at *
  by_cases hV : V < 0 <;> by_cases hn : d < 0
  · rw [if_neg (by simp [hV, hn]), if_neg (by simp [hV, hn])]
    rw [if_pos hV] at h2
    exact fdiv_uniq he (by omega)
  · rw [if_pos hV] at h2
    by_cases hr : r = 0
    · rw [if_neg (by simp [hr]), if_neg (by simp [hr])]
      exact fdiv_uniq he (by omega)
    · rw [if_pos ⟨hr, by simp [hV, hn]⟩, if_pos ⟨hr, by simp [hV, hn]⟩]
      exact fdiv_uniq (by rw [Int.mul_sub]; omega) (by omega)
  · rw [if_neg hV] at h2
    by_cases hr : r = 0
    · rw [if_neg (by simp [hr]), if_neg (by simp [hr])]
      exact fdiv_uniq he (by omega)
    · rw [if_pos ⟨hr, by simp [hV, hn]⟩, if_pos ⟨hr, by simp [hV, hn]⟩]
      exact fdiv_uniq (by rw [Int.mul_sub]; omega) (by omega)
  · rw [if_neg (by simp [hV, hn]), if_neg (by simp [hV, hn])]
    rw [if_neg hV] at h2
    exact fdiv_uniq he (by omega)

/-! ### The two digits of Div64 -/

theorem dig_step {B un y1 y0 u1 q r : Nat} (hB : 0 < B) (hy1 : 0 < y1) (h1 : u1 < B)
    (hq : q * y1 + r = un) (hlt : un < y1 * B + y0)
    (hQ : (un * B + u1) / (y1 * B + y0) ≤ q)
    (hc : B ≤ q ∨ B * r + u1 < q * y0) : (un * B + u1) / (y1 * B + y0) + 1 ≤ q := by
  have hy : 0 < y1 * B + y0 := by
    have := Nat.mul_pos hy1 hB; omega
  rcases hc with hc | hc
  · have : (un * B + u1) / (y1 * B + y0) < B := by
      rw [Nat.div_lt_iff_lt_mul hy]
      have h2 : (un + 1) * B ≤ (y1 * B + y0) * B := Nat.mul_le_mul_right B hlt
      have h3 : (un + 1) * B = un * B + B := by rw [Nat.add_mul]; omega
      rw [Nat.mul_comm B]
      omega
    omega
  · have : (un * B + u1) / (y1 * B + y0) < q := by
      rw [Nat.div_lt_iff_lt_mul hy]
      have e1 : q * (y1 * B + y0) = (q * y1) * B + q * y0 := by
        rw [Nat.mul_add, Nat.mul_assoc]
      have e2 : un * B = (q * y1) * B + B * r := by
        rw [← hq, Nat.add_mul, Nat.mul_comm r B]
      rw [e1, e2]; omega
    omega

theorem dig_stop {B un y1 y0 u1 q r : Nat} (hB : 0 < B) (hy1 : 0 < y1)
    (hq : q * y1 + r = un)
    (hQ : (un * B + u1) / (y1 * B + y0) ≤ q)
    (hc : q * y0 ≤ B * r + u1) : (un * B + u1) / (y1 * B + y0) = q := by
  have hy : 0 < y1 * B + y0 := by
    have := Nat.mul_pos hy1 hB; omega
  have : q ≤ (un * B + u1) / (y1 * B + y0) := by
    rw [Nat.le_div_iff_mul_le hy]
    have e1 : q * (y1 * B + y0) = (q * y1) * B + q * y0 := by
      rw [Nat.mul_add, Nat.mul_assoc]
    have e2 : un * B = (q * y1) * B + B * r := by
      rw [← hq, Nat.add_mul, Nat.mul_comm r B]
    rw [e1, e2]; omega
  omega

theorem dig_start {B un y1 y0 u1 : Nat} (hy1 : 0 < y1) (hB : 0 < B) (h1 : u1 < B) :
    (un * B + u1) / (y1 * B + y0) ≤ un / y1 := by
  have a : (un * B + u1) / (y1 * B + y0) ≤ (un * B + u1) / (y1 * B) :=
    Nat.div_le_div_left (by omega) (Nat.mul_pos hy1 hB)
  have b : (un * B + u1) / (y1 * B) = un / y1 := by
    rw [Nat.mul_comm y1 B, ← Nat.div_div_eq_div_mul]
    rw [Nat.mul_comm un B, Nat.mul_add_div hB, Nat.div_eq_of_lt h1, Nat.add_zero]
  omega

theorem two_digits {B un u1 u0 y : Nat} (hy : 0 < y) :
    ((un * B + u1) / y) * B + ((un * B + u1) % y * B + u0) / y = (un * (B * B) + u1 * B + u0) / y ∧
    ((un * B + u1) % y * B + u0) % y = (un * (B * B) + u1 * B + u0) % y := by
  have e : un * (B * B) + u1 * B + u0 = ((un * B + u1) / y * B) * y + ((un * B + u1) % y * B + u0) := by
    have h := Nat.div_add_mod (un * B + u1) y
    have h2 : un * (B * B) + u1 * B = (un * B + u1) * B := by rw [Nat.add_mul, Nat.mul_assoc]
    rw [h2]
    have h3 : (un * B + u1) * B = (y * ((un * B + u1) / y) + (un * B + u1) % y) * B := by rw [h]
    rw [h3, Nat.add_mul]
    have h4 : y * ((un * B + u1) / y) * B = (un * B + u1) / y * B * y := by
      rw [Nat.mul_comm y, Nat.mul_assoc, Nat.mul_comm y B, ← Nat.mul_assoc]
    omega
  rw [e]
  constructor
  · rw [Nat.mul_comm _ y, Nat.mul_add_div hy]
  · rw [Nat.mul_comm _ y, Nat.mul_add_mod]

end Go.Proofs.Ytkchnmilmepnfaa
