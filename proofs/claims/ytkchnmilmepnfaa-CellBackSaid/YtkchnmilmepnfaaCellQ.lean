/- Plain laws of cells as bytes: what is put is got, and the other way round. -/
import Derived.Test.YtkchnmilmepnfaaCellF
import Derived.Test.YtkchnmilmepnfaaCellP
namespace Go.Proofs.Ytkchnmilmepnfaa
open Go.RowKit

/-- A number's bytes, so many, the lowest first. -/
def bytesN : Nat → Nat → List Int
  | 0, _ => []
  | k + 1, u => ((u % 256 : Nat) : Int) :: bytesN k (u / 256)
theorem valB_bytesN (k : Nat) : ∀ u : Nat, u < 256 ^ k → valB (bytesN k u) = u := by
  induction k with
  | zero => intro u h; simp at h; simp [bytesN, valB, h]
  | succ k ih =>
    intro u h
    rw [Nat.pow_succ] at h
    simp only [bytesN, valB, ih (u / 256) (by omega), Int.toNat_natCast]
    omega
theorem bytes8_N (u : Nat) : bytes8 u = bytesN 8 u := by
  simp only [bytes8, bytesN, Nat.div_div_eq_div_mul]
  rfl
theorem valB_bytes8 (u : Nat) (h : u < 18446744073709551616) : valB (bytes8 u) = u := by
  rw [bytes8_N]; exact valB_bytesN 8 u (by rw [show (256 : Nat) ^ 8 = 18446744073709551616 from by decide]; exact h)
theorem bytes8_valB (xs : List Int) (hl : xs.length = 8) (hb : ∀ x ∈ xs, 0 ≤ x ∧ x < 256) : bytes8 (valB xs) = xs := by
  match xs, hl with
  | [a, b, c, d, e, f, g, h], _ =>
    have h1 := hb a (by simp)
    have h2 := hb b (by simp)
    have h3 := hb c (by simp)
    have h4 := hb d (by simp)
    have h5 := hb e (by simp)
    have h6 := hb f (by simp)
    have h7 := hb g (by simp)
    have h8 := hb h (by simp)
    simp only [bytes8, valB]
    obtain ⟨a, rfl⟩ := Int.eq_ofNat_of_zero_le h1.1
    obtain ⟨b, rfl⟩ := Int.eq_ofNat_of_zero_le h2.1
    obtain ⟨c, rfl⟩ := Int.eq_ofNat_of_zero_le h3.1
    obtain ⟨d, rfl⟩ := Int.eq_ofNat_of_zero_le h4.1
    obtain ⟨e, rfl⟩ := Int.eq_ofNat_of_zero_le h5.1
    obtain ⟨f, rfl⟩ := Int.eq_ofNat_of_zero_le h6.1
    obtain ⟨g, rfl⟩ := Int.eq_ofNat_of_zero_le h7.1
    obtain ⟨h, rfl⟩ := Int.eq_ofNat_of_zero_le h8.1
    simp only [Int.toNat_natCast, List.cons.injEq, and_true]
    refine ⟨?_, ?_, ?_, ?_, ?_, ?_, ?_, ?_⟩ <;> omega
theorem got_put (n : Int) (h : Fit n) : wrap64 (valB (bytes8 (U n))) = n := by
  rw [valB_bytes8 _ (U_lt n)]; exact S_U n h
theorem put_got (xs : List Int) (hl : xs.length = 8) (hb : ∀ x ∈ xs, 0 ≤ x ∧ x < 256) : bytes8 (U (wrap64 (valB xs))) = xs := by
  have h := valB_lt xs hb
  rw [hl, show (256 : Nat) ^ 8 = 18446744073709551616 from by decide] at h
  have : U (wrap64 (valB xs : Int)) = valB xs := U_S _ h
  rw [this]
  exact bytes8_valB xs hl hb
theorem bytes8_inj {a b : Nat} (ha : a < 18446744073709551616) (hb : b < 18446744073709551616) (h : bytes8 a = bytes8 b) : a = b := by
  rw [← valB_bytes8 a ha, ← valB_bytes8 b hb, h]
theorem bytes8_rng (u : Nat) : ∀ x ∈ bytes8 u, 0 ≤ x ∧ x < 256 := by
  intro x hx
  simp only [bytes8, List.mem_cons, List.not_mem_nil, or_false] at hx
  omega
end Go.Proofs.Ytkchnmilmepnfaa
