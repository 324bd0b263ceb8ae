/- The digits of a pair tell it: the plain law. -/
import Derived.Test.YtpjhgokdkgnbdaaPicQ
import Derived.Test.YtpjhgokdkgnbdaaNumH
namespace Go.Proofs.Ytpjhgokdkgnbdaa
open Go.RowKit

theorem digits_law (lo hi : Int) (B : Nat) (hb : isB (B : Int) = true) (h2 : 2 ≤ B) (h3 : B ≤ 36) :
    ∃ (p : PicL) (s : List UInt8), allS beginS lo hi B = (p, 0) ∧ endS p = (s, 0) ∧ p.1.length ≤ 130 ∧ s.length ≤ 128 ∧ s.all (okD B) = true ∧ valD B 0 s = (PU lo hi : Int) ∧ ∃ c l, s = c :: l ∧ ((c.toNat : Int) = 48 → l = []) := by
  have hP : PU lo hi < B ^ 128 := Nat.lt_of_lt_of_le (pair_128 lo hi) (Nat.pow_le_pow_left h2 128)
  have hlen := digL_le B 128 (PU lo hi)
  refine ⟨((digL B 128 (PU lo hi)).map sgn, true), ((digL B 128 (PU lo hi)).map chr).reverse, ?_, ?_, ?_, ?_, ?_, valD_digL B h2 h3 128 _ hP, ?_⟩
  · refine allS_some _ _ _ _ _ hb ?_
    rw [← (all0_start _ _ _).out]
    exact allG_digL h2 127 127 [] _ (by omega) (pair_128 lo hi) (by have := digL_le B (127 + 1) (PU lo hi); simp only [List.length_nil]; omega)
  · unfold endS
    simp only [if_true, List.map_map]
    rfl
  · simp only [List.length_map]; omega
  · simp only [List.length_reverse, List.length_map]; omega
  · rw [List.all_reverse, List.all_eq_true]
    intro c hc
    obtain ⟨d, hd, rfl⟩ := List.mem_map.1 hc
    have := digL_lt B (by omega) 128 _ d hd
    rw [okD_iff, wd_chr d (by omega)]
    omega
  · have hl := digL_last B h2 128 (PU lo hi)
    rcases List.eq_nil_or_concat (digL B 128 (PU lo hi)) with h | ⟨ds, d, h⟩
    · exact absurd h (digL_ne B 127 _)
    · rw [h] at hl
      refine ⟨chr d, (ds.map chr).reverse, by rw [h]; simp, fun h0 => ?_⟩
      rw [chr_toNat] at h0
      have hd := digS_nought h0
      rcases Nat.eq_zero_or_pos (PU lo hi) with hz | hpos
      · rw [hz] at h
        have e : digL B 128 0 = [0] := by simp [digL]
        rw [e] at h
        cases ds with
        | nil => rfl
        | cons x xs => simp at h
      · exact absurd hd (hl hpos hP d (by simp))

/-- How far two cells have come to tell a text. -/
def AccAt (B : Nat) (s : List UInt8) (k L H : Nat) : Prop :=
  ∃ V : Nat, valD B 0 (s.take k) = (V : Int) ∧ (H * 18446744073709551616 + L) % 340282366920938463463374607431768211456 = V % 340282366920938463463374607431768211456 ∧ L < 18446744073709551616 ∧ H < 18446744073709551616
theorem accAt_start (B : Nat) (s : List UInt8) : AccAt B s 0 0 0 := ⟨0, by simp [valD], by omega, by omega, by omega⟩
theorem acc_step {H L B D r q Y G H1 H2 V : Nat} (hD : D ≤ 35) (hr : r = L * B % 18446744073709551616) (hq : q = L * B / 18446744073709551616) (hY : Y = (r + D) % 18446744073709551616) (hG : G = H * B % 18446744073709551616)
    (h1 : H1 = (G + q) % 18446744073709551616) (h2 : H2 = if Y < r then (H1 + 1) % 18446744073709551616 else H1)
    (hV : (H * 18446744073709551616 + L) % 340282366920938463463374607431768211456 = V % 340282366920938463463374607431768211456) :
    (H2 * 18446744073709551616 + Y) % 340282366920938463463374607431768211456 = (V * B + D) % 340282366920938463463374607431768211456 := by
  have e1 : (V * B + D) % 340282366920938463463374607431768211456 = ((H * 18446744073709551616 + L) * B + D) % 340282366920938463463374607431768211456 := by
    rw [Nat.add_mod, Nat.mul_mod, ← hV, ← Nat.mul_mod, ← Nat.add_mod]
  rw [e1]
  have e2 : (H * 18446744073709551616 + L) * B = H * B * 18446744073709551616 + L * B := by rw [Nat.add_mul, Nat.mul_right_comm]
  rw [e2]
  generalize H * B = X at *
  generalize L * B = Z at *
  clear hV e1 e2
  split at h2 <;> omega
theorem acc_next {B : Nat} {s : List UInt8} {k L H D r q Y G H1 H2 : Nat} (h : AccAt B s k L H) (hk : k < s.length) (hc : wd (s[k].toNat : Int) = (D : Int)) (hD : D ≤ 35) (hr : r = L * B % 18446744073709551616) (hq : q = L * B / 18446744073709551616)
    (hY : Y = (r + D) % 18446744073709551616) (hG : G = H * B % 18446744073709551616) (h1 : H1 = (G + q) % 18446744073709551616) (h2 : H2 = if Y < r then (H1 + 1) % 18446744073709551616 else H1) : AccAt B s (k + 1) Y H2 := by
  obtain ⟨V, v1, v2, v3, v4⟩ := h
  refine ⟨V * B + D, ?_, acc_step hD hr hq hY hG h1 h2 v2, by omega, by split at h2 <;> omega⟩
  rw [List.take_succ_eq_append_getElem hk, valD_snoc, v1, hc]
  simp
theorem acc_end {B : Nat} {s : List UInt8} {lo hi : Int} {L H : Nat} (h : AccAt B s s.length L H) (hs : valD B 0 s = (PU lo hi : Int)) : L = U lo ∧ H = U hi := by
  obtain ⟨V, v1, v2, v3, v4⟩ := h
  rw [List.take_length, hs] at v1
  have hV : V = PU lo hi := by omega
  subst hV
  have a := U_lt lo
  have b := U_lt hi
  unfold PU at v2
  constructor <;> omega
end Go.Proofs.Ytpjhgokdkgnbdaa
