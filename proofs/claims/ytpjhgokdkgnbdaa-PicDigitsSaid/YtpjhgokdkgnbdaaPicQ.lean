/- A cell, put together whole, is its text: the plain law. -/
import Derived.Test.YtpjhgokdkgnbdaaPicN
import Derived.Test.YtpjhgokdkgnbdaaNumG
namespace Go.Proofs.Ytpjhgokdkgnbdaa
open Go.RowKit

def sgn (d : Nat) : Int := digS (d : Int)
theorem allG_digL {B : Nat} (h2 : 2 ≤ B) : ∀ (k r : Nat) (xs : List Int) (P : Nat), k ≤ r → P < 2 ^ (k + 1) → xs.length + (digL B (k + 1) P).length ≤ 130 → allG B (r + 1) (xs, true) P = some (xs ++ (digL B (k + 1) P).map sgn, true)
  | 0, r, xs, P, _, hP, hl => by
    have hz : P / B = 0 := Nat.div_eq_of_lt (by simp at hP; omega)
    have e : digL B (0 + 1) P = [P % B] := by simp [digL]
    rw [e] at hl ⊢
    simp at hl
    exact allG_end (B := B) (r := r) (p := (xs, true)) (P := P) rfl ⟨rfl, by dsimp only; omega⟩ hz
  | k + 1, r, xs, P, hk, hP, hl => by
    obtain ⟨r', rfl⟩ : ∃ r', r = r' + 1 := ⟨r - 1, by omega⟩
    by_cases hz : P / B = 0
    · have e : digL B (k + 1 + 1) P = [P % B] := by rw [digL]; simp [hz]
      rw [e] at hl ⊢
      simp at hl
      exact allG_end (B := B) (r := r' + 1) (p := (xs, true)) (P := P) rfl ⟨rfl, by dsimp only; omega⟩ hz
    · have e : digL B (k + 1 + 1) P = (P % B) :: digL B (k + 1) (P / B) := by rw [digL]; simp [hz]
      rw [e] at hl ⊢
      simp only [List.length_cons] at hl
      have hm := allG_more (r := r' + 1) (p := (xs, true)) (P := P) rfl ⟨rfl, by dsimp only; omega⟩ hz
      rw [← hm]
      have ih := allG_digL h2 k r' (xs ++ [digS ((P % B : Nat) : Int)]) (P / B) (by omega) (pow_half hP h2) (by simp only [List.length_append, List.length_cons, List.length_nil]; omega)
      rw [ih]
      simp [sgn]
theorem all_cell (n : Int) {B : Nat} (hb : isB (B : Int) = true) (h2 : 2 ≤ B) : allS beginS n 0 B = (((digL B 64 (U n)).map sgn, true), 0) := by
  refine allS_some _ _ _ _ _ hb ?_
  have hP : PU n 0 = U n := by unfold PU; rw [show U 0 = 0 from by decide]; omega
  rw [hP, ← (all0_start _ _ _).out]
  have hu : U n < 2 ^ (63 + 1) := U_lt n
  exact allG_digL h2 63 127 [] (U n) (by omega) hu (by have := digL_le B (63 + 1) (U n); simp only [List.length_nil]; omega)
theorem end_digs (u B : Nat) : endS ((digL B 64 u).map sgn, true) = (ushowL u B, 0) := by
  unfold endS ushowL
  simp only [if_true, List.map_map]
  rfl
theorem end_minus (u B : Nat) : endS ((digL B 64 u).map sgn ++ [45], true) = (45 :: ushowL u B, 0) := by
  unfold endS ushowL
  simp only [if_true, List.map_append, List.map_map, List.reverse_append]
  rfl
theorem shows_law (n : Int) (B : Nat) (hb : isB (B : Int) = true) (h2 : 2 ≤ B) :
    ∃ (sz : Int) (p q r : PicL) (l m : List UInt8), (0 ≤ n → sz = n) ∧ (n < 0 → sz = wrap64 (-n)) ∧ ushowS n B = (l, 0) ∧ showS n B = (m, 0) ∧ allS beginS n 0 B = (p, 0) ∧ endS p = (l, 0) ∧ p.1.length ≤ 130 ∧
      allS beginS sz 0 B = (q, 0) ∧ signP q n = (r, 0) ∧ endS r = (m, 0) ∧ r.1.length ≤ 130 := by
  have hus : ushowS n B = (ushowL (U n) B, 0) := by unfold ushowS; rw [if_pos hb, Int.toNat_natCast]
  have len := fun u => digL_le B 64 u
  by_cases h0 : 0 ≤ n
  · refine ⟨n, ((digL B 64 (U n)).map sgn, true), ((digL B 64 (U n)).map sgn, true), ((digL B 64 (U n)).map sgn, true), ushowL (U n) B, ushowL (U n) B, fun _ => rfl, (fun h => by omega), hus, ?_, all_cell n hb h2, end_digs _ _, ?_, all_cell n hb h2, ?_, end_digs _ _, ?_⟩
    · unfold showS; rw [if_pos hb, if_pos h0, Int.toNat_natCast]
    · have := len (U n); simp only [List.length_map]; omega
    · unfold signP; rw [if_pos h0]
    · have := len (U n); simp only [List.length_map]; omega
  · refine ⟨wrap64 (-n), ((digL B 64 (U n)).map sgn, true), ((digL B 64 (U (wrap64 (-n)))).map sgn, true), ((digL B 64 (U (wrap64 (-n)))).map sgn ++ [45], true), ushowL (U n) B, 45 :: ushowL (U (wrap64 (-n))) B, (fun h => by omega), fun _ => rfl, hus, ?_, all_cell n hb h2, end_digs _ _, ?_, all_cell _ hb h2, ?_, end_minus _ _, ?_⟩
    · unfold showS; rw [if_pos hb, if_neg h0, Int.toNat_natCast]
    · have := len (U n); simp only [List.length_map]; omega
    · unfold signP holdS; rw [if_neg h0, if_pos ⟨rfl, by have := len (U (wrap64 (-n))); simp only [List.length_map]; omega⟩]; rfl
    · have := len (U (wrap64 (-n))); simp only [List.length_map, List.length_append, List.length_cons, List.length_nil]; omega
end Go.Proofs.Ytpjhgokdkgnbdaa
