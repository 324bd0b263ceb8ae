/- The examples at the head of layer 1's statements: they hold. -/
import Derived.Test.YtkchnmilmepnfaaCellF
namespace Go.Proofs.Ytkchnmilmepnfaa
open Go.RowKit

theorem shown_put (w : World) : Calls Try.prog 10 #[.int .i64 258] w fun e w' => ∃ b c, e = .returned (.slice (some ⟨b, 0, none⟩) 8 c) ∧ (∀ i, i < 8 → w'.cell? ⟨b, 0 + i, none⟩ = some (.int .u8 ([2, 1, 0, 0, 0, 0, 0, 0].getD i 0))) ∧ w.heap.size ≤ b ∧ Below w.heap.size w w' := by
  refine (cell_Put 258 w).mono ?_
  rintro e w' ⟨b, c, rfl, hb, _, hc, hbel⟩
  have e1 : bytes8 (U 258) = [2, 1, 0, 0, 0, 0, 0, 0] := by decide +kernel
  rw [e1] at hc ⊢
  exact ⟨b, c, rfl, fun i hi => by rw [Nat.zero_add]; exact hc i hi, hb, hbel⟩
theorem shown_div (w : World) : Calls Try.prog 23 #[.int .i64 (-7), .int .i64 2] w fun e w' => e = .returned (.tuple #[.int .i64 (-4), .int .i64 1, .int .i64 0]) ∧ ∃ n, w' = w.drewN n := by
  have h := cell_Div (-7) 2 w (by omega)
  rw [show divS (-7) 2 = (-4, 1, 0) from by decide +kernel] at h
  exact h
theorem shown_umul (w : World) : Calls Try.prog 24 #[.int .i64 (-1), .int .i64 (-1)] w fun e w' => e = .returned (.tuple #[.int .i64 1, .int .i64 (-2)]) ∧ w = w' := by
  have h := cell_UMul (-1) (-1) w
  rw [show umulS (-1) (-1) = (1, -2) from by decide +kernel] at h
  exact h
theorem shown_sdiv (w : World) : Calls Try.prog 25 #[.int .i64 (-7), .int .i64 (-1), .int .i64 2] w fun e w' => e = .returned (.tuple #[.int .i64 (-3), .int .i64 (-1), .int .i64 0]) ∧ ∃ n, w' = w.drewN n := by
  have h := cell_SDiv (-7) (-1) 2 w (by omega) (by omega)
  rw [show sdivS (-7) (-1) 2 = (-3, -1, 0) from by decide +kernel] at h
  exact h
theorem shown_fdiv (w : World) : Calls Try.prog 26 #[.int .i64 (-7), .int .i64 (-1), .int .i64 2] w fun e w' => e = .returned (.tuple #[.int .i64 (-4), .int .i64 1, .int .i64 0]) ∧ ∃ n, w' = w.drewN n := by
  have h := cell_FDiv (-7) (-1) 2 w (by omega) (by omega)
  rw [show fdivS (-7) (-1) 2 = (-4, 1, 0) from by decide +kernel] at h
  exact h
theorem shown_mul (w : World) : Calls Try.prog 27 #[.int .i64 (-3), .int .i64 5] w fun e w' => e = .returned (.tuple #[.int .i64 (-15), .int .i64 (-1)]) ∧ w = w' := by
  have h := cell_Mul (-3) 5 w (by omega) (by omega)
  rw [show mulS (-3) 5 = (-15, -1) from by decide +kernel] at h
  exact h
theorem shown_udiv (w : World) : Calls Try.prog 28 #[.int .i64 1, .int .i64 0, .int .i64 0] w fun e w' => e = .returned (.tuple #[.int .i64 0, .int .i64 0, .int .i64 (-10)]) ∧ ∃ n, w' = w.drewN n := by
  have h := cell_UDiv 1 0 0 w
  rw [show udivS 1 0 0 = (0, 0, -10) from by decide +kernel] at h
  exact h
theorem shown_get (b c : Nat) (w : World) (hc : ∀ i, i < 8 → w.cell? ⟨b, 0 + i, none⟩ = some (.int .u8 ([2, 1, 0, 0, 0, 0, 0, 0].getD i 0))) :
    Calls Try.prog 9 #[.slice (some ⟨b, 0, none⟩) 8 c] w fun e w' => e = .returned (.tuple #[.int .i64 258, .int .i64 0]) ∧ w = w' := by
  have h := cell_Get b 0 c [2, 1, 0, 0, 0, 0, 0, 0] w rfl (by decide) hc
  rw [show wrap64 (valB [2, 1, 0, 0, 0, 0, 0, 0]) = 258 from by decide +kernel] at h
  exact h
theorem shown_less1 (w : World) : Calls Try.prog 29 #[.int .i64 1, .int .i64 (-1)] w fun e w' => e = .returned (.bool true) ∧ w = w' := by
  have h := cell_ULess 1 (-1) w
  rw [show decide (U 1 < U (-1)) = true from by decide +kernel] at h
  exact h
theorem shown_less2 (w : World) : Calls Try.prog 29 #[.int .i64 (-1), .int .i64 1] w fun e w' => e = .returned (.bool false) ∧ w = w' := by
  have h := cell_ULess (-1) 1 w
  rw [show decide (U (-1) < U 1) = false from by decide +kernel] at h
  exact h

set_option maxRecDepth 100000 in
set_option maxHeartbeats 4000000 in
theorem cell_shown (w : World) : Calls Try.prog 8 #[] w fun e w' => e = .returned (.bool true) ∧ Below w.heap.size w w' := by
  go_enter Try.func8, Try.ntmps8
  go_wp2_with fail
  refine (shown_put _).mono ?_
  rintro e w1 ⟨b, c, rfl, hc, hb, hbel⟩
  have HC := Lib.hid hc
  have HB := Lib.hid hb
  have c0 := hc 0 (by decide)
  have c1 := hc 1 (by decide)
  have c7 := hc 7 (by decide)
  simp at c0 c1 c7
  clear hc hb
  go_wp2_with fail
  refine (shown_get b c _ HC.out).mono ?_
  rintro e w' ⟨rfl, rfl⟩
  go_wp2_with fail
  refine (shown_div _).mono ?_
  rintro e w' ⟨rfl, n1, rfl⟩
  go_wp2_with fail
  refine (shown_umul _).mono ?_
  rintro e w' ⟨rfl, rfl⟩
  go_wp2_with fail
  refine (shown_sdiv _).mono ?_
  rintro e w' ⟨rfl, n2, rfl⟩
  go_wp2_with fail
  refine (shown_fdiv _).mono ?_
  rintro e w' ⟨rfl, n3, rfl⟩
  go_wp2_with fail
  refine (shown_mul _).mono ?_
  rintro e w' ⟨rfl, rfl⟩
  go_wp2_with fail
  refine (shown_udiv _).mono ?_
  rintro e w' ⟨rfl, n4, rfl⟩
  go_wp2_with fail
  refine (shown_less1 _).mono ?_
  rintro e w' ⟨rfl, rfl⟩
  go_wp2_with fail
  refine (shown_less2 _).mono ?_
  rintro e w' ⟨rfl, rfl⟩
  go_wp2
  go_ret
  exact ⟨rfl, below_drewN hbel _⟩
end Go.Proofs.Ytkchnmilmepnfaa
