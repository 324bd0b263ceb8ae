/- The walks of layer 1 (cell), part B: quotients of pairs, by the program and by the document's answer. -/
import Derived.Test.YtkchnmilmepnfaaDiv64
import Derived.Test.YtkchnmilmepnfaaCellM
import Derived.Laws.Externs
namespace Go.Proofs.Ytkchnmilmepnfaa
open Go.RowKit

theorem cell_UDiv (lo hi d : Int) (w : World) :
    Calls Try.prog 28 #[.int .i64 lo, .int .i64 hi, .int .i64 d] w fun e w' => e = .returned (.tuple #[.int .i64 (udivS lo hi d).1, .int .i64 (udivS lo hi d).2.1, .int .i64 (udivS lo hi d).2.2]) ∧ ∃ n, w' = w.drewN n := by
  have b1 := U_lt lo
  have b2 := U_lt d
  by_cases h : d = 0
  · have E : udivS lo hi d = (0, 0, -10) := by simp [udivS, h]
    have H := Lib.hid E
    have t : (d == 0) = true := by simp [h]
    clear E h b1 b2
    go_enter Try.func28, Try.ntmps28
    go_wp2
    go_ret3
    exact ⟨ret3 (by rw [H.out]) (by rw [H.out]) (by rw [H.out]), drew0 w⟩
  · have t : (d == 0) = false := by simp [h]
    by_cases h2 : U d ≤ U hi
    · have E : udivS lo hi d = (0, 0, -11) := by simp [udivS, h, h2]
      have H := Lib.hid E
      have t2 : decide (U hi < U d) = false := by simp; omega
      clear E b1 b2
      go_enter Try.func28, Try.ntmps28
      go_wp2_with (go_at_call 29; refine (cell_ULess _ _ _).mono ?_; rintro e w' ⟨rfl, rfl⟩)
      go_ret3
      exact ⟨ret3 (by rw [H.out]) (by rw [H.out]) (by rw [H.out]), drew0 w⟩
    · have E : udivS lo hi d = (S (PU lo hi / U d), S (PU lo hi % U d), 0) := by simp [udivS, h, h2]
      have H := Lib.hid E
      have t2 : decide (U hi < U d) = true := by simp; omega
      have HB := Lib.hid b1
      have HB2 := Lib.hid b2
      have H2 := Lib.hid h2
      clear E b1 b2 h2
      go_enter Try.func28, Try.ntmps28
      go_wp2_with (go_at_call 29; refine (cell_ULess _ _ _).mono ?_; rintro e w' ⟨rfl, rfl⟩)
      rw [U_wrap hi, U_wrap lo, U_wrap d]
      refine (bits_Div64 (U hi) (U lo) (U d) _ (by have := H2.out; omega) HB2.out HB.out).mono ?_
      rintro e w' ⟨rfl, n, rfl⟩
      go_wp2
      go_ret3
      exact ⟨ret3 (by rw [H.out]; simp [S, PU]) (by rw [H.out]; simp [S, PU]) (by rw [H.out]), _, rfl⟩

end Go.Proofs.Ytkchnmilmepnfaa
