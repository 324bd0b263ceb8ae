/- The walks of layer 1 (cell), part A: products, quotients of one cell, what is below, by the program and by the document's answer. -/
import Derived.Test.YtkchnmilmepnfaaShelf
import Derived.Test.YtkchnmilmepnfaaCellL
import Derived.WalkKit
import Derived.Outline
import Derived.BigQuiet
import Derived.Deep.QuietTactic
import Derived.WalkLawsBesides
import Derived.Lib.Hide
namespace Go.Proofs.Ytkchnmilmepnfaa
open Go.RowKit

theorem ret1 {k : IntKind} {a b : Int} (h : a = b) : Ending.returned (.int k a) = Ending.returned (.int k b) := by rw [h]
theorem ret2 {k l : IntKind} {a b c d : Int} (h1 : a = c) (h2 : b = d) : Ending.returned (.tuple #[.int k a, .int l b]) = Ending.returned (.tuple #[.int k c, .int l d]) := by rw [h1, h2]
theorem ret3 {k l m : IntKind} {a b c d e f : Int} (h1 : a = d) (h2 : b = e) (h3 : c = f) : Ending.returned (.tuple #[.int k a, .int l b, .int m c]) = Ending.returned (.tuple #[.int k d, .int l e, .int m f]) := by rw [h1, h2, h3]
theorem drew0 (w : World) : ∃ n, w = w.drewN n := ⟨0, rfl⟩

/-- A cell's bounds. -/
abbrev Fit (a : Int) : Prop := -9223372036854775808 ≤ a ∧ a ≤ 9223372036854775807

theorem cell_ULess (a b : Int) (w : World) :
    Calls Try.prog 29 #[.int .i64 a, .int .i64 b] w fun e w' => e = .returned (.bool (decide (U a < U b))) ∧ w = w' := by
  go_enter Try.func29, Try.ntmps29
  go_wp2
  go_ret
  exact ⟨by simp [go_sem, U_wrap], rfl⟩

theorem cell_UMul (a b : Int) (w : World) :
    Calls Try.prog 24 #[.int .i64 a, .int .i64 b] w fun e w' => e = .returned (.tuple #[.int .i64 (umulS a b).1, .int .i64 (umulS a b).2]) ∧ w = w' := by
  have ha := U_lt a
  have hb := U_lt b
  go_enter Try.func24, Try.ntmps24
  go_wp2_with fail
  rw [U_wrap a, U_wrap b]
  refine (Try.bits_Mul64 (U a) (U b) ha hb _).mono ?_
  rintro e w' ⟨rfl, rfl⟩
  go_wp2
  go_ret2
  exact ⟨ret2 (by simp only [umulS, S, Int.natCast_emod, Int.natCast_mul]; rfl) (by simp only [umulS, S, Int.natCast_ediv, Int.natCast_mul]; rfl), rfl⟩

theorem cell_Mul (a b : Int) (w : World) (ha : Fit a) (hb : Fit b) :
    Calls Try.prog 27 #[.int .i64 a, .int .i64 b] w fun e w' => e = .returned (.tuple #[.int .i64 (mulS a b).1, .int .i64 (mulS a b).2]) ∧ w = w' := by
  have e1 := umul_fst a b ha hb
  have e2 := mul_hi a b ha hb
  by_cases h1 : a < 0 <;> by_cases h2 : b < 0
  · rw [if_pos h1, if_pos h2] at e2
    have H1 := Lib.hid e1
    have H2 := Lib.hid e2
    clear e1 e2
    go_enter Try.func27, Try.ntmps27
    go_wp2_with (go_at_call 24; refine (cell_UMul _ _ _).mono ?_; rintro e w' ⟨rfl, rfl⟩)
    go_ret2
    exact ⟨ret2 H1.out (by rw [← H2.out, wrap64_sub_l]; congr 1; omega), rfl⟩
  · rw [if_pos h1, if_neg h2] at e2
    have H1 := Lib.hid e1
    have H2 := Lib.hid e2
    clear e1 e2
    go_enter Try.func27, Try.ntmps27
    go_wp2_with (go_at_call 24; refine (cell_UMul _ _ _).mono ?_; rintro e w' ⟨rfl, rfl⟩)
    go_ret2
    exact ⟨ret2 H1.out (by rw [← H2.out, Int.add_zero]), rfl⟩
  · rw [if_neg h1, if_pos h2] at e2
    have H1 := Lib.hid e1
    have H2 := Lib.hid e2
    clear e1 e2
    go_enter Try.func27, Try.ntmps27
    go_wp2_with (go_at_call 24; refine (cell_UMul _ _ _).mono ?_; rintro e w' ⟨rfl, rfl⟩)
    go_ret2
    exact ⟨ret2 H1.out (by rw [← H2.out, Int.zero_add]), rfl⟩
  · rw [if_neg h1, if_neg h2] at e2
    have H1 := Lib.hid e1
    have H2 := Lib.hid e2
    clear e1 e2
    go_enter Try.func27, Try.ntmps27
    go_wp2_with (go_at_call 24; refine (cell_UMul _ _ _).mono ?_; rintro e w' ⟨rfl, rfl⟩)
    go_ret2
    exact ⟨ret2 H1.out (by rw [← H2.out, Int.add_zero, Int.sub_zero]; exact (wrap64_fit _ (S_rng _)).symm), rfl⟩

theorem cell_Div (a b : Int) (w : World) (hb2 : Fit b) :
    Calls Try.prog 23 #[.int .i64 a, .int .i64 b] w fun e w' => e = .returned (.tuple #[.int .i64 (divS a b).1, .int .i64 (divS a b).2.1, .int .i64 (divS a b).2.2]) ∧ ∃ n, w' = w.drewN n := by
  by_cases hb : b = 0
  · have HZ := Lib.hid (divS_zero a b hb)
    have hb' : (b == 0) = true := by simp [hb]
    clear hb
    go_enter Try.func23, Try.ntmps23
    go_wp2
    go_ret3
    exact ⟨ret3 (by rw [HZ.out]) (by rw [HZ.out]) (by rw [HZ.out]), drew0 w⟩
  · have hb' : (b == 0) = false := by simp [hb]
    go_enter Try.func23, Try.ntmps23
    go_wp2
    go_quiet (fail)
    go_wp2
    all_goals go_ret3
    · have h : a.tmod b = 0 := by assumption
      have e := divS_on hb (.inl h)
      exact ⟨ret3 (by rw [e]) (by rw [e, h]) (by rw [e]), _, rfl⟩
    · have h : (a.tmod b != 0) = true ∧ (!decide (a.tmod b < 0) == decide (b < 0)) = true := by assumption
      have e := divS_off hb hb2 (by simpa using h.1) (by simpa using h.2)
      exact ⟨ret3 (by rw [e]) (by rw [e]) (by rw [e]), _, rfl⟩
    · have h : (a.tmod b != 0) = false ∨ (!decide (a.tmod b < 0) == decide (b < 0)) = false := by assumption
      have e := divS_on (a := a) hb (by rcases h with h | h <;> simp at h <;> simp [h])
      exact ⟨ret3 (by rw [e]) (by rw [e]) (by rw [e]), _, rfl⟩

theorem cell_size (n : Int) (w : World) (hn : Fit n) :
    Calls Try.prog 48 #[.int .i64 n] w fun e w' => e = .returned (.int .u64 n.natAbs) ∧ w = w' := by
  by_cases h : n < 0
  · go_enter Try.func48, Try.ntmps48
    go_wp2
    go_ret
    exact ⟨ret1 (by rw [U_wrap n, IntKind.wrap_u64]; have := U_neg n h hn.1; omega), rfl⟩
  · go_enter Try.func48, Try.ntmps48
    go_wp2
    go_ret
    exact ⟨ret1 (by omega), rfl⟩

end Go.Proofs.Ytkchnmilmepnfaa
