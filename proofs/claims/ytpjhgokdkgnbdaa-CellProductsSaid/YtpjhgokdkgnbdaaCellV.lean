/- The statements of layer 1 over cells alone, without the document's answer: their walks. -/
import Derived.Test.YtpjhgokdkgnbdaaCellW
import Derived.Test.YtpjhgokdkgnbdaaCellP
namespace Go.Proofs.Ytpjhgokdkgnbdaa
open Go.RowKit

/-- A contract at a result that is known by name. -/
theorem of_eq2 {f : FuncId} {args : Array Value} {w : World} {p r : Int × Int} {Q : World → Prop} (h : Calls Try.prog f args w fun e w' => e = .returned (.tuple #[.int .i64 p.1, .int .i64 p.2]) ∧ Q w') (e : p = r) :
    Calls Try.prog f args w fun e w' => e = .returned (.tuple #[.int .i64 r.1, .int .i64 r.2]) ∧ Q w' := by rw [e] at h; exact h
theorem of_eq3 {f : FuncId} {args : Array Value} {w : World} {p r : Int × Int × Int} {Q : World → Prop} (h : Calls Try.prog f args w fun e w' => e = .returned (.tuple #[.int .i64 p.1, .int .i64 p.2.1, .int .i64 p.2.2]) ∧ Q w') (e : p = r) :
    Calls Try.prog f args w fun e w' => e = .returned (.tuple #[.int .i64 r.1, .int .i64 r.2.1, .int .i64 r.2.2]) ∧ Q w' := by rw [e] at h; exact h

theorem walk_CellSigns (a b : Int) (w : World) (ha : Fit a) (hb : Fit b) :
    Calls Try.prog 22 #[.int .i64 a, .int .i64 b] w fun e w' => e = .returned (.bool true) ∧ Below w.heap.size w w' := by
  obtain ⟨H, hH⟩ : ∃ H, mulS a b = (wrap64 (a * b), H) := ⟨_, rfl⟩
  obtain ⟨Y, hY⟩ : ∃ Y, umulS a b = (wrap64 (a * b), Y) := ⟨(umulS a b).2, Prod.ext (umul_fst a b ha hb) rfl⟩
  have hpos : 0 ≤ a → 0 ≤ b → Y = H := by
    intro h1 h2
    have := umulS_pos a b ⟨h1, ha.2⟩ ⟨h2, hb.2⟩
    rw [hH, hY] at this
    exact congrArg Prod.snd this
  have m1 := fun w => of_eq2 (cell_Mul a b w ha hb) hH
  have m2 := fun w => of_eq2 (cell_Mul b a w hb ha) ((mulS_comm a b).trans hH)
  have m3 := fun w => of_eq2 (cell_Mul a 1 w ha (by omega)) (mulS_one a ha)
  have n1 := fun w => of_eq2 (cell_UMul a b w) hY
  have n2 := fun w => of_eq2 (cell_UMul b a w) ((umulS_comm a b).trans hY)
  have M1 := Lib.hid m1
  have M2 := Lib.hid m2
  have N1 := Lib.hid n1
  have N2 := Lib.hid n2
  clear hH hY m1 m2 n1 n2
  by_cases h1 : a < 0
  · rw [if_pos h1] at m3
    have M3 := Lib.hid m3
    clear m3 hpos
    go_enter Try.func22, Try.ntmps22
    go_wp2_with fail
    refine (cell_shown _).mono ?_
    rintro e w1 ⟨rfl, hbel⟩
    go_wp2_with fail
    refine (M1.out _).mono ?_
    rintro e w' ⟨rfl, rfl⟩
    go_wp2_with fail
    refine (N1.out _).mono ?_
    rintro e w' ⟨rfl, rfl⟩
    go_wp2_with fail
    refine (M2.out _).mono ?_
    rintro e w' ⟨rfl, rfl⟩
    go_wp2_with fail
    refine (N2.out _).mono ?_
    rintro e w' ⟨rfl, rfl⟩
    go_wp2_with fail
    refine (M3.out _).mono ?_
    rintro e w' ⟨rfl, rfl⟩
    go_wp2
    go_ret
    exact ⟨rfl, hbel⟩
  · rw [if_neg h1] at m3
    have M3 := Lib.hid m3
    clear m3
    by_cases h2 : b < 0
    · clear hpos
      go_enter Try.func22, Try.ntmps22
      go_wp2_with fail
      refine (cell_shown _).mono ?_
      rintro e w1 ⟨rfl, hbel⟩
      go_wp2_with fail
      refine (M1.out _).mono ?_
      rintro e w' ⟨rfl, rfl⟩
      go_wp2_with fail
      refine (N1.out _).mono ?_
      rintro e w' ⟨rfl, rfl⟩
      go_wp2_with fail
      refine (M2.out _).mono ?_
      rintro e w' ⟨rfl, rfl⟩
      go_wp2_with fail
      refine (N2.out _).mono ?_
      rintro e w' ⟨rfl, rfl⟩
      go_wp2_with fail
      refine (M3.out _).mono ?_
      rintro e w' ⟨rfl, rfl⟩
      go_wp2
      go_ret
      exact ⟨rfl, hbel⟩
    · obtain rfl := hpos (by omega) (by omega)
      clear hpos
      go_enter Try.func22, Try.ntmps22
      go_wp2_with fail
      refine (cell_shown _).mono ?_
      rintro e w1 ⟨rfl, hbel⟩
      go_wp2_with fail
      refine (M1.out _).mono ?_
      rintro e w' ⟨rfl, rfl⟩
      go_wp2_with fail
      refine (N1.out _).mono ?_
      rintro e w' ⟨rfl, rfl⟩
      go_wp2_with fail
      refine (M2.out _).mono ?_
      rintro e w' ⟨rfl, rfl⟩
      go_wp2_with fail
      refine (N2.out _).mono ?_
      rintro e w' ⟨rfl, rfl⟩
      go_wp2_with fail
      refine (M3.out _).mono ?_
      rintro e w' ⟨rfl, rfl⟩
      go_wp2
      go_ret
      exact ⟨rfl, hbel⟩

theorem walk_CellParts (a b : Int) (w : World) (ha : Fit a) (hb : Fit b) :
    Calls Try.prog 18 #[.int .i64 a, .int .i64 b] w fun e w' => e = .returned (.bool true) ∧ Below w.heap.size w w' := by
  by_cases h0 : b = 0
  · have d1 := fun w => of_eq3 (cell_Div a b w hb) (divS_zero a b h0)
    have D1 := Lib.hid d1
    have t : (b == 0) = true := by simp [h0]
    clear d1 h0
    go_enter Try.func18, Try.ntmps18
    go_wp2_with (first
      | (go_at_call 52; refine (cell_shown _).mono ?_; rintro e w1 ⟨rfl, hbel⟩)
      | (go_at_call 59; refine (D1.out _).mono ?_; rintro e w' ⟨rfl, n1, rfl⟩))
    go_ret
    exact ⟨rfl, below_drewN hbel _⟩
  · obtain ⟨q, r, hq, hr, hs⟩ := divS_parts a b ha h0
    have d1 := fun w => of_eq3 (cell_Div a b w hb) hq
    have D1 := Lib.hid d1
    have t : (b == 0) = false := by simp [h0]
    clear d1 h0 hq
    by_cases hz : r = 0
    · subst hz
      rw [Int.add_zero, wrap64_fit _ (wrap64_rng _)] at hr
      rcases hs with ⟨s1, s2, s3⟩ | ⟨s1, s2, s3⟩
      all_goals
        go_enter Try.func18, Try.ntmps18
        go_wp2_with (first
          | (go_at_call 52; refine (cell_shown _).mono ?_; rintro e w1 ⟨rfl, hbel⟩)
          | (go_at_call 59; refine (D1.out _).mono ?_; rintro e w' ⟨rfl, n1, rfl⟩))
        go_ret
        exact ⟨rfl, below_drewN hbel _⟩
    · have t2 : (r == 0) = false := by simp [hz]
      rcases hs with ⟨s1, s2, s3⟩ | ⟨s1, s2, s3⟩
      · have d3 : decide (r < 0) = false := by simp; omega
        have d4 : decide (b < 0) = false := by simp; omega
        go_enter Try.func18, Try.ntmps18
        go_wp2_with (first
          | (go_at_call 52; refine (cell_shown _).mono ?_; rintro e w1 ⟨rfl, hbel⟩)
          | (go_at_call 59; refine (D1.out _).mono ?_; rintro e w' ⟨rfl, n1, rfl⟩))
        go_ret
        exact ⟨rfl, below_drewN hbel _⟩
      · have d3 : decide (r < 0) = true := by simp; omega
        have d4 : decide (b < 0) = true := by simp; omega
        have d5 : decide (0 < b) = false := by simp; omega
        go_enter Try.func18, Try.ntmps18
        go_wp2_with (first
          | (go_at_call 52; refine (cell_shown _).mono ?_; rintro e w1 ⟨rfl, hbel⟩)
          | (go_at_call 59; refine (D1.out _).mono ?_; rintro e w' ⟨rfl, n1, rfl⟩))
        go_ret
        exact ⟨rfl, below_drewN hbel _⟩
end Go.Proofs.Ytpjhgokdkgnbdaa
