/- The statements of layer 1 over cells alone: their walks. -/
import Derived.Test.YtpjhgokdkgnbdaaCellG
namespace Go.Proofs.Ytpjhgokdkgnbdaa
open Go.RowKit

theorem fit_of_wf {n : Int} (h : (Lit.int .i64 n).wf = true) : Fit n := by
  have := h; simp [Lit.wf, IntKind.min, IntKind.max, IntKind.bits, IntKind.signed] at this; omega

theorem fitS {x : Int} (h : -9223372036854775808 ≤ x ∧ x ≤ 9223372036854775807) : wrap64 x = x := wrap64_fit x h

theorem walk_CellReckons (a b : Int) (w : World) (ha : Fit a) (hb : Fit b) :
    Calls Try.prog 15 #[.int .i64 a, .int .i64 b] w fun e w' => e = .returned (.bool true) ∧ Below w.heap.size w w' := by
  go_enter Try.func15, Try.ntmps15
  go_wp2_with (first
    | (go_at_call 52; refine (cell_shown _).mono ?_; rintro e w1 ⟨rfl, hbel⟩)
    | (go_at_call 59; refine (cell_Div a b _ hb).mono ?_; rintro e w' ⟨rfl, n1, rfl⟩)
    | (go_at_call 60; refine (ref_Div a b _ ha hb).mono ?_; rintro e w' ⟨rfl, rfl⟩)
    | (go_at_call 61; refine (cell_UMul a b _).mono ?_; rintro e w' ⟨rfl, rfl⟩)
    | (go_at_call 43; refine (ref_UMul a b _).mono ?_; rintro e w' ⟨rfl, n2, rfl⟩)
    | (go_at_call 62; refine (cell_Mul a b _ ha hb).mono ?_; rintro e w' ⟨rfl, rfl⟩)
    | (go_at_call 63; refine (ref_Mul a b _ ha hb).mono ?_; rintro e w' ⟨rfl, n3, rfl⟩))
  go_ret
  exact ⟨rfl, below_drewN hbel _⟩

theorem walk_CellDivides (lo hi d : Int) (w : World) (_h1 : Fit lo) (h2 : Fit hi) (h3 : Fit d) :
    Calls Try.prog 16 #[.int .i64 lo, .int .i64 hi, .int .i64 d] w fun e w' => e = .returned (.bool true) ∧ Below w.heap.size w w' := by

  go_enter Try.func16, Try.ntmps16
  go_wp2_with (first
    | (go_at_call 52; refine (cell_shown _).mono ?_; rintro e w1 ⟨rfl, hbel⟩)
    | (go_at_call 64; refine (cell_UDiv lo hi d _).mono ?_; rintro e w' ⟨rfl, n1, rfl⟩)
    | (go_at_call 65; refine (ref_UDiv lo hi d _).mono ?_; rintro e w' ⟨rfl, rfl⟩)
    | (go_at_call 66; refine (cell_SDiv lo hi d _ h2 h3).mono ?_; rintro e w' ⟨rfl, n2, rfl⟩)
    | (go_at_call 67; refine (ref_SDiv lo hi d _ h2 h3).mono ?_; rintro e w' ⟨rfl, rfl⟩)
    | (go_at_call 68; refine (cell_FDiv lo hi d _ h2 h3).mono ?_; rintro e w' ⟨rfl, n3, rfl⟩)
    | (go_at_call 69; refine (ref_FDiv lo hi d _ h2 h3).mono ?_; rintro e w' ⟨rfl, rfl⟩))
  go_ret
  exact ⟨rfl, below_drewN hbel _⟩
end Go.Proofs.Ytpjhgokdkgnbdaa
