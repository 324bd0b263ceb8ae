/- The statements of layer 1 on quotients of pairs, without the document's answer: their walks. Written by gen_cellu.py. -/
import Derived.Test.YtpjhgokdkgnbdaaCellV
namespace Go.Proofs.Ytpjhgokdkgnbdaa
open Go.RowKit

theorem walk_CellSides (lo hi d : Int) (w : World) (_h1 : Fit lo) (h2 : Fit hi) (h3 : Fit d) :
    Calls Try.prog 20 #[.int .i64 lo, .int .i64 hi, .int .i64 d] w fun e w' => e = .returned (.bool true) ∧ Below w.heap.size w w' := by
  clear _h1
  have s1 := fun r e w => of_eq3 (r := r) (cell_SDiv lo hi d w h2 h3) e
  have s2 := fun r e w => of_eq3 (r := r) (cell_FDiv lo hi d w h2 h3) e
  by_cases h0 : d = 0
  · have D1 := Lib.hid (s1 (0, 0, -10) (by simp [sdivS, h0]))
    have D2 := Lib.hid (s2 (0, 0, -10) (by simp [fdivS, h0]))
    have t : (d == 0) = true := by simp [h0]
    clear s1 s2 h0
    go_enter Try.func20, Try.ntmps20
    go_wp2_with (first
      | (go_at_call 52; refine (cell_shown _).mono ?_; rintro e w1 ⟨rfl, hbel⟩)
      | (go_at_call 66; refine (D1.out _).mono ?_; rintro e w' ⟨rfl, n1, rfl⟩)
      | (go_at_call 68; refine (D2.out _).mono ?_; rintro e w' ⟨rfl, n2, rfl⟩))
    go_ret
    exact ⟨rfl, below_drewN hbel _⟩
  have t : (d == 0) = false := by simp [h0]
  rcases fdiv_cases lo hi d h3 with ⟨e, he, e1, e2⟩ | ⟨_, q, r, e1, hq, hrl, hs1, hs2, _, e2⟩
  · obtain rfl := sdiv_ne lo hi d e h0 he e1
    have D1 := Lib.hid (s1 _ e1)
    have D2 := Lib.hid (s2 _ e2)
    clear s1 s2 h0 e1 e2 he
    go_enter Try.func20, Try.ntmps20
    go_wp2_with (first
      | (go_at_call 52; refine (cell_shown _).mono ?_; rintro e w1 ⟨rfl, hbel⟩)
      | (go_at_call 66; refine (D1.out _).mono ?_; rintro e w' ⟨rfl, n1, rfl⟩)
      | (go_at_call 68; refine (D2.out _).mono ?_; rintro e w' ⟨rfl, n2, rfl⟩))
    go_ret
    exact ⟨rfl, below_drewN hbel _⟩
  · have D1 := Lib.hid (s1 _ e1)
    rcases e2 with ⟨h4, e2⟩ | ⟨h4, h5, ⟨h6, e2⟩ | ⟨h6, e2, h7⟩⟩
    · have D2 := Lib.hid (s2 _ e2)
      clear s1 s2 h0 e1 e2 hs1 hs2 hrl
      by_cases hr : r = 0
      · have t1 : (r == 0) = true := by simp [hr]
        clear h4 hr
        go_enter Try.func20, Try.ntmps20
        go_wp2_with (first
          | (go_at_call 52; refine (cell_shown _).mono ?_; rintro e w1 ⟨rfl, hbel⟩)
          | (go_at_call 66; refine (D1.out _).mono ?_; rintro e w' ⟨rfl, n1, rfl⟩)
          | (go_at_call 68; refine (D2.out _).mono ?_; rintro e w' ⟨rfl, n2, rfl⟩))
        go_ret
        exact ⟨rfl, below_drewN hbel _⟩
      · have t1 : (r == 0) = false := by simp [hr]
        have h5 : decide (hi < 0) = decide (d < 0) := by rcases h4 with h4 | h4; exact absurd h4 hr; exact h4
        clear h4 hr
        by_cases a : hi < 0 <;> by_cases b : d < 0
        · have a' : decide (hi < 0) = true := by simp [a]
          have b' : decide (d < 0) = true := by simp [b]
          clear h5
          go_enter Try.func20, Try.ntmps20
          go_wp2_with (first
            | (go_at_call 52; refine (cell_shown _).mono ?_; rintro e w1 ⟨rfl, hbel⟩)
            | (go_at_call 66; refine (D1.out _).mono ?_; rintro e w' ⟨rfl, n1, rfl⟩)
            | (go_at_call 68; refine (D2.out _).mono ?_; rintro e w' ⟨rfl, n2, rfl⟩))
          go_ret
          exact ⟨rfl, below_drewN hbel _⟩
        · simp [a, b] at h5
        · simp [a, b] at h5
        · have a' : decide (hi < 0) = false := by simp; omega
          have b' : decide (d < 0) = false := by simp; omega
          clear h5
          go_enter Try.func20, Try.ntmps20
          go_wp2_with (first
            | (go_at_call 52; refine (cell_shown _).mono ?_; rintro e w1 ⟨rfl, hbel⟩)
            | (go_at_call 66; refine (D1.out _).mono ?_; rintro e w' ⟨rfl, n1, rfl⟩)
            | (go_at_call 68; refine (D2.out _).mono ?_; rintro e w' ⟨rfl, n2, rfl⟩))
          go_ret
          exact ⟨rfl, below_drewN hbel _⟩
    · have D2 := Lib.hid (s2 _ e2)
      have t1 : (r == 0) = false := by simp [h4]
      have t2 : (q == -9223372036854775808) = true := by simp [h6]
      clear s1 s2 h0 e1 e2 h6 hq hrl
      by_cases a : hi < 0 <;> by_cases b : d < 0
      · simp [a, b] at h5
      · have a' : decide (hi < 0) = true := by simp [a]
        have b' : decide (d < 0) = false := by simp; omega
        have c' : decide (r < 0) = true := by have : ¬ 0 < r := fun h => absurd (hs2 h) (by omega); simp; omega
        clear h5 hs1 hs2 h4
        go_enter Try.func20, Try.ntmps20
        go_wp2_with (first
          | (go_at_call 52; refine (cell_shown _).mono ?_; rintro e w1 ⟨rfl, hbel⟩)
          | (go_at_call 66; refine (D1.out _).mono ?_; rintro e w' ⟨rfl, n1, rfl⟩)
          | (go_at_call 68; refine (D2.out _).mono ?_; rintro e w' ⟨rfl, n2, rfl⟩))
        go_ret
        exact ⟨rfl, below_drewN hbel _⟩
      · have a' : decide (hi < 0) = false := by simp; omega
        have b' : decide (d < 0) = true := by simp [b]
        have c' : decide (r < 0) = false := by have : ¬ r < 0 := fun h => absurd (hs1 h) (by omega); simp; omega
        clear h5 hs1 hs2 h4
        go_enter Try.func20, Try.ntmps20
        go_wp2_with (first
          | (go_at_call 52; refine (cell_shown _).mono ?_; rintro e w1 ⟨rfl, hbel⟩)
          | (go_at_call 66; refine (D1.out _).mono ?_; rintro e w' ⟨rfl, n1, rfl⟩)
          | (go_at_call 68; refine (D2.out _).mono ?_; rintro e w' ⟨rfl, n2, rfl⟩))
        go_ret
        exact ⟨rfl, below_drewN hbel _⟩
      · simp [a, b] at h5
    · have D2 := Lib.hid (s2 _ e2)
      have t1 : (r == 0) = false := by simp [h4]
      have t2 : (q == -9223372036854775808) = false := by simp [h6]
      have hq1 : -9223372036854775807 ≤ q := by omega
      clear s1 s2 h0 e1 e2 h6 hrl
      by_cases a : hi < 0 <;> by_cases b : d < 0
      · simp [a, b] at h5
      · have a' : decide (hi < 0) = true := by simp [a]
        have b' : decide (d < 0) = false := by simp; omega
        have c' : decide (r < 0) = true := by have : ¬ 0 < r := fun h => absurd (hs2 h) (by omega); simp; omega
        clear h5 hs1 hs2 h4
        go_enter Try.func20, Try.ntmps20
        go_wp2_with (first
          | (go_at_call 52; refine (cell_shown _).mono ?_; rintro e w1 ⟨rfl, hbel⟩)
          | (go_at_call 66; refine (D1.out _).mono ?_; rintro e w' ⟨rfl, n1, rfl⟩)
          | (go_at_call 68; refine (D2.out _).mono ?_; rintro e w' ⟨rfl, n2, rfl⟩))
        go_ret
        exact ⟨rfl, below_drewN hbel _⟩
      · have a' : decide (hi < 0) = false := by simp; omega
        have b' : decide (d < 0) = true := by simp [b]
        have c' : decide (r < 0) = false := by have : ¬ r < 0 := fun h => absurd (hs1 h) (by omega); simp; omega
        clear h5 hs1 hs2 h4
        go_enter Try.func20, Try.ntmps20
        go_wp2_with (first
          | (go_at_call 52; refine (cell_shown _).mono ?_; rintro e w1 ⟨rfl, hbel⟩)
          | (go_at_call 66; refine (D1.out _).mono ?_; rintro e w' ⟨rfl, n1, rfl⟩)
          | (go_at_call 68; refine (D2.out _).mono ?_; rintro e w' ⟨rfl, n2, rfl⟩))
        go_ret
        exact ⟨rfl, below_drewN hbel _⟩
      · simp [a, b] at h5

theorem walk_CellOne (n d : Int) (w : World) (h1 : Fit n) (h2 : Fit d) :
    Calls Try.prog 21 #[.int .i64 n, .int .i64 d] w fun e w' => e = .returned (.bool true) ∧ Below w.heap.size w w' := by
  obtain ⟨hi, hhi, hfit⟩ : ∃ hi, (if n < 0 then (-1 : Int) else 0) = hi ∧ Fit hi := ⟨_, rfl, by split <;> decide⟩
  have s0 := fun r e w => of_eq3 (r := r) (cell_Div n d w h2) e
  have s1 := fun r e w => of_eq3 (r := r) (cell_FDiv n hi d w hfit h2) e
  have s2 := fun w => of_eq3 (r := (n, 0, 0)) (cell_SDiv n hi 1 w hfit (by omega)) (by rw [← hhi]; exact sdiv_one n h1)
  have s3 := fun w => of_eq3 (r := if n = -9223372036854775808 then (0, 0, -11) else (-n, 0, 0)) (cell_SDiv n hi (-1) w hfit (by omega)) (by rw [← hhi]; exact sdiv_neg n h1)
  have D2 := Lib.hid s2
  clear s2
  have sgn : (n < 0 ∧ hi = -1) ∨ (¬ n < 0 ∧ hi = 0) := by
    by_cases h : n < 0
    · rw [if_pos h] at hhi; exact .inl ⟨h, hhi.symm⟩
    · rw [if_neg h] at hhi; exact .inr ⟨h, hhi.symm⟩
  by_cases hm : n = -9223372036854775808
  · rw [if_pos hm] at s3
    have D3 := Lib.hid s3
    obtain rfl : hi = -1 := by omega
    have t3 : (n == -9223372036854775808) = true := by simp [hm]
    have t3' : (n != -9223372036854775808) = false := by simp [hm]
    by_cases hd : d = 0
    · have D0 := Lib.hid (s0 (0, 0, -10) (by simp [divS, hd]))
      have D1 := Lib.hid (s1 (0, 0, -10) (by simp [fdivS, hd]))
      have hn : n < 0 := by omega
      clear s0 s1 s3 hm hhi sgn hd hfit
      go_enter Try.func21, Try.ntmps21
      go_wp2_with fail
      refine (cell_shown _).mono ?_
      rintro e w1 ⟨rfl, hbel⟩
      go_wp2_with fail
      refine (D0.out _).mono ?_
      rintro e w' ⟨rfl, n1, rfl⟩
      go_wp2_with fail
      refine (D1.out _).mono ?_
      rintro e w' ⟨rfl, n2, rfl⟩
      go_wp2_with fail
      refine (D2.out _).mono ?_
      rintro e w' ⟨rfl, n3, rfl⟩
      go_wp2_with fail
      refine (D3.out _).mono ?_
      rintro e w' ⟨rfl, n4, rfl⟩
      go_wp2
      go_ret
      exact ⟨rfl, below_drewN hbel _⟩
    · by_cases hd1 : d = -1
      · have D0 := Lib.hid (s0 (-9223372036854775808, 0, 0) (by rw [hm, hd1]; exact div_least))
        have D1 := Lib.hid (s1 (0, 0, -11) (by rw [hm, hd1]; exact fdiv_least))
        have t4 : (d == -1) = true := by simp [hd1]
        have hn : n < 0 := by omega
        clear s0 s1 s3 hm hhi sgn hd hfit hd1
        go_enter Try.func21, Try.ntmps21
        go_wp2_with fail
        refine (cell_shown _).mono ?_
        rintro e w1 ⟨rfl, hbel⟩
        go_wp2_with fail
        refine (D0.out _).mono ?_
        rintro e w' ⟨rfl, n1, rfl⟩
        go_wp2_with fail
        refine (D1.out _).mono ?_
        rintro e w' ⟨rfl, n2, rfl⟩
        go_wp2_with fail
        refine (D2.out _).mono ?_
        rintro e w' ⟨rfl, n3, rfl⟩
        go_wp2_with fail
        refine (D3.out _).mono ?_
        rintro e w' ⟨rfl, n4, rfl⟩
        go_wp2
        go_ret
        exact ⟨rfl, below_drewN hbel _⟩
      · obtain ⟨q, r, hqr⟩ : ∃ q r, divS n d = (q, r, 0) := ⟨wrap64 (n.fdiv d), n.fmod d, by simp only [divS, if_neg hd]⟩
        have D0 := Lib.hid (s0 (q, r, 0) hqr)
        have D1 := Lib.hid (s1 (q, r, 0) (by rw [← hqr, ← hhi]; exact fdiv_one n d h1 hd (by omega)))
        have t4 : (d == -1) = false := by simp [hd1]
        have hn : n < 0 := by omega
        clear s0 s1 s3 hm hhi sgn hd hfit hd1 hqr
        go_enter Try.func21, Try.ntmps21
        go_wp2_with fail
        refine (cell_shown _).mono ?_
        rintro e w1 ⟨rfl, hbel⟩
        go_wp2_with fail
        refine (D0.out _).mono ?_
        rintro e w' ⟨rfl, n1, rfl⟩
        go_wp2_with fail
        refine (D1.out _).mono ?_
        rintro e w' ⟨rfl, n2, rfl⟩
        go_wp2_with fail
        refine (D2.out _).mono ?_
        rintro e w' ⟨rfl, n3, rfl⟩
        go_wp2_with fail
        refine (D3.out _).mono ?_
        rintro e w' ⟨rfl, n4, rfl⟩
        go_wp2
        go_ret
        exact ⟨rfl, below_drewN hbel _⟩
  · rw [if_neg hm] at s3
    have D3 := Lib.hid s3
    have t3 : (n == -9223372036854775808) = false := by simp [hm]
    have t3' : (n != -9223372036854775808) = true := by simp [hm]
    have hn1 : -9223372036854775807 ≤ n := by omega
    by_cases hd : d = 0
    · have D0 := Lib.hid (s0 (0, 0, -10) (by simp [divS, hd]))
      have D1 := Lib.hid (s1 (0, 0, -10) (by simp [fdivS, hd]))
      clear s0 s1 s3 hm hhi hd hfit
      rcases sgn with ⟨hn, rfl⟩ | ⟨hn, rfl⟩
      all_goals
        go_enter Try.func21, Try.ntmps21
        go_wp2_with fail
        refine (cell_shown _).mono ?_
        rintro e w1 ⟨rfl, hbel⟩
        go_wp2_with fail
        refine (D0.out _).mono ?_
        rintro e w' ⟨rfl, n1, rfl⟩
        go_wp2_with fail
        refine (D1.out _).mono ?_
        rintro e w' ⟨rfl, n2, rfl⟩
        go_wp2_with fail
        refine (D2.out _).mono ?_
        rintro e w' ⟨rfl, n3, rfl⟩
        go_wp2_with fail
        refine (D3.out _).mono ?_
        rintro e w' ⟨rfl, n4, rfl⟩
        go_wp2
        go_ret
        exact ⟨rfl, below_drewN hbel _⟩
    · obtain ⟨q, r, hqr⟩ : ∃ q r, divS n d = (q, r, 0) := ⟨wrap64 (n.fdiv d), n.fmod d, by simp only [divS, if_neg hd]⟩
      have D0 := Lib.hid (s0 (q, r, 0) hqr)
      have D1 := Lib.hid (s1 (q, r, 0) (by rw [← hqr, ← hhi]; exact fdiv_one n d h1 hd (by omega)))
      clear s0 s1 s3 hm hhi hd hfit hqr
      rcases sgn with ⟨hn, rfl⟩ | ⟨hn, rfl⟩
      all_goals
        go_enter Try.func21, Try.ntmps21
        go_wp2_with fail
        refine (cell_shown _).mono ?_
        rintro e w1 ⟨rfl, hbel⟩
        go_wp2_with fail
        refine (D0.out _).mono ?_
        rintro e w' ⟨rfl, n1, rfl⟩
        go_wp2_with fail
        refine (D1.out _).mono ?_
        rintro e w' ⟨rfl, n2, rfl⟩
        go_wp2_with fail
        refine (D2.out _).mono ?_
        rintro e w' ⟨rfl, n3, rfl⟩
        go_wp2_with fail
        refine (D3.out _).mono ?_
        rintro e w' ⟨rfl, n4, rfl⟩
        go_wp2
        go_ret
        exact ⟨rfl, below_drewN hbel _⟩

theorem less_of (a b : Int) (f : Bool) (h : decide (U a < U b) = f) (w : World) :
    Calls Try.prog 57 #[.int .i64 a, .int .i64 b] w fun e w' => e = .returned (.bool f) ∧ w = w' := by
  rw [← h]; exact cell_ULess a b w

theorem walk_CellProducts (a b r : Int) (w : World) (ha : Fit a) (hb : Fit b) (hr : Fit r) :
    Calls Try.prog 19 #[.int .i64 a, .int .i64 b, .int .i64 r] w fun e w' => e = .returned (.bool true) ∧ Below w.heap.size w w' := by
  by_cases h0 : b = 0
  · subst h0
    have M := Lib.hid (fun w => of_eq2 (cell_Mul a 0 w ha hb) (mulS_zero a))
    have N := Lib.hid (fun w => of_eq2 (cell_UMul a 0 w) (umulS_zero a))
    go_enter Try.func19, Try.ntmps19
    go_wp2_with (first
      | (go_at_call 52; refine (cell_shown _).mono ?_; rintro e w1 ⟨rfl, hbel⟩)
      | (go_at_call 62; refine (M.out _).mono ?_; rintro e w' ⟨rfl, rfl⟩)
      | (go_at_call 61; refine (N.out _).mono ?_; rintro e w' ⟨rfl, rfl⟩))
    go_ret
    exact ⟨rfl, hbel⟩
  have t : (b == 0) = false := by simp [h0]
  obtain ⟨hf1, hf2⟩ := mulS_fit a b ha hb
  have e1 := sdiv_mul a b ha h0
  have e2 := fdiv_mul a b ha h0
  obtain ⟨lo, hi, hm⟩ : ∃ lo hi, mulS a b = (lo, hi) := ⟨_, _, rfl⟩
  obtain ⟨x, y, hu⟩ : ∃ x y, umulS a b = (x, y) := ⟨_, _, rfl⟩
  rw [hm] at e1 e2 hf1 hf2
  have hx : Fit x := by have h := S_rng (U a * U b % 18446744073709551616); have e : (umulS a b).1 = x := by rw [hu]
                        rw [← e]; exact h
  have M := Lib.hid (fun w => of_eq2 (cell_Mul a b w ha hb) hm)
  have N := Lib.hid (fun w => of_eq2 (cell_UMul a b w) hu)
  have D1 := Lib.hid (fun w => of_eq3 (cell_SDiv lo hi b w hf2 hb) e1)
  have D2 := Lib.hid (fun w => of_eq3 (cell_FDiv lo hi b w hf2 hb) e2)
  clear e1 e2 hf1 hf2 hm
  obtain ⟨f, hf⟩ : ∃ f, decide (U r < U b) = f := ⟨_, rfl⟩
  have L1 := Lib.hid (less_of r b f hf)
  cases f
  · have hb0 := udiv_back a b 0 x y x ha hb (by omega) h0 hu (by rw [Int.add_zero]; exact wrap64_fit x hx) (U_ne hb h0)
    have L2 := Lib.hid (less_of x x false (by simp))
    have D3 := Lib.hid (fun w => of_eq3 (cell_UDiv x y b w) (hb0.2 (by omega)))
    clear hb0 hf hu h0
    go_enter Try.func19, Try.ntmps19
    go_wp2_with fail
    refine (cell_shown _).mono ?_
    rintro e w1 ⟨rfl, hbel⟩
    go_wp2_with fail
    refine (M.out _).mono ?_
    rintro e w' ⟨rfl, rfl⟩
    go_wp2_with fail
    refine (N.out _).mono ?_
    rintro e w' ⟨rfl, rfl⟩
    go_wp2_with fail
    refine (D1.out _).mono ?_
    rintro e w' ⟨rfl, n1, rfl⟩
    go_wp2_with fail
    refine (D2.out _).mono ?_
    rintro e w' ⟨rfl, n2, rfl⟩
    go_wp2_with fail
    refine (L1.out _).mono ?_
    rintro e w' ⟨rfl, rfl⟩
    go_wp2_with fail
    refine (L2.out _).mono ?_
    rintro e w' ⟨rfl, rfl⟩
    go_wp2_with fail
    refine (D3.out _).mono ?_
    rintro e w' ⟨rfl, n3, rfl⟩
    go_wp2
    go_ret
    exact ⟨rfl, below_drewN hbel _⟩
  · have hlt : U r < U b := by simpa using hf
    obtain ⟨l, hl⟩ : ∃ l, wrap64 (x + r) = l := ⟨_, rfl⟩
    have hb0 := udiv_back a b r x y l ha hb hr h0 hu hl hlt
    by_cases hc : U l < U x
    · have L2 := Lib.hid (less_of l x true (by simp [hc]))
      have D3 := Lib.hid (fun w => of_eq3 (cell_UDiv l (wrap64 (y + 1)) b w) (hb0.1 hc))
      clear hb0 hf hu h0 hlt hc hx hr
      go_enter Try.func19, Try.ntmps19
      go_wp2_with fail
      refine (cell_shown _).mono ?_
      rintro e w1 ⟨rfl, hbel⟩
      go_wp2_with fail
      refine (M.out _).mono ?_
      rintro e w' ⟨rfl, rfl⟩
      go_wp2_with fail
      refine (N.out _).mono ?_
      rintro e w' ⟨rfl, rfl⟩
      go_wp2_with fail
      refine (D1.out _).mono ?_
      rintro e w' ⟨rfl, n1, rfl⟩
      go_wp2_with fail
      refine (D2.out _).mono ?_
      rintro e w' ⟨rfl, n2, rfl⟩
      go_wp2_with fail
      refine (L1.out _).mono ?_
      rintro e w' ⟨rfl, rfl⟩
      go_wp2_with fail
      refine (L2.out _).mono ?_
      rintro e w' ⟨rfl, rfl⟩
      go_wp2_with fail
      refine (D3.out _).mono ?_
      rintro e w' ⟨rfl, n3, rfl⟩
      go_wp2
      go_ret
      exact ⟨rfl, below_drewN hbel _⟩
    · have L2 := Lib.hid (less_of l x false (by simp [hc]))
      have D3 := Lib.hid (fun w => of_eq3 (cell_UDiv l y b w) (hb0.2 hc))
      clear hb0 hf hu h0 hlt hc hx hr
      go_enter Try.func19, Try.ntmps19
      go_wp2_with fail
      refine (cell_shown _).mono ?_
      rintro e w1 ⟨rfl, hbel⟩
      go_wp2_with fail
      refine (M.out _).mono ?_
      rintro e w' ⟨rfl, rfl⟩
      go_wp2_with fail
      refine (N.out _).mono ?_
      rintro e w' ⟨rfl, rfl⟩
      go_wp2_with fail
      refine (D1.out _).mono ?_
      rintro e w' ⟨rfl, n1, rfl⟩
      go_wp2_with fail
      refine (D2.out _).mono ?_
      rintro e w' ⟨rfl, n2, rfl⟩
      go_wp2_with fail
      refine (L1.out _).mono ?_
      rintro e w' ⟨rfl, rfl⟩
      go_wp2_with fail
      refine (L2.out _).mono ?_
      rintro e w' ⟨rfl, rfl⟩
      go_wp2_with fail
      refine (D3.out _).mono ?_
      rintro e w' ⟨rfl, n3, rfl⟩
      go_wp2
      go_ret
      exact ⟨rfl, below_drewN hbel _⟩
end Go.Proofs.Ytpjhgokdkgnbdaa
