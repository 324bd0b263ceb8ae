/- The walks of layer 1 (cell), part D: the document's products and quotients with a sign. -/
import Derived.Test.YtpjhgokdkgnbdaaCellC
namespace Go.Proofs.Ytpjhgokdkgnbdaa
open Go.RowKit

theorem turned_PS (lo hi : Int) (w : World) (h : -9223372036854775808 ≤ hi ∧ hi < 0) :
    Calls Try.prog 82 #[.int .u64 (U lo), .int .u64 (U hi)] w fun e w' => e = .returned (.tuple #[.int .u64 ((PS lo hi).natAbs % 18446744073709551616 : Nat), .int .u64 ((PS lo hi).natAbs / 18446744073709551616 : Nat)]) ∧ w = w' := by
  obtain ⟨e1, e2⟩ := PS_turn lo hi h
  have := ref_turned (U lo) (U hi) w (U_lt lo)
  rw [e1, e2] at this
  exact this

theorem ref_sized (lo hi d : Int) (w : World) (hh : Fit hi) (hd : Fit d) :
    Calls Try.prog 88 #[.int .i64 lo, .int .i64 hi, .int .i64 d] w fun e w' =>
      e = (if (PS lo hi).natAbs / 18446744073709551616 < d.natAbs then .returned (.tuple #[.int .u64 ((PS lo hi).natAbs / d.natAbs : Nat), .int .u64 ((PS lo hi).natAbs % d.natAbs : Nat), .bool true])
        else .returned (.tuple #[.int .u64 0, .int .u64 0, .bool false])) ∧ w = w' := by
  have u1 := U_wrap hi
  have u3 := U_wrap lo
  have hpos := PS_size lo hi
  have hUp : 0 ≤ hi → U hi = hi.toNat := fun h => U_of hi h hh.2
  have htn := fun w h => turned_PS lo hi w h
  have b1 := U_lt lo
  generalize (PS lo hi).natAbs = A at *
  obtain ⟨x, hx⟩ : ∃ x, x = A % 18446744073709551616 := ⟨_, rfl⟩
  obtain ⟨y, hy⟩ : ∃ y, y = A / 18446744073709551616 := ⟨_, rfl⟩
  have hAe : A = y * 18446744073709551616 + x := by omega
  have hxl : x < 18446744073709551616 := by omega
  rw [← hx, ← hy] at htn
  rw [← hy]
  have hxy : 0 ≤ hi → U lo = x ∧ U hi = y := by
    intro h
    have e := hpos h
    have := hUp h
    omega
  have HXY := Lib.hid hxy
  have HT := Lib.hid htn
  have HS := Lib.hid hAe
  have HX := Lib.hid hxl
  clear hx hy hAe hxy htn hpos hUp b1 hxl
  by_cases hn : hi < 0
  · by_cases h2 : d.natAbs ≤ y
    · rw [if_neg (by omega)]
      go_enter Try.func88, Try.ntmps88
      go_wp2_with (first | (go_at_call 82; refine (HT.out _ ⟨hh.1, hn⟩).mono ?_; rintro e w' ⟨rfl, rfl⟩) | (go_at_call 81; refine (ref_size d _ hd).mono ?_; rintro e w' ⟨rfl, rfl⟩))
      go_ret3
      exact ⟨rfl, rfl⟩
    · rw [if_pos (by omega)]
      have h3 : y < d.natAbs := by omega
      go_enter Try.func88, Try.ntmps88
      go_wp2_with (first | (go_at_call 82; refine (HT.out _ ⟨hh.1, hn⟩).mono ?_; rintro e w' ⟨rfl, rfl⟩) | (go_at_call 81; refine (ref_size d _ hd).mono ?_; rintro e w' ⟨rfl, rfl⟩) | (go_at_call 84; refine (ref_udiv x y d.natAbs _ h3 (by omega) HX.out).mono ?_; rintro e w' ⟨rfl, rfl⟩))
      go_ret3
      exact ⟨by rw [HS.out]; simp [go_sem], rfl⟩
  · obtain ⟨e1, e2⟩ := HXY.out (by omega)
    rw [e1] at u3
    rw [e2] at u1
    clear e1 e2
    by_cases h2 : d.natAbs ≤ y
    · rw [if_neg (by omega)]
      go_enter Try.func88, Try.ntmps88
      go_wp2_with (first | (go_at_call 81; refine (ref_size d _ hd).mono ?_; rintro e w' ⟨rfl, rfl⟩))
      go_ret3
      exact ⟨rfl, rfl⟩
    · rw [if_pos (by omega)]
      have h3 : y < d.natAbs := by omega
      go_enter Try.func88, Try.ntmps88
      go_wp2_with (first | (go_at_call 81; refine (ref_size d _ hd).mono ?_; rintro e w' ⟨rfl, rfl⟩) | (go_at_call 84; refine (ref_udiv x y d.natAbs _ h3 (by omega) HX.out).mono ?_; rintro e w' ⟨rfl, rfl⟩))
      go_ret3
      exact ⟨by rw [HS.out]; simp [go_sem], rfl⟩

theorem ref_Mul (a b : Int) (w : World) (ha : Fit a) (hb : Fit b) :
    Calls Try.prog 63 #[.int .i64 a, .int .i64 b] w fun e w' => e = .returned (.tuple #[.int .i64 (mulS a b).1, .int .i64 (mulS a b).2]) ∧ ∃ n, w' = w.drewN n := by
  have hp := prod_rng a b ha hb
  have hab : (a.natAbs * b.natAbs : Nat) = (a * b).natAbs := (Int.natAbs_mul a b).symm
  have hc := fun w => ref_umul a.natAbs b.natAbs w (by omega) (by omega)
  rw [hab] at hc
  have hsgn : (decide (a < 0) != decide (b < 0)) = true → a * b ≤ 0 := by
    intro h
    by_cases h1 : a < 0 <;> by_cases h2 : b < 0 <;> simp [h1, h2] at h
    · exact Int.mul_nonpos_of_nonpos_of_nonneg (by omega) (by omega)
    · exact Int.mul_nonpos_of_nonneg_of_nonpos (by omega) (by omega)
  have hsgn2 : (decide (a < 0) != decide (b < 0)) = false → 0 ≤ a * b := by
    intro h
    by_cases h1 : a < 0 <;> by_cases h2 : b < 0 <;> simp [h1, h2] at h
    · exact Int.mul_nonneg_of_nonpos_of_nonpos (by omega) (by omega)
    · exact Int.mul_nonneg (by omega) (by omega)
  have hm : mulS a b = (wrap64 (a * b), (a * b) / 18446744073709551616) := rfl
  generalize a * b = P at *
  have ht := fun w => ref_turned (P.natAbs % 18446744073709551616) (P.natAbs / 18446744073709551616) w (Nat.mod_lt _ (by decide))
  obtain ⟨lo, hlo⟩ : ∃ l, l = P.natAbs % 18446744073709551616 := ⟨_, rfl⟩
  obtain ⟨hi, hhi⟩ : ∃ l, l = P.natAbs / 18446744073709551616 := ⟨_, rfl⟩
  have hPe : P.natAbs = hi * 18446744073709551616 + lo := by omega
  have hll : lo < 18446744073709551616 := by omega
  have hhl : hi ≤ 4611686018427387904 := by omega
  rw [← hlo, ← hhi] at ht hc
  have hmod : ∀ x : Int, wrap64 (x % 18446744073709551616) = wrap64 x := by intro x; unfold wrap64; omega
  have HM := Lib.hid hm
  have HC := Lib.hid hc
  have fin1 : 0 ≤ P → Hid (wrap64 (lo : Int) = wrap64 P ∧ wrap64 (hi : Int) = P / 18446744073709551616) := by
    intro h0
    have e0 : P = (hi : Int) * 18446744073709551616 + lo := by omega
    have e2 : P / 18446744073709551616 = (hi : Int) := by omega
    exact ⟨by rw [e0]; unfold wrap64; omega, by rw [e2, wrap64_fit _ (by omega)]⟩
  have fin2 : P ≤ 0 → ∃ x y : Int, Hid (∀ w, Calls Try.prog 82 #[.int .u64 lo, .int .u64 hi] w fun e w' => e = .returned (.tuple #[.int .u64 x, .int .u64 y]) ∧ w = w') ∧ Hid (wrap64 x = wrap64 P ∧ wrap64 y = P / 18446744073709551616) := by
    intro h0
    have e0 : -((hi : Int) * 18446744073709551616 + lo) = P := by omega
    rw [e0] at ht
    refine ⟨_, _, ht, hmod _, ?_⟩
    rw [hmod, wrap64_fit _ (by omega)]
  clear hm hc ht hmod hPe hll hhl hlo hhi hp hab
  by_cases h1 : a < 0 <;> by_cases h2 : b < 0
  · have E := fin1 (hsgn2 (by simp [h1, h2]))
    clear fin1 fin2 hsgn hsgn2
    go_enter Try.func63, Try.ntmps63
    go_wp2_with fail
    refine (ref_size a _ ha).mono ?_
    rintro e w' ⟨rfl, rfl⟩
    go_wp2_with fail
    refine (ref_size b _ hb).mono ?_
    rintro e w' ⟨rfl, rfl⟩
    go_wp2_with (go_at_call 74; refine (HC.out _).mono ?_; rintro e w' ⟨rfl, n, rfl⟩)
    go_ret2
    exact ⟨ret2 (by rw [HM.out]; exact E.out.1) (by rw [HM.out]; exact E.out.2), _, rfl⟩
  · obtain ⟨x, y, HT, E⟩ := fin2 (hsgn (by simp [h1, h2]))
    clear fin1 fin2 hsgn hsgn2
    have d1 : decide (b < 0) = false := by simp; omega
    go_enter Try.func63, Try.ntmps63
    go_wp2_with fail
    refine (ref_size a _ ha).mono ?_
    rintro e w' ⟨rfl, rfl⟩
    go_wp2_with fail
    refine (ref_size b _ hb).mono ?_
    rintro e w' ⟨rfl, rfl⟩
    go_wp2_with (first | (go_at_call 74; refine (HC.out _).mono ?_; rintro e w' ⟨rfl, n, rfl⟩) | (go_at_call 82; refine (HT.out _).mono ?_; rintro e w' ⟨rfl, rfl⟩))
    go_ret2
    exact ⟨ret2 (by rw [HM.out]; exact E.out.1) (by rw [HM.out]; exact E.out.2), _, rfl⟩
  · obtain ⟨x, y, HT, E⟩ := fin2 (hsgn (by simp [h1, h2]))
    clear fin1 fin2 hsgn hsgn2
    have d1 : decide (a < 0) = false := by simp; omega
    go_enter Try.func63, Try.ntmps63
    go_wp2_with fail
    refine (ref_size a _ ha).mono ?_
    rintro e w' ⟨rfl, rfl⟩
    go_wp2_with fail
    refine (ref_size b _ hb).mono ?_
    rintro e w' ⟨rfl, rfl⟩
    go_wp2_with (first | (go_at_call 74; refine (HC.out _).mono ?_; rintro e w' ⟨rfl, n, rfl⟩) | (go_at_call 82; refine (HT.out _).mono ?_; rintro e w' ⟨rfl, rfl⟩))
    go_ret2
    exact ⟨ret2 (by rw [HM.out]; exact E.out.1) (by rw [HM.out]; exact E.out.2), _, rfl⟩
  · have E := fin1 (hsgn2 (by simp [h1, h2]))
    clear fin1 fin2 hsgn hsgn2
    have d1 : decide (b < 0) = false := by simp; omega
    have d2 : decide (a < 0) = false := by simp; omega
    go_enter Try.func63, Try.ntmps63
    go_wp2_with fail
    refine (ref_size a _ ha).mono ?_
    rintro e w' ⟨rfl, rfl⟩
    go_wp2_with fail
    refine (ref_size b _ hb).mono ?_
    rintro e w' ⟨rfl, rfl⟩
    go_wp2_with (go_at_call 74; refine (HC.out _).mono ?_; rintro e w' ⟨rfl, n, rfl⟩)
    go_ret2
    exact ⟨ret2 (by rw [HM.out]; exact E.out.1) (by rw [HM.out]; exact E.out.2), _, rfl⟩

theorem ref_SDiv (lo hi d : Int) (w : World) (hh : Fit hi) (hd : Fit d) :
    Calls Try.prog 67 #[.int .i64 lo, .int .i64 hi, .int .i64 d] w fun e w' => e = .returned (.tuple #[.int .i64 (sdivS lo hi d).1, .int .i64 (sdivS lo hi d).2.1, .int .i64 (sdivS lo hi d).2.2]) ∧ w = w' := by
  by_cases hz : d = 0
  · have E := Lib.hid (show sdivS lo hi d = (0, 0, -10) by simp [sdivS, hz])
    have t : (d == 0) = true := by simp [hz]
    clear hz
    go_enter Try.func67, Try.ntmps67
    go_wp2
    go_ret3
    exact ⟨ret3 (by rw [E.out]) (by rw [E.out]) (by rw [E.out]), rfl⟩
  have t : (d == 0) = false := by simp [hz]
  obtain ⟨q, hq⟩ : ∃ q, q = (PS lo hi).natAbs / d.natAbs := ⟨_, rfl⟩
  obtain ⟨r, hr⟩ : ∃ r, r = (PS lo hi).natAbs % d.natAbs := ⟨_, rfl⟩
  have hs := sdivS_of lo hi d hz q r hq hr
  have hrl : r < d.natAbs := by rw [hr]; exact Nat.mod_lt _ (by omega)
  have hc := fun w => ref_sized lo hi d w hh hd
  rw [← hq, ← hr] at hc
  by_cases hy : (PS lo hi).natAbs / 18446744073709551616 < d.natAbs
  · have hql : q < 18446744073709551616 := by rw [hq]; exact quo_lt lo hi d hy
    simp only [if_pos hy] at hc
    have HC := Lib.hid hc
    clear hc hq hr hy hz
    have w1 : wrap64 (IntKind.u64.wrap (-(q : Int))) = wrap64 (-(q : Int)) := by rw [IntKind.wrap_u64]; unfold wrap64; omega
    have w2 : wrap64 (IntKind.u64.wrap (-(r : Int))) = wrap64 (-(r : Int)) := by rw [IntKind.wrap_u64]; unfold wrap64; omega
    have w3 : hi < 0 → wrap64 (-(r : Int)) = -(r : Int) := fun _ => wrap64_fit _ (by omega)
    have w4 : ¬ hi < 0 → wrap64 (r : Int) = (r : Int) := fun _ => by
      by_cases hx : r = 9223372036854775808
      · omega
      · exact wrap64_fit _ (by omega)
    have fin : Hid ((hi < 0 → wrap64 (IntKind.u64.wrap (-(r : Int))) = -(r : Int)) ∧ (0 ≤ hi → wrap64 (r : Int) = (r : Int)) ∧
        (q ≤ 9223372036854775808 → wrap64 (IntKind.u64.wrap (-(q : Int))) = -(q : Int)) ∧ (q < 9223372036854775808 → wrap64 (q : Int) = (q : Int))) :=
      ⟨fun h => by rw [w2]; exact w3 h, fun h => w4 (by omega), fun h => by rw [w1]; exact wrap64_fit _ (by omega), fun h => wrap64_fit _ (by omega)⟩
    clear w1 w2 w3 w4 hql hrl
    by_cases hn : hi < 0 <;> by_cases hdn : d < 0
    · have E : sdivS lo hi d = if q < 9223372036854775808 then ((q : Int), -(r : Int), 0) else (0, 0, -11) := by
        rw [hs]; simp [hn, hdn]
      have HE := Lib.hid E
      clear E hs
      by_cases hf : (q : Int) ≤ 9223372036854775807
      · go_enter Try.func67, Try.ntmps67
        go_wp2_with (go_at_call 88; refine (HC.out _).mono ?_; rintro e w' ⟨rfl, rfl⟩)
        go_ret3
        exact ⟨ret3 (by rw [HE.out, if_pos (by omega)]) (by rw [HE.out, if_pos (by omega)]; exact fin.out.1 hn) (by rw [HE.out, if_pos (by omega)]), rfl⟩
      · go_enter Try.func67, Try.ntmps67
        go_wp2_with (go_at_call 88; refine (HC.out _).mono ?_; rintro e w' ⟨rfl, rfl⟩)
        go_ret3
        exact ⟨ret3 (by rw [HE.out, if_neg (by omega)]) (by rw [HE.out, if_neg (by omega)]) (by rw [HE.out, if_neg (by omega)]), rfl⟩
    · have E : sdivS lo hi d = if q ≤ 9223372036854775808 then (-(q : Int), -(r : Int), 0) else (0, 0, -11) := by
        rw [hs]; simp [hn, hdn]
      have HE := Lib.hid E
      clear E hs
      by_cases hf : (q : Int) ≤ 9223372036854775808
      · go_enter Try.func67, Try.ntmps67
        go_wp2_with (go_at_call 88; refine (HC.out _).mono ?_; rintro e w' ⟨rfl, rfl⟩)
        go_ret3
        exact ⟨ret3 (by rw [HE.out, if_pos (by omega)]; exact fin.out.2.2.1 (by omega)) (by rw [HE.out, if_pos (by omega)]; exact fin.out.1 hn) (by rw [HE.out, if_pos (by omega)]), rfl⟩
      · go_enter Try.func67, Try.ntmps67
        go_wp2_with (go_at_call 88; refine (HC.out _).mono ?_; rintro e w' ⟨rfl, rfl⟩)
        go_ret3
        exact ⟨ret3 (by rw [HE.out, if_neg (by omega)]) (by rw [HE.out, if_neg (by omega)]) (by rw [HE.out, if_neg (by omega)]), rfl⟩
    · have E : sdivS lo hi d = if q ≤ 9223372036854775808 then (-(q : Int), (r : Int), 0) else (0, 0, -11) := by
        rw [hs]; simp [hn, hdn]
      have HE := Lib.hid E
      clear E hs
      by_cases hf : (q : Int) ≤ 9223372036854775808
      · go_enter Try.func67, Try.ntmps67
        go_wp2_with (go_at_call 88; refine (HC.out _).mono ?_; rintro e w' ⟨rfl, rfl⟩)
        go_ret3
        exact ⟨ret3 (by rw [HE.out, if_pos (by omega)]; exact fin.out.2.2.1 (by omega)) (by rw [HE.out, if_pos (by omega)]; exact fin.out.2.1 (by omega)) (by rw [HE.out, if_pos (by omega)]), rfl⟩
      · go_enter Try.func67, Try.ntmps67
        go_wp2_with (go_at_call 88; refine (HC.out _).mono ?_; rintro e w' ⟨rfl, rfl⟩)
        go_ret3
        exact ⟨ret3 (by rw [HE.out, if_neg (by omega)]) (by rw [HE.out, if_neg (by omega)]) (by rw [HE.out, if_neg (by omega)]), rfl⟩
    · have E : sdivS lo hi d = if q < 9223372036854775808 then ((q : Int), (r : Int), 0) else (0, 0, -11) := by
        rw [hs]; simp [hn, hdn]
      have HE := Lib.hid E
      clear E hs
      by_cases hf : (q : Int) ≤ 9223372036854775807
      · go_enter Try.func67, Try.ntmps67
        go_wp2_with (go_at_call 88; refine (HC.out _).mono ?_; rintro e w' ⟨rfl, rfl⟩)
        go_ret3
        exact ⟨ret3 (by rw [HE.out, if_pos (by omega)]) (by rw [HE.out, if_pos (by omega)]; exact fin.out.2.1 (by omega)) (by rw [HE.out, if_pos (by omega)]), rfl⟩
      · go_enter Try.func67, Try.ntmps67
        go_wp2_with (go_at_call 88; refine (HC.out _).mono ?_; rintro e w' ⟨rfl, rfl⟩)
        go_ret3
        exact ⟨ret3 (by rw [HE.out, if_neg (by omega)]) (by rw [HE.out, if_neg (by omega)]) (by rw [HE.out, if_neg (by omega)]), rfl⟩
  · have hqg : 18446744073709551616 ≤ q := by rw [hq]; exact quo_ge lo hi d hz hy
    simp only [if_neg hy] at hc
    have E : sdivS lo hi d = (0, 0, -11) := by
      rw [hs]
      by_cases hb : (decide (hi < 0) != decide (d < 0)) = true
      · rw [if_pos hb, if_neg (show ¬ q ≤ 9223372036854775808 by omega)]
      · rw [if_neg hb, if_neg (show ¬ q < 9223372036854775808 by omega)]
    have HE := Lib.hid E
    have HC := Lib.hid hc
    clear E hc hs hq hr hrl hqg hy hz
    go_enter Try.func67, Try.ntmps67
    go_wp2_with (go_at_call 88; refine (HC.out _).mono ?_; rintro e w' ⟨rfl, rfl⟩)
    go_ret3
    exact ⟨ret3 (by rw [HE.out]) (by rw [HE.out]) (by rw [HE.out]), rfl⟩

theorem ref_FDiv (lo hi d : Int) (w : World) (hh : Fit hi) (hd : Fit d) :
    Calls Try.prog 69 #[.int .i64 lo, .int .i64 hi, .int .i64 d] w fun e w' => e = .returned (.tuple #[.int .i64 (fdivS lo hi d).1, .int .i64 (fdivS lo hi d).2.1, .int .i64 (fdivS lo hi d).2.2]) ∧ w = w' := by
  have hc := fun w => ref_SDiv lo hi d w hh hd
  rcases fdiv_cases lo hi d hd with ⟨e, he, h1, h2⟩ | ⟨hd0, q, r, h1, hq, hrl, hs1, hs2, _, h2⟩
  · rw [h1] at hc
    have HC := Lib.hid hc
    have HE := Lib.hid h2
    clear hc h1 h2
    have t1 : (e == 0) = false := by simp; omega
    have t2 : (e != 0) = true := by simp; omega
    go_enter Try.func69, Try.ntmps69
    go_wp2_with (go_at_call 67; refine (HC.out _).mono ?_; rintro e w' ⟨rfl, rfl⟩)
    go_ret3
    exact ⟨ret3 (by rw [HE.out]) (by rw [HE.out]) (by rw [HE.out]), rfl⟩
  · rw [h1] at hc
    have HC := Lib.hid hc
    have HS1 := Lib.hid hs1
    have HS2 := Lib.hid hs2
    clear hc h1 hs1 hs2
    rcases h2 with ⟨h3, h2⟩ | ⟨h3, h4, ⟨h5, h2⟩ | ⟨h5, h2, h6⟩⟩
    · have HE := Lib.hid h2
      clear h2
      by_cases hr : r = 0
      · have t1 : (r == 0) = true := by simp [hr]
        have t2 : (r != 0) = false := by simp [hr]
        clear h3 hr hrl
        go_enter Try.func69, Try.ntmps69
        go_wp2_with (go_at_call 67; refine (HC.out _).mono ?_; rintro e w' ⟨rfl, rfl⟩)
        go_ret3
        exact ⟨ret3 (by rw [HE.out]) (by rw [HE.out]) (by rw [HE.out]), rfl⟩
      · have t1 : (r == 0) = false := by simp [hr]
        have h4 : decide (hi < 0) = decide (d < 0) := by rcases h3 with h3 | h3; exact absurd h3 hr; exact h3
        clear h3 hr hrl
        by_cases a : hi < 0 <;> by_cases b : d < 0
        · have a' : decide (hi < 0) = true := by simp [a]
          have b' : decide (d < 0) = true := by simp [b]
          clear h4
          go_enter Try.func69, Try.ntmps69
          go_wp2_with (go_at_call 67; refine (HC.out _).mono ?_; rintro e w' ⟨rfl, rfl⟩)
          go_ret3
          exact ⟨ret3 (by rw [HE.out]) (by rw [HE.out]) (by rw [HE.out]), rfl⟩
        · simp [a, b] at h4
        · simp [a, b] at h4
        · have a' : decide (hi < 0) = false := by simp; omega
          have b' : decide (d < 0) = false := by simp; omega
          clear h4
          go_enter Try.func69, Try.ntmps69
          go_wp2_with (go_at_call 67; refine (HC.out _).mono ?_; rintro e w' ⟨rfl, rfl⟩)
          go_ret3
          exact ⟨ret3 (by rw [HE.out]) (by rw [HE.out]) (by rw [HE.out]), rfl⟩
    · have HE := Lib.hid h2
      have t1 : (r == 0) = false := by simp [h3]
      have t3 : (q == -9223372036854775808) = true := by simp [h5]
      clear h2 hrl h5
      by_cases a : hi < 0 <;> by_cases b : d < 0
      · simp [a, b] at h4
      · have a' : decide (hi < 0) = true := by simp [a]
        have b' : decide (d < 0) = false := by simp; omega
        clear h4
        go_enter Try.func69, Try.ntmps69
        go_wp2_with (go_at_call 67; refine (HC.out _).mono ?_; rintro e w' ⟨rfl, rfl⟩)
        go_ret3
        exact ⟨ret3 (by rw [HE.out]) (by rw [HE.out]) (by rw [HE.out]), rfl⟩
      · have a' : decide (hi < 0) = false := by simp; omega
        have b' : decide (d < 0) = true := by simp [b]
        clear h4
        go_enter Try.func69, Try.ntmps69
        go_wp2_with (go_at_call 67; refine (HC.out _).mono ?_; rintro e w' ⟨rfl, rfl⟩)
        go_ret3
        exact ⟨ret3 (by rw [HE.out]) (by rw [HE.out]) (by rw [HE.out]), rfl⟩
      · simp [a, b] at h4
    · have HE := Lib.hid h2
      have t1 : (r == 0) = false := by simp [h3]
      have t3 : (q == -9223372036854775808) = false := by simp [h5]
      have hq1 : -9223372036854775807 ≤ q := by omega
      clear h2 hrl h5
      by_cases a : hi < 0 <;> by_cases b : d < 0
      · simp [a, b] at h4
      · have a' : decide (hi < 0) = true := by simp [a]
        have b' : decide (d < 0) = false := by simp; omega
        clear h4
        go_enter Try.func69, Try.ntmps69
        go_wp2_with (go_at_call 67; refine (HC.out _).mono ?_; rintro e w' ⟨rfl, rfl⟩)
        go_ret3
        exact ⟨ret3 (by rw [HE.out]) (by rw [HE.out]) (by rw [HE.out]), rfl⟩
      · have a' : decide (hi < 0) = false := by simp; omega
        have b' : decide (d < 0) = true := by simp [b]
        clear h4
        go_enter Try.func69, Try.ntmps69
        go_wp2_with (go_at_call 67; refine (HC.out _).mono ?_; rintro e w' ⟨rfl, rfl⟩)
        go_ret3
        exact ⟨ret3 (by rw [HE.out]) (by rw [HE.out]) (by rw [HE.out]), rfl⟩
      · simp [a, b] at h4
end Go.Proofs.Ytpjhgokdkgnbdaa
