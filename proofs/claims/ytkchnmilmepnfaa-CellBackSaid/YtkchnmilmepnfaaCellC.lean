/- The walks of layer 1 (cell), part C: quotients of pairs with a sign, by the program and by the document's answer. -/
import Derived.Test.YtkchnmilmepnfaaCellB
namespace Go.Proofs.Ytkchnmilmepnfaa
open Go.RowKit

theorem signed_pos (lo hi d : Int) (w : World) (hh : Fit hi) (hd : Fit d) (hp : 0 ≤ hi) :
    Calls Try.prog 45 #[.int .i64 lo, .int .i64 hi, .int .i64 d] w fun e w' =>
      e = (if (PS lo hi).natAbs / 18446744073709551616 < d.natAbs then .returned (.tuple #[.int .u64 ((PS lo hi).natAbs / d.natAbs : Nat), .int .u64 ((PS lo hi).natAbs % d.natAbs : Nat), .bool (!(decide (hi < 0) == decide (d < 0))), .bool true])
        else .returned (.tuple #[.int .u64 0, .int .u64 0, .bool false, .bool false])) ∧ ∃ n, w' = w.drewN n := by
  have b1 := U_lt lo
  have u1 := U_wrap hi
  have u3 := U_wrap lo
  have hs := PS_size lo hi hp
  have hU : U hi = hi.toNat := U_of hi hp hh.2
  rw [← hU] at hs
  by_cases h2 : d.natAbs ≤ U hi
  · have E : ¬ (PS lo hi).natAbs / 18446744073709551616 < d.natAbs := by omega
    rw [if_neg E]
    clear E hs b1 hU
    go_enter Try.func45, Try.ntmps45
    go_wp2_with (go_at_call 48; refine (cell_size d _ hd).mono ?_; rintro e w' ⟨rfl, rfl⟩)
    exact bodyPost_ret (v := .tuple #[.int .u64 0, .int .u64 0, .bool false, .bool false]) (by simp [results, Try.results45, go_sem]) rfl ⟨rfl, drew0 _⟩
  · have E : (PS lo hi).natAbs / 18446744073709551616 < d.natAbs := by omega
    rw [if_pos E]
    have HS := Lib.hid hs
    have HB := Lib.hid b1
    clear E hs b1 hU
    go_enter Try.func45, Try.ntmps45
    go_wp2_with (go_at_call 48; refine (cell_size d _ hd).mono ?_; rintro e w' ⟨rfl, rfl⟩)
    refine (bits_Div64 (U hi) (U lo) d.natAbs _ (by omega) (by omega) HB.out).mono ?_
    rintro e w' ⟨rfl, n, rfl⟩
    go_wp2
    exact bodyPost_ret (v := .tuple #[.int .u64 ((PS lo hi).natAbs / d.natAbs : Nat), .int .u64 ((PS lo hi).natAbs % d.natAbs : Nat), .bool (!(decide (hi < 0) == decide (d < 0))), .bool true]) (by rw [HS.out]; simp [results, Try.results45, go_sem]) rfl ⟨rfl, _, rfl⟩
theorem not_u64 (n : Nat) (h : n < 18446744073709551616) : bits .xor .u64 IntKind.u64.max (n : Int) = ((18446744073709551615 - n : Nat) : Int) := by
  show IntKind.u64.wrap ((BitVec.ofInt 64 IntKind.u64.max ^^^ BitVec.ofInt 64 (n : Int)).toNat : Int) = _
  have e : BitVec.ofInt 64 IntKind.u64.max = BitVec.allOnes 64 := by decide
  have h1 : (BitVec.ofInt 64 (n : Int)).toNat = n := by
    rw [BitVec.ofInt_natCast, BitVec.toNat_ofNat]; exact Nat.mod_eq_of_lt (by omega)
  rw [e, BitVec.allOnes_xor, BitVec.toNat_not, h1]
  exact IntWalk.u64_in _ (by omega)

theorem run_Add64 (x : Nat) (w : World) :
    (callFunc 70 #[.int .u64 (x : Int), .int .u64 1, .int .u64 0]).run Try.prog w =
      .ok (.value (.tuple #[.int .u64 (((x + 1) % 18446744073709551616 : Nat) : Int), .int .u64 (((x + 1) / 18446744073709551616 : Nat) : Int)])) w := by
  rw [run_callFunc_extern Try.func70 (by kernel_rfl) (by kernel_rfl) (by kernel_rfl) (e := add64Entry) (by kernel_rfl), run_add64 _ _ _ (by omega) (by omega) (by omega) (by omega)]
  simp only [Result.andThen]
  congr 5

set_option maxRecDepth 100000 in
theorem signed_neg (lo hi d : Int) (w : World) (hh : Fit hi) (hd : Fit d) (hp : hi < 0) :
    Calls Try.prog 45 #[.int .i64 lo, .int .i64 hi, .int .i64 d] w fun e w' =>
      e = (if (PS lo hi).natAbs / 18446744073709551616 < d.natAbs then .returned (.tuple #[.int .u64 ((PS lo hi).natAbs / d.natAbs : Nat), .int .u64 ((PS lo hi).natAbs % d.natAbs : Nat), .bool (!(decide (hi < 0) == decide (d < 0))), .bool true])
        else .returned (.tuple #[.int .u64 0, .int .u64 0, .bool false, .bool false])) ∧ ∃ n, w' = w.drewN n := by
  have b1 := U_lt lo
  have b2 := U_lt hi
  have hneg := U_neg hi hp hh.1
  have hA : ((PS lo hi).natAbs : Int) = -(hi * 18446744073709551616 + U lo) := by unfold PS; omega
  have u1 := U_wrap hi
  have u3 := U_wrap lo
  have n1 := not_u64 (U lo) b1
  have n2 := not_u64 (U hi) b2
  have radd := fun w => run_Add64 (18446744073709551615 - U lo) w
  generalize (PS lo hi).natAbs = A at *
  obtain ⟨low, hlow⟩ : ∃ l, l = A % 18446744073709551616 := ⟨_, rfl⟩
  obtain ⟨high, hhigh⟩ : ∃ l, l = A / 18446744073709551616 := ⟨_, rfl⟩
  obtain ⟨c, hc⟩ : ∃ c, c = (18446744073709551615 - U lo + 1) / 18446744073709551616 := ⟨_, rfl⟩
  obtain ⟨nl, hnl⟩ : ∃ c, c = 18446744073709551615 - U lo := ⟨_, rfl⟩
  obtain ⟨nh, hnh⟩ : ∃ c, c = 18446744073709551615 - U hi := ⟨_, rfl⟩
  have f1 : (18446744073709551615 - U lo + 1) % 18446744073709551616 = low := by omega
  have f2 : IntKind.u64.wrap ((nh : Int) + (c : Int)) = (high : Int) := by rw [IntKind.wrap_u64]; omega
  have hAe : A = high * 18446744073709551616 + low := by omega
  have hlt : low < 18446744073709551616 := by omega
  rw [f1, ← hc, ← hnl] at radd
  rw [← hnl] at n1
  rw [← hnh] at n2
  rw [← hhigh]
  clear hlow hhigh hc hnl hnh f1 hA hneg b1 b2
  by_cases h2 : d.natAbs ≤ high
  · rw [if_neg (by omega)]
    clear hAe hlt
    go_enter Try.func45, Try.ntmps45
    go_wp2_with (go_at_call 48; refine (cell_size d _ hd).mono ?_; rintro e w' ⟨rfl, rfl⟩)
    exact bodyPost_ret (v := .tuple #[.int .u64 0, .int .u64 0, .bool false, .bool false]) (by simp [results, Try.results45, go_sem]) rfl ⟨rfl, drew0 _⟩
  · rw [if_pos (by omega)]
    have HS := Lib.hid hAe
    have HB := Lib.hid hlt
    clear hAe hlt
    go_enter Try.func45, Try.ntmps45
    go_wp2_with (go_at_call 48; refine (cell_size d _ hd).mono ?_; rintro e w' ⟨rfl, rfl⟩)
    refine (bits_Div64 high low d.natAbs _ (by omega) (by omega) HB.out).mono ?_
    rintro e w' ⟨rfl, n, rfl⟩
    go_wp2
    exact bodyPost_ret (v := .tuple #[.int .u64 (A / d.natAbs : Nat), .int .u64 (A % d.natAbs : Nat), .bool (!(decide (hi < 0) == decide (d < 0))), .bool true]) (by rw [HS.out]; simp [results, Try.results45, go_sem, hp]) rfl ⟨rfl, _, rfl⟩

theorem signed_no (lo hi d : Int) (w : World) (hh : Fit hi) (hd : Fit d) (h : ¬ (PS lo hi).natAbs / 18446744073709551616 < d.natAbs) :
    Calls Try.prog 45 #[.int .i64 lo, .int .i64 hi, .int .i64 d] w fun e w' =>
      e = .returned (.tuple #[.int .u64 0, .int .u64 0, .bool false, .bool false]) ∧ ∃ n, w' = w.drewN n := by
  by_cases hp : hi < 0
  · have := signed_neg lo hi d w hh hd hp
    rw [if_neg h] at this; exact this
  · have := signed_pos lo hi d w hh hd (by omega)
    rw [if_neg h] at this; exact this

theorem signed_yes (lo hi d : Int) (w : World) (hh : Fit hi) (hd : Fit d) (q r : Nat) (b : Bool) (h : (PS lo hi).natAbs / 18446744073709551616 < d.natAbs)
    (hq : q = (PS lo hi).natAbs / d.natAbs) (hr : r = (PS lo hi).natAbs % d.natAbs) (hb : (decide (hi < 0) != decide (d < 0)) = b) :
    Calls Try.prog 45 #[.int .i64 lo, .int .i64 hi, .int .i64 d] w fun e w' =>
      e = .returned (.tuple #[.int .u64 q, .int .u64 r, .bool b, .bool true]) ∧ ∃ n, w' = w.drewN n := by
  subst hq hr
  have hb' : (!(decide (hi < 0) == decide (d < 0))) = b := hb
  by_cases hp : hi < 0
  · have := signed_neg lo hi d w hh hd hp
    rw [if_pos h, hb'] at this; exact this
  · have := signed_pos lo hi d w hh hd (by omega)
    rw [if_pos h, hb'] at this; exact this

theorem cell_laid_t (q : Nat) (f : Bool) (w : World) (hq : q < 18446744073709551616) (hf : decide (q ≤ 9223372036854775808) = f) :
    Calls Try.prog 46 #[.int .u64 q, .bool true] w fun e w' => e = .returned (.tuple #[.int .i64 (wrap64 (-(q : Int))), .bool f]) ∧ w = w' := by
  have e : IntKind.i64.wrap (IntKind.u64.wrap (-(q : Int))) = wrap64 (-(q : Int)) := by
    rw [IntWalk.i64_left, IntKind.wrap_u64]; unfold wrap64; omega
  cases f
  · have h : ¬ (q : Int) ≤ 9223372036854775808 := by simp at hf; omega
    clear hf hq
    go_enter Try.func46, Try.ntmps46
    go_wp2
    go_ret2
    exact ⟨by rw [← e]; simp [go_sem]; done, rfl⟩
  · have h : (q : Int) ≤ 9223372036854775808 := by simp at hf; omega
    clear hf hq
    go_enter Try.func46, Try.ntmps46
    go_wp2
    go_ret2
    exact ⟨by rw [← e]; simp [go_sem]; done, rfl⟩
theorem cell_laid_f (q : Nat) (f : Bool) (w : World) (hf : decide (q < 9223372036854775808) = f) :
    Calls Try.prog 46 #[.int .u64 q, .bool false] w fun e w' => e = .returned (.tuple #[.int .i64 (wrap64 q), .bool f]) ∧ w = w' := by
  cases f
  · have h : ¬ (q : Int) < 9223372036854775808 := by simp at hf; omega
    clear hf
    go_enter Try.func46, Try.ntmps46
    go_wp2
    go_ret2
    exact ⟨by simp [go_sem]; done, rfl⟩
  · have h : (q : Int) < 9223372036854775808 := by simp at hf; omega
    clear hf
    go_enter Try.func46, Try.ntmps46
    go_wp2
    go_ret2
    exact ⟨by rw [wrap64_fit q (by omega)]; rfl, rfl⟩

/-- A quotient of a size, with its sign; and whether it has room. -/
def laidS (q : Nat) (b : Bool) : Int := wrap64 (if b then -(q : Int) else q)
def roomS (q : Nat) (b : Bool) : Bool := if b then decide (q ≤ 9223372036854775808) else decide (q < 9223372036854775808)
def withS (r : Nat) (b : Bool) : Int := wrap64 (if b then -(r : Int) else r)

theorem cell_laid (q : Nat) (b : Bool) (w : World) (hq : q < 18446744073709551616) :
    Calls Try.prog 46 #[.int .u64 q, .bool b] w fun e w' => e = .returned (.tuple #[.int .i64 (laidS q b), .bool (roomS q b)]) ∧ w = w' := by
  cases b
  · exact cell_laid_f q _ w rfl
  · exact cell_laid_t q _ w hq rfl

theorem cell_with (r : Nat) (b : Bool) (w : World) :
    Calls Try.prog 47 #[.int .u64 r, .bool b] w fun e w' => e = .returned (.int .i64 (withS r b)) ∧ w = w' := by
  have e : wrap64 (IntKind.u64.wrap (-(r : Int))) = wrap64 (-(r : Int)) := by
    rw [IntKind.wrap_u64]; unfold wrap64; omega
  have H := Lib.hid e
  clear e
  cases b
  · go_enter Try.func47, Try.ntmps47
    go_wp2
    go_ret
    exact ⟨ret1 rfl, rfl⟩
  · go_enter Try.func47, Try.ntmps47
    go_wp2
    go_ret
    exact ⟨ret1 H.out, rfl⟩

theorem quo_lt (lo hi d : Int) (h : (PS lo hi).natAbs / 18446744073709551616 < d.natAbs) : (PS lo hi).natAbs / d.natAbs < 18446744073709551616 := by
  rw [Nat.div_lt_iff_lt_mul (by omega), Nat.mul_comm]
  exact (Nat.div_lt_iff_lt_mul (by decide)).1 h
theorem quo_ge (lo hi d : Int) (hd : d ≠ 0) (h : ¬ (PS lo hi).natAbs / 18446744073709551616 < d.natAbs) : 18446744073709551616 ≤ (PS lo hi).natAbs / d.natAbs := by
  rw [Nat.le_div_iff_mul_le (by omega), Nat.mul_comm]
  have := Nat.div_mul_le_self (PS lo hi).natAbs 18446744073709551616
  exact Nat.le_trans (Nat.mul_le_mul_right _ (by omega)) this

theorem cell_SDiv (lo hi d : Int) (w : World) (hh : Fit hi) (hd : Fit d) :
    Calls Try.prog 25 #[.int .i64 lo, .int .i64 hi, .int .i64 d] w fun e w' => e = .returned (.tuple #[.int .i64 (sdivS lo hi d).1, .int .i64 (sdivS lo hi d).2.1, .int .i64 (sdivS lo hi d).2.2]) ∧ ∃ n, w' = w.drewN n := by
  by_cases hz : d = 0
  · have E := Lib.hid (show sdivS lo hi d = (0, 0, -10) by simp [sdivS, hz])
    have t : (d == 0) = true := by simp [hz]
    clear hz
    go_enter Try.func25, Try.ntmps25
    go_wp2
    go_ret3
    exact ⟨ret3 (by rw [E.out]) (by rw [E.out]) (by rw [E.out]), drew0 w⟩
  have t : (d == 0) = false := by simp [hz]
  obtain ⟨q, hq⟩ : ∃ q, q = (PS lo hi).natAbs / d.natAbs := ⟨_, rfl⟩
  obtain ⟨r, hr⟩ : ∃ r, r = (PS lo hi).natAbs % d.natAbs := ⟨_, rfl⟩
  have hs := sdivS_of lo hi d hz q r hq hr
  have hrl : r < d.natAbs := by rw [hr]; exact Nat.mod_lt _ (by omega)
  by_cases hy : (PS lo hi).natAbs / 18446744073709551616 < d.natAbs
  · obtain ⟨b, hb⟩ : ∃ b, (decide (hi < 0) != decide (d < 0)) = b := ⟨_, rfl⟩
    have hql : q < 18446744073709551616 := by rw [hq]; exact quo_lt lo hi d hy
    have hc := fun w => signed_yes lo hi d w hh hd q r b hy hq hr hb
    obtain ⟨f, hf⟩ : ∃ f, roomS q b = f := ⟨_, rfl⟩
    have hl := fun w => cell_laid q b w hql
    rw [hf] at hl
    have E : sdivS lo hi d = if f then (laidS q b, withS r (decide (hi < 0)), 0) else (0, 0, -11) := by
      rw [hs, hb, ← hf]
      have hw : withS r (decide (hi < 0)) = if hi < 0 then -(r : Int) else r := by
        by_cases hn : hi < 0
        · simp only [withS, hn, decide_true, if_true]; exact wrap64_fit _ (by omega)
        · simp only [withS, hn, decide_false, if_false, Bool.false_eq_true]
          by_cases hx : r = 9223372036854775808
          · omega
          · exact wrap64_fit _ (by omega)
      cases b
      · simp only [Bool.false_eq_true, if_false, roomS, decide_eq_true_eq, laidS]
        by_cases hx : q < 9223372036854775808
        · rw [if_pos hx, if_pos hx, wrap64_fit _ (by omega), hw]
        · rw [if_neg hx, if_neg hx]
      · simp only [if_true, roomS, decide_eq_true_eq, laidS]
        by_cases hx : q ≤ 9223372036854775808
        · rw [if_pos hx, if_pos hx, wrap64_fit _ (by omega), hw]
        · rw [if_neg hx, if_neg hx]
    have HE := Lib.hid E
    have HC := Lib.hid hc
    have HL := Lib.hid hl
    clear E hc hl hf hb hs hq hr hrl hql hy hz hh hd
    cases f
    · go_enter Try.func25, Try.ntmps25
      go_wp2_with (first | (go_at_call 45; refine (HC.out _).mono ?_; rintro e w' ⟨rfl, n, rfl⟩) | (go_at_call 46; refine (HL.out _).mono ?_; rintro e w' ⟨rfl, rfl⟩))
      go_ret3
      exact ⟨ret3 (by rw [HE.out]; rfl) (by rw [HE.out]; rfl) (by rw [HE.out]; rfl), _, rfl⟩
    · go_enter Try.func25, Try.ntmps25
      go_wp2_with (first | (go_at_call 45; refine (HC.out _).mono ?_; rintro e w' ⟨rfl, n, rfl⟩) | (go_at_call 46; refine (HL.out _).mono ?_; rintro e w' ⟨rfl, rfl⟩) | (go_at_call 47; refine (cell_with r _ _).mono ?_; rintro e w' ⟨rfl, rfl⟩))
      go_ret3
      exact ⟨ret3 (by rw [HE.out]; rfl) (by rw [HE.out]; rfl) (by rw [HE.out]; rfl), _, rfl⟩
  · have hqg : 18446744073709551616 ≤ q := by rw [hq]; exact quo_ge lo hi d hz hy
    have hc := fun w => signed_no lo hi d w hh hd hy
    have E : sdivS lo hi d = (0, 0, -11) := by
      rw [hs]
      by_cases hb : (decide (hi < 0) != decide (d < 0)) = true
      · rw [if_pos hb, if_neg (show ¬ q ≤ 9223372036854775808 by omega)]
      · rw [if_neg hb, if_neg (show ¬ q < 9223372036854775808 by omega)]
    have HE := Lib.hid E
    have HC := Lib.hid hc
    clear E hc hs hq hr hrl hqg hy hz hh hd
    go_enter Try.func25, Try.ntmps25
    go_wp2_with (first | (go_at_call 45; refine (HC.out _).mono ?_; rintro e w' ⟨rfl, n, rfl⟩) | (go_at_call 46; refine (cell_laid 0 false _ (by decide)).mono ?_; rintro e w' ⟨rfl, rfl⟩))
    go_ret3
    exact ⟨ret3 (by rw [HE.out]) (by rw [HE.out]) (by rw [HE.out]), _, rfl⟩

set_option maxRecDepth 100000 in
theorem cell_FDiv (lo hi d : Int) (w : World) (hh : Fit hi) (hd : Fit d) :
    Calls Try.prog 26 #[.int .i64 lo, .int .i64 hi, .int .i64 d] w fun e w' => e = .returned (.tuple #[.int .i64 (fdivS lo hi d).1, .int .i64 (fdivS lo hi d).2.1, .int .i64 (fdivS lo hi d).2.2]) ∧ ∃ n, w' = w.drewN n := by
  by_cases hz : d = 0
  · have E := Lib.hid (show fdivS lo hi d = (0, 0, -10) by simp [fdivS, hz])
    have t : (d == 0) = true := by simp [hz]
    clear hz
    go_enter Try.func26, Try.ntmps26
    go_wp2
    go_ret3
    exact ⟨ret3 (by rw [E.out]) (by rw [E.out]) (by rw [E.out]), drew0 w⟩
  have t : (d == 0) = false := by simp [hz]
  obtain ⟨q, hq⟩ : ∃ q, q = (PS lo hi).natAbs / d.natAbs := ⟨_, rfl⟩
  obtain ⟨r, hr⟩ : ∃ r, r = (PS lo hi).natAbs % d.natAbs := ⟨_, rfl⟩
  have hs := fdivS_of lo hi d hz q r hq hr
  have hrl : r < d.natAbs := by rw [hr]; exact Nat.mod_lt _ (by omega)
  by_cases hy : (PS lo hi).natAbs / 18446744073709551616 < d.natAbs
  · obtain ⟨b, hb⟩ : ∃ b, (decide (hi < 0) != decide (d < 0)) = b := ⟨_, rfl⟩
    have hql : q < 18446744073709551616 := by rw [hq]; exact quo_lt lo hi d hy
    have hc := fun w => signed_yes lo hi d w hh hd q r b hy hq hr hb
    rw [hb] at hs
    have HC := Lib.hid hc
    clear hc hb hq hr hy hz
    have hz1 := fun w => cell_size d w hd
    have HZ := Lib.hid hz1
    clear hz1
    cases b
    · simp only [Bool.false_eq_true, if_false] at hs
      obtain ⟨f, hf⟩ : ∃ f, roomS q false = f := ⟨_, rfl⟩
      have hl := fun w => cell_laid q false w hql
      rw [hf] at hl
      have hw : withS r (decide (d < 0)) = if d < 0 then -((r : Nat) : Int) else ((r : Nat) : Int) := by
        by_cases hn : d < 0
        · simp only [withS, hn, decide_true, if_true]; exact wrap64_fit _ (by omega)
        · simp only [withS, hn, decide_false, if_false, Bool.false_eq_true]; exact wrap64_fit _ (by omega)
      have E : fdivS lo hi d = if f then (laidS q false, withS r (decide (d < 0)), 0) else (0, 0, -11) := by
        rw [hs, ← hf]
        simp only [roomS, Bool.false_eq_true, if_false, decide_eq_true_eq, laidS]
        by_cases hx : q < 9223372036854775808
        · rw [if_pos hx, if_pos hx, wrap64_fit _ (by omega), hw]
        · rw [if_neg hx, if_neg hx]
      have HE := Lib.hid E
      have HL := Lib.hid hl
      clear E hl hf hs hrl hql hh hd hw
      cases f
      · go_enter Try.func26, Try.ntmps26
        go_wp2_with (first | (go_at_call 45; refine (HC.out _).mono ?_; rintro e w' ⟨rfl, n, rfl⟩) | (go_at_call 46; refine (HL.out _).mono ?_; rintro e w' ⟨rfl, rfl⟩) | (go_at_call 48; refine (HZ.out _).mono ?_; rintro e w' ⟨rfl, rfl⟩) | (go_at_call 47; refine (cell_with r _ _).mono ?_; rintro e w' ⟨rfl, rfl⟩))
        go_ret3
        exact ⟨ret3 (by rw [HE.out]; rfl) (by rw [HE.out]; rfl) (by rw [HE.out]; rfl), _, rfl⟩
      · cases hq0 : ((q : Int) == 0)
        all_goals
          go_enter Try.func26, Try.ntmps26
          go_wp2_with (first | (go_at_call 45; refine (HC.out _).mono ?_; rintro e w' ⟨rfl, n, rfl⟩) | (go_at_call 46; refine (HL.out _).mono ?_; rintro e w' ⟨rfl, rfl⟩) | (go_at_call 48; refine (HZ.out _).mono ?_; rintro e w' ⟨rfl, rfl⟩) | (go_at_call 47; refine (cell_with r _ _).mono ?_; rintro e w' ⟨rfl, rfl⟩))
          go_ret3
          exact ⟨ret3 (by rw [HE.out]; rfl) (by rw [HE.out]; rfl) (by rw [HE.out]; rfl), _, rfl⟩
    · simp only [if_true] at hs
      by_cases hr0 : r = 0
      · subst hr0
        obtain ⟨f, hf⟩ : ∃ f, roomS q true = f := ⟨_, rfl⟩
        have hl := fun w => cell_laid q true w hql
        rw [hf] at hl
        have hw : withS 0 (decide (d < 0)) = 0 := by
          unfold withS; cases decide (d < 0) <;> simp <;> exact wrap64_fit _ (by omega)
        have E : fdivS lo hi d = if f then (laidS q true, withS 0 (decide (d < 0)), 0) else (0, 0, -11) := by
          rw [hs, ← hf]
          simp only [roomS, if_true, decide_eq_true_eq, laidS]
          by_cases hx : q ≤ 9223372036854775808
          · rw [if_pos hx, if_pos hx, wrap64_fit _ (by omega), hw]
          · rw [if_neg hx, if_neg hx]
        have HE := Lib.hid E
        have HL := Lib.hid hl
        clear E hl hf hs hrl hql hh hd hw
        cases f
        · go_enter Try.func26, Try.ntmps26
          go_wp2_with (first | (go_at_call 45; refine (HC.out _).mono ?_; rintro e w' ⟨rfl, n, rfl⟩) | (go_at_call 46; refine (HL.out _).mono ?_; rintro e w' ⟨rfl, rfl⟩) | (go_at_call 48; refine (HZ.out _).mono ?_; rintro e w' ⟨rfl, rfl⟩) | (go_at_call 47; refine (cell_with 0 _ _).mono ?_; rintro e w' ⟨rfl, rfl⟩))
          go_ret3
          exact ⟨ret3 (by rw [HE.out]; rfl) (by rw [HE.out]; rfl) (by rw [HE.out]; rfl), _, rfl⟩
        · cases hq0 : ((q : Int) == 0)
          all_goals
            go_enter Try.func26, Try.ntmps26
            go_wp2_with (first | (go_at_call 45; refine (HC.out _).mono ?_; rintro e w' ⟨rfl, n, rfl⟩) | (go_at_call 46; refine (HL.out _).mono ?_; rintro e w' ⟨rfl, rfl⟩) | (go_at_call 48; refine (HZ.out _).mono ?_; rintro e w' ⟨rfl, rfl⟩) | (go_at_call 47; refine (cell_with 0 _ _).mono ?_; rintro e w' ⟨rfl, rfl⟩))
            go_ret3
            exact ⟨ret3 (by rw [HE.out]; rfl) (by rw [HE.out]; rfl) (by rw [HE.out]; rfl), _, rfl⟩
      · rw [if_neg hr0] at hs
        have g1 : ((r : Int) == 0) = false := by simp; omega
        have g2 : ((r : Int) != 0) = true := by simp; omega
        have hsub : ((d.natAbs : Nat) : Int) - r = ((d.natAbs - r : Nat) : Int) := by omega
        obtain ⟨r', hr'⟩ : ∃ r', r' = d.natAbs - r := ⟨_, rfl⟩
        rw [← hr'] at hs hsub
        have hrI : (r : Int) < (d.natAbs : Nat) := by omega
        have hdI : ((d.natAbs : Nat) : Int) ≤ 9223372036854775808 := by omega
        have hr'l : r' ≤ d.natAbs ∧ 0 < r' ∧ r' < d.natAbs := by omega
        have g3 : ((r' : Int) == 0) = false := by simp; omega
        have g4 : ((r' : Int) != 0) = true := by simp; omega
        by_cases hq1 : q + 1 < 18446744073709551616
        · obtain ⟨q', hq'⟩ : ∃ q', q' = q + 1 := ⟨_, rfl⟩
          have hqs : (q : Int) + 1 = (q' : Int) := by omega
          have hqb : (q : Int) ≤ 18446744073709551614 := by omega
          have g5 : ((q' : Int) == 0) = false := by simp; omega
          obtain ⟨f, hf⟩ : ∃ f, roomS q' true = f := ⟨_, rfl⟩
          have hl := fun w => cell_laid q' true w (by omega)
          rw [hf] at hl
          have hw : withS r' (decide (d < 0)) = if d < 0 then -((r' : Nat) : Int) else ((r' : Nat) : Int) := by
            by_cases hn : d < 0
            · simp only [withS, hn, decide_true, if_true]; exact wrap64_fit _ (by omega)
            · simp only [withS, hn, decide_false, if_false, Bool.false_eq_true]; exact wrap64_fit _ (by omega)
          have E : fdivS lo hi d = if f then (laidS q' true, withS r' (decide (d < 0)), 0) else (0, 0, -11) := by
            rw [hs, ← hf, hqs, ← hq']
            simp only [roomS, if_true, decide_eq_true_eq, laidS]
            by_cases hx : q' ≤ 9223372036854775808
            · rw [if_pos hx, if_pos hx, wrap64_fit _ (by omega), hw]
            · rw [if_neg hx, if_neg hx]
          have HE := Lib.hid E
          have HL := Lib.hid hl
          have HA := Lib.hid hrl
          clear E hl hf hs hrl hql hh hd hw hr'l hr' hq' hq1 hr0
          cases f
          · go_enter Try.func26, Try.ntmps26
            go_wp2_with (first | (go_at_call 45; refine (HC.out _).mono ?_; rintro e w' ⟨rfl, n, rfl⟩) | (go_at_call 46; refine (HL.out _).mono ?_; rintro e w' ⟨rfl, rfl⟩) | (go_at_call 48; refine (HZ.out _).mono ?_; rintro e w' ⟨rfl, rfl⟩) | (go_at_call 47; refine (cell_with r' _ _).mono ?_; rintro e w' ⟨rfl, rfl⟩))
            go_ret3
            exact ⟨ret3 (by rw [HE.out]; rfl) (by rw [HE.out]; rfl) (by rw [HE.out]; rfl), _, rfl⟩
          · go_enter Try.func26, Try.ntmps26
            go_wp2_with (first | (go_at_call 45; refine (HC.out _).mono ?_; rintro e w' ⟨rfl, n, rfl⟩) | (go_at_call 46; refine (HL.out _).mono ?_; rintro e w' ⟨rfl, rfl⟩) | (go_at_call 48; refine (HZ.out _).mono ?_; rintro e w' ⟨rfl, rfl⟩) | (go_at_call 47; refine (cell_with r' _ _).mono ?_; rintro e w' ⟨rfl, rfl⟩))
            go_ret3
            exact ⟨ret3 (by rw [HE.out]; rfl) (by rw [HE.out]; rfl) (by rw [HE.out]; rfl), _, rfl⟩
        · have hqs : IntKind.u64.wrap ((q : Int) + 1) = 0 := by rw [IntKind.wrap_u64]; omega
          have hl := fun w => cell_laid 0 true w (by decide)
          have E : fdivS lo hi d = (0, 0, -11) := by
            rw [hs, if_neg (by omega)]
          have HE := Lib.hid E
          have HL := Lib.hid hl
          clear E hl hs hrl hql hh hd hr'l hr' hq1 hr0
          go_enter Try.func26, Try.ntmps26
          go_wp2_with (first | (go_at_call 45; refine (HC.out _).mono ?_; rintro e w' ⟨rfl, n, rfl⟩) | (go_at_call 46; refine (HL.out _).mono ?_; rintro e w' ⟨rfl, rfl⟩) | (go_at_call 48; refine (HZ.out _).mono ?_; rintro e w' ⟨rfl, rfl⟩) | (go_at_call 47; refine (cell_with r' _ _).mono ?_; rintro e w' ⟨rfl, rfl⟩))
          go_ret3
          exact ⟨ret3 (by rw [HE.out]) (by rw [HE.out]) (by rw [HE.out]), _, rfl⟩
  · have hqg : 18446744073709551616 ≤ q := by rw [hq]; exact quo_ge lo hi d hz hy
    have hc := fun w => signed_no lo hi d w hh hd hy
    have E : fdivS lo hi d = (0, 0, -11) := by
      rw [hs]
      by_cases hb : (decide (hi < 0) != decide (d < 0)) = true
      · rw [if_pos hb, if_neg (show ¬ q ≤ 9223372036854775808 by omega), if_neg (show ¬ q + 1 ≤ 9223372036854775808 by omega)]; simp
      · rw [if_neg hb, if_neg (show ¬ q < 9223372036854775808 by omega)]
    have HE := Lib.hid E
    have HC := Lib.hid hc
    clear E hc hs hq hr hrl hqg hy hz hh hd
    go_enter Try.func26, Try.ntmps26
    go_wp2_with (first | (go_at_call 45; refine (HC.out _).mono ?_; rintro e w' ⟨rfl, n, rfl⟩) | (go_at_call 46; refine (cell_laid 0 false _ (by decide)).mono ?_; rintro e w' ⟨rfl, rfl⟩))
    go_ret3
    exact ⟨ret3 (by rw [HE.out]) (by rw [HE.out]) (by rw [HE.out]), _, rfl⟩
end Go.Proofs.Ytkchnmilmepnfaa
