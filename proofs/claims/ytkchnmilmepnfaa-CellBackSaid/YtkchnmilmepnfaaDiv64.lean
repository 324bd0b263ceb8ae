/- The walk of math/bits.Div64: quotient and rest of a pair without a sign. -/
import Derived.Test.YtkchnmilmepnfaaCellA
import Derived.Test.YtkchnmilmepnfaaDivL
import Derived.Deep.CutBlock
import Derived.Deep.DeepCutAuto
namespace Go.Proofs.Ytkchnmilmepnfaa
open Go.RowKit

theorem lz (y : Nat) (h0 : 0 < y) (h1 : y < 18446744073709551616) : ∃ s : Nat, s ≤ 63 ∧ 9223372036854775808 ≤ y * 2 ^ s ∧ y * 2 ^ s < 18446744073709551616 ∧
    ∀ w : World, Calls Try.prog 71 #[.int .u64 y] w fun e w' => e = .returned (.int .i64 s) ∧ w = w' := by
  obtain ⟨a, b, c⟩ := Lib.bitLenAux_bounds 64 y h1 (by omega)
  have hL : Lib.bitLenAux 64 y ≤ 64 := Lib.bitLen_le y 64 (Nat.le_refl _) h1
  have hc := fun w => Try.bits_LeadingZeros64 y w (by omega) (by omega)
  simp only [Int.toNat_natCast, Lib.bitLen] at hc
  generalize Lib.bitLenAux 64 y = L at *
  have e : 2 ^ (64 - L) * 2 ^ (L - 1) = 9223372036854775808 := by rw [← Nat.pow_add, show 64 - L + (L - 1) = 63 from by omega]
  have e2 : 2 ^ (64 - L) * 2 ^ L = 18446744073709551616 := by rw [← Nat.pow_add, show 64 - L + L = 64 from by omega]
  have hp : 0 < 2 ^ (64 - L) := Nat.two_pow_pos _
  refine ⟨64 - L, by omega, ?_, ?_, ?_⟩
  · rw [← e, Nat.mul_comm y]; exact Nat.mul_le_mul_left _ b
  · rw [← e2, Nat.mul_comm y]; exact Nat.mul_lt_mul_of_pos_left c hp
  · intro w
    have := hc w
    rw [show (64 : Int) - (L : Int) = ((64 - L : Nat) : Int) from by omega] at this
    refine this.mono ?_
    rintro e w' ⟨h, h'⟩
    exact ⟨h, h'.symm⟩

set_option maxRecDepth 100000 in
set_option maxHeartbeats 800000 in
theorem div64_big (hi lo y : Nat) (w : World) (h0 : hi < y) (hh : 0 < hi) (hy : y < 18446744073709551616) (hl : lo < 18446744073709551616) :
    Calls Try.prog 49 #[.int .u64 hi, .int .u64 lo, .int .u64 y] w fun e w' => e = .returned (.tuple #[.int .u64 ((hi * 18446744073709551616 + lo) / y : Nat), .int .u64 ((hi * 18446744073709551616 + lo) % y : Nat)]) ∧ ∃ n, w' = w.drewN n := by
  have t0 : ((y : Int) == 0) = false := by simp; omega
  have t1 : ((hi : Int) == 0) = false := by simp; omega
  have hy2 : 0 < y := by omega
  obtain ⟨s, s1, s2, s3, hc⟩ := lz y hy2 hy
  have Hc := Lib.hid hc
  clear hc
  have ep : (y : Int) * 2 ^ s = ((y * 2 ^ s : Nat) : Int) := by simp
  have b1 : (9223372036854775808 : Int) ≤ (y : Int) * 2 ^ s := by rw [ep]; omega
  have b2 : (y : Int) * 2 ^ s ≤ 18446744073709551615 := by rw [ep]; omega
  clear ep
  obtain ⟨Y, y1, y0, un, ul, u1, u0, e1, e2, e3, e4, e5, e6, e7, f1, f2, f3, f3', f4, f5, f6, f7, f8, f9⟩ := div64_prep hi lo y s h0 s1 s2 s3 hl
  have hYb : 9223372036854775808 ≤ Y ∧ Y < 18446744073709551616 := by rw [f8]; exact ⟨s2, s3⟩
  have hend := fun q1 q0 r1 r0 => @div64_end hi lo y s Y un ul u1 u0 q1 q0 r1 r0 hy2 f8 f9 f4
  have Hend := Lib.hid hend
  have Hs2 := Lib.hid s2
  have Hs3 := Lib.hid s3
  have F1 := Lib.hid f1
  have F4 := Lib.hid f4
  clear hend s2 s3 f1 f4 f8 f9
  -- the first trial digit
  obtain ⟨Q1, hQ1⟩ : ∃ Q1, Q1 = (un * 4294967296 + u1) / Y := ⟨_, rfl⟩
  obtain ⟨q, r, e8, e9, g1, g2, g3, g4, g5⟩ := dig_first F1.out hQ1 f3 f5
  have hnext := fun a b => @dig_next un y1 y0 u1 a b Q1 Y F1.out hQ1 f3 f2 f5 f7
  have hout := fun a b => @dig_out un y1 y0 u1 a b Q1 Y F1.out hQ1 f3
  have Hnext := Lib.hid hnext
  have Hout := Lib.hid hout
  have G1 := Lib.hid g1
  have HQ1 := Lib.hid hQ1
  clear hQ1 g1 hnext hout
  go_enter Try.func49, Try.ntmps49
  go_upto_block 0 with (go_at_call 71; refine (Hc.out _).mono ?_; rintro e w' ⟨rfl, rfl⟩)
  go_cut [15] (fun x wx => x = .int .u64 Q1 ∧ wx = w)
  case first =>
    clear e1 e2 e3 e4 e5 e6 e7 e8 e9
    go_wp2_with fail
    go_loop [15, 16] (fun x z => ∃ a b : Nat, x = .int .u64 a ∧ z = .int .u64 b ∧ Hid (a * y1 + b = un ∧ Q1 ≤ a) ∧ b < 4294967296 ∧ a ≤ 18446744073709551615) (fun x _ => (intOf x).toNat)
    case atStart => exact ⟨q, r, rfl, rfl, G1, by omega, by omega⟩
    case round =>
      obtain ⟨a, b, rfl, rfl, hi1, hi2, hi3⟩ := hrel
      have F3 := Lib.hid f3
      have F3' := Lib.hid f3'
      have F2 := Lib.hid f2
      have F5 := Lib.hid f5
      have D4 := Lib.hid hi2
      have d0 : (a : Int) ≤ 18446744073709551615 := by omega
      have d3 : (b : Int) < 4294967296 := by omega
      have d4 : (y1 : Int) < 4294967296 := by omega
      have d5 : (2147483648 : Int) ≤ y1 := by omega
      have d6 : (u1 : Int) < 4294967296 := by omega
      clear hYb hl hy b1 b2 h0 hh t0 t1 hy2 g2 g3 g4 g5 f7 f3 f3' f2 f5 f6 hi2 hi3
      by_cases c1 : (4294967296 : Int) ≤ (a : Int)
      · obtain ⟨a', rfl, j1, j2⟩ := Hnext.out a b hi1.out (.inl (by omega))
        have J1 := Lib.hid j1
        have J2 := Lib.hid j2
        have C1 : (4294967296 : Int) ≤ (a' : Int) + 1 := by omega
        have D0 : (a' : Int) + 1 ≤ 18446744073709551615 := by omega
        clear j1 j2 hi1 c1 d0
        by_cases c3 : (4294967296 : Int) ≤ (b : Int) + y1
        · go_wp2_with fail
          go_meet
          exact ⟨by rw [← J2.out (by omega)], rfl⟩
        · go_wp2_with fail
          go_round
          case rel => exact ⟨a', b + y1, rfl, by go_num, J1, by omega, by omega⟩
          case measure => simp [intOf]
      · obtain ⟨p1, p2⟩ := half_prod a y0 (by omega) F2.out
        by_cases c2 : 4294967296 * (b : Int) + u1 < (a : Int) * y0
        · have C2 := Lib.hid c2
          obtain ⟨a', ha', j1, j2⟩ := Hnext.out a b hi1.out (.inr (by have := prod_cast a y0; omega))
          have A := Lib.hid ha'
          have J1 := Lib.hid j1
          have J2 := Lib.hid j2
          have d1 : (1 : Int) ≤ (a : Int) := by omega
          clear ha' j1 j2 hi1
          by_cases c3 : (4294967296 : Int) ≤ (b : Int) + y1
          · go_wp2_with fail
            go_meet
            exact ⟨by rw [← J2.out (by omega)]; have := A.out; go_num, rfl⟩
          · go_wp2_with fail
            go_round
            case rel => exact ⟨a', b + y1, by have := A.out; go_num, by go_num, J1, by omega, by have := A.out; omega⟩
            case measure => have := A.out; simp [intOf]; omega
        · have J := Lib.hid (Hout.out a b hi1.out (by have := prod_cast a y0; omega))
          clear hi1
          go_wp2_with fail
          go_meet
          exact ⟨by rw [← J.out], rfl⟩
  case rest =>
    obtain ⟨rfl, rfl⟩ := hcut
    clear e1 e2 e3 e4 e5 e6 e7 e8 e9 g2 g3 g4 g5
    obtain ⟨r1, hr1⟩ : ∃ r1, r1 = (un * 4294967296 + u1) % Y := ⟨_, rfl⟩
    have hr1Y : r1 < Y := by rw [hr1]; exact Nat.mod_lt _ (by omega)
    have ed := Nat.div_add_mod (un * 4294967296 + u1) Y
    rw [← HQ1.out, ← hr1] at ed
    have ep := prod_cast Q1 Y
    have ec := Nat.mul_comm Y Q1
    have er : IntKind.u64.wrap (IntKind.u64.wrap (IntKind.u64.wrap ((un : Int) * 4294967296) + u1) - IntKind.u64.wrap ((Q1 : Int) * Y)) = (r1 : Int) := by
      rw [IntKind.wrap_u64, IntKind.wrap_u64, IntKind.wrap_u64, IntKind.wrap_u64]; omega
    clear ed ep ec
    obtain ⟨Q0, hQ0⟩ : ∃ Q0, Q0 = (r1 * 4294967296 + u0) / Y := ⟨_, rfl⟩
    obtain ⟨q', r', e8, e9, g1, g2, g3, g4, g5⟩ := dig_first F1.out hQ0 f3 f6
    have hnext := fun a b => @dig_next r1 y1 y0 u0 a b Q0 Y F1.out hQ0 f3 f2 f6 hr1Y
    have hout := fun a b => @dig_out r1 y1 y0 u0 a b Q0 Y F1.out hQ0 f3
    have Hnext' := Lib.hid hnext
    have Hout' := Lib.hid hout
    have G1' := Lib.hid g1
    have HQ0 := Lib.hid hQ0
    have HR1 := Lib.hid hr1
    clear hQ0 g1 hnext hout hr1
    go_upto_block 2 with fail
    go_cut [18] (fun x wx => x = .int .u64 Q0 ∧ wx = wc)
    case first =>
      clear er e8 e9
      go_wp2_with fail
      go_loop [18, 16] (fun x z => ∃ a b : Nat, x = .int .u64 a ∧ z = .int .u64 b ∧ Hid (a * y1 + b = r1 ∧ Q0 ≤ a) ∧ b < 4294967296 ∧ a ≤ 18446744073709551615) (fun x _ => (intOf x).toNat)
      case atStart => exact ⟨q', r', rfl, rfl, G1', by omega, by omega⟩
      case round =>
        obtain ⟨a, b, rfl, rfl, hi1, hi2, hi3⟩ := hrel
        have F3 := Lib.hid f3
        have F3' := Lib.hid f3'
        have F2 := Lib.hid f2
        have F5 := Lib.hid f6
        have D4 := Lib.hid hi2
        have d0 : (a : Int) ≤ 18446744073709551615 := by omega
        have d3 : (b : Int) < 4294967296 := by omega
        have d4 : (y1 : Int) < 4294967296 := by omega
        have d5 : (2147483648 : Int) ≤ y1 := by omega
        have d6 : (u0 : Int) < 4294967296 := by omega
        clear hYb hl hy b1 b2 h0 hh t0 t1 hy2 g2 g3 g4 g5 f7 hr1Y f3 f3' f2 f5 f6 hi2 hi3
        by_cases c1 : (4294967296 : Int) ≤ (a : Int)
        · obtain ⟨a', rfl, j1, j2⟩ := Hnext'.out a b hi1.out (.inl (by omega))
          have J1 := Lib.hid j1
          have J2 := Lib.hid j2
          have C1 : (4294967296 : Int) ≤ (a' : Int) + 1 := by omega
          have D0 : (a' : Int) + 1 ≤ 18446744073709551615 := by omega
          clear j1 j2 hi1 c1 d0
          by_cases c3 : (4294967296 : Int) ≤ (b : Int) + y1
          · go_wp2_with fail
            go_meet
            exact ⟨by rw [← J2.out (by omega)], rfl⟩
          · go_wp2_with fail
            go_round
            case rel => exact ⟨a', b + y1, rfl, by go_num, J1, by omega, by omega⟩
            case measure => simp [intOf]
        · obtain ⟨p1, p2⟩ := half_prod a y0 (by omega) F2.out
          by_cases c2 : 4294967296 * (b : Int) + u0 < (a : Int) * y0
          · have C2 := Lib.hid c2
            obtain ⟨a', ha', j1, j2⟩ := Hnext'.out a b hi1.out (.inr (by have := prod_cast a y0; omega))
            have A := Lib.hid ha'
            have J1 := Lib.hid j1
            have J2 := Lib.hid j2
            have d1 : (1 : Int) ≤ (a : Int) := by omega
            clear ha' j1 j2 hi1
            by_cases c3 : (4294967296 : Int) ≤ (b : Int) + y1
            · go_wp2_with fail
              go_meet
              exact ⟨by rw [← J2.out (by omega)]; have := A.out; go_num, rfl⟩
            · go_wp2_with fail
              go_round
              case rel => exact ⟨a', b + y1, by have := A.out; go_num, by go_num, J1, by omega, by have := A.out; omega⟩
              case measure => have := A.out; simp [intOf]; omega
          · have J := Lib.hid (Hout'.out a b hi1.out (by have := prod_cast a y0; omega))
            clear hi1
            go_wp2_with fail
            go_meet
            exact ⟨by rw [← J.out], rfl⟩
    case rest =>
      obtain ⟨rfl, rfl⟩ := hcut
      clear er e8 e9 g2 g3 g4 g5
      obtain ⟨r0, hr0⟩ : ∃ r0, r0 = (r1 * 4294967296 + u0) % Y := ⟨_, rfl⟩
      have hr0Y : r0 < Y := by rw [hr0]; exact Nat.mod_lt _ (by omega)
      have ed := Nat.div_add_mod (r1 * 4294967296 + u0) Y
      rw [← HQ0.out, ← hr0] at ed
      have ep := prod_cast Q0 Y
      have ec := Nat.mul_comm Y Q0
      have er : IntKind.u64.wrap (IntKind.u64.wrap (IntKind.u64.wrap ((r1 : Int) * 4294967296) + u0) - IntKind.u64.wrap ((Q0 : Int) * Y)) = (r0 : Int) := by
        rw [IntKind.wrap_u64, IntKind.wrap_u64, IntKind.wrap_u64, IntKind.wrap_u64]; omega
      have HE := Lib.hid (Hend.out Q1 Q0 r1 r0 HQ1.out HR1.out HQ0.out hr0)
      clear ed ep ec hr0
      go_wp2_with fail
      go_ret2
      refine ⟨ret2 ?_ ?_, drew0 _⟩
      · exact quo_wrap h0 hl HE.out.1
      · exact rest_pow HE.out.2

theorem div64_small (hi lo y : Nat) (w : World) (h0 : hi < y) (hh : hi = 0) (hy : y < 18446744073709551616) (hl : lo < 18446744073709551616) :
    Calls Try.prog 49 #[.int .u64 hi, .int .u64 lo, .int .u64 y] w fun e w' => e = .returned (.tuple #[.int .u64 ((hi * 18446744073709551616 + lo) / y : Nat), .int .u64 ((hi * 18446744073709551616 + lo) % y : Nat)]) ∧ ∃ n, w' = w.drewN n := by
  have H := Lib.hid hh
  have t0 : ((y : Int) == 0) = false := by simp; omega
  have t1 : ((hi : Int) == 0) = true := by simp; omega
  have hy2 : 0 < y := by omega
  clear hh
  go_enter Try.func49, Try.ntmps49
  go_wp2
  go_quiet (fail)
  go_wp2
  go_ret2
  refine ⟨ret2 ?_ ?_, _, rfl⟩
  · rw [H.out]; simp [small_wrap lo y hl]
  · rw [H.out]; simp

/-- math/bits.Div64: quotient and rest of a pair without a sign, the high one below the divisor. -/
theorem bits_Div64 (hi lo y : Nat) (w : World) (h0 : hi < y) (hy : y < 18446744073709551616) (hl : lo < 18446744073709551616) :
    Calls Try.prog 49 #[.int .u64 hi, .int .u64 lo, .int .u64 y] w fun e w' => e = .returned (.tuple #[.int .u64 ((hi * 18446744073709551616 + lo) / y : Nat), .int .u64 ((hi * 18446744073709551616 + lo) % y : Nat)]) ∧ ∃ n, w' = w.drewN n := by
  by_cases hh : hi = 0
  · exact div64_small hi lo y w h0 hh hy hl
  · exact div64_big hi lo y w h0 (by omega) hy hl
end Go.Proofs.Ytkchnmilmepnfaa
