/- The walks of layer 1 (cell), part B: quotients of pairs, by the program and by the document's answer. -/
import Derived.Test.YtpjhgokdkgnbdaaDiv64
import Derived.Test.YtpjhgokdkgnbdaaCellM
import Derived.Laws.Externs
namespace Go.Proofs.Ytpjhgokdkgnbdaa
open Go.RowKit

theorem cell_UDiv (lo hi d : Int) (w : World) :
    Calls Try.prog 64 #[.int .i64 lo, .int .i64 hi, .int .i64 d] w fun e w' => e = .returned (.tuple #[.int .i64 (udivS lo hi d).1, .int .i64 (udivS lo hi d).2.1, .int .i64 (udivS lo hi d).2.2]) ∧ ∃ n, w' = w.drewN n := by
  have b1 := U_lt lo
  have b2 := U_lt d
  by_cases h : d = 0
  · have E : udivS lo hi d = (0, 0, -10) := by simp [udivS, h]
    have H := Lib.hid E
    have t : (d == 0) = true := by simp [h]
    clear E h b1 b2
    go_enter Try.func64, Try.ntmps64
    go_wp2
    go_ret3
    exact ⟨ret3 (by rw [H.out]) (by rw [H.out]) (by rw [H.out]), drew0 w⟩
  · have t : (d == 0) = false := by simp [h]
    by_cases h2 : U d ≤ U hi
    · have E : udivS lo hi d = (0, 0, -11) := by simp [udivS, h, h2]
      have H := Lib.hid E
      have t2 : decide (U hi < U d) = false := by simp; omega
      clear E b1 b2
      go_enter Try.func64, Try.ntmps64
      go_wp2_with (go_at_call 57; refine (cell_ULess _ _ _).mono ?_; rintro e w' ⟨rfl, rfl⟩)
      go_ret3
      exact ⟨ret3 (by rw [H.out]) (by rw [H.out]) (by rw [H.out]), drew0 w⟩
    · have E : udivS lo hi d = (S (PU lo hi / U d), S (PU lo hi % U d), 0) := by simp [udivS, h, h2]
      have H := Lib.hid E
      have t2 : decide (U hi < U d) = true := by simp; omega
      have HB := Lib.hid b1
      have HB2 := Lib.hid b2
      have H2 := Lib.hid h2
      clear E b1 b2 h2
      go_enter Try.func64, Try.ntmps64
      go_wp2_with (go_at_call 57; refine (cell_ULess _ _ _).mono ?_; rintro e w' ⟨rfl, rfl⟩)
      rw [U_wrap hi, U_wrap lo, U_wrap d]
      refine (bits_Div64 (U hi) (U lo) (U d) _ (by have := H2.out; omega) HB2.out HB.out).mono ?_
      rintro e w' ⟨rfl, n, rfl⟩
      go_wp2
      go_ret3
      exact ⟨ret3 (by rw [H.out]; simp [S, PU]) (by rw [H.out]; simp [S, PU]) (by rw [H.out]), _, rfl⟩

set_option maxRecDepth 100000 in
theorem ref_udiv (lo hi d : Nat) (w : World) (h : hi < d) (hd : d < 18446744073709551616) (hl : lo < 18446744073709551616) :
    Calls Try.prog 84 #[.int .u64 lo, .int .u64 hi, .int .u64 d] w fun e w' => e = .returned (.tuple #[.int .u64 ((hi * 18446744073709551616 + lo) / d : Nat), .int .u64 ((hi * 18446744073709551616 + lo) % d : Nat)]) ∧ w = w' := by
  have hn := seen_none lo hi hl
  have hq := fun j hj => seen_quot lo hi j d h hl hj
  have hs := seen_step lo hi
  have hz := seen_all lo hi
  have h64 : seen lo hi 64 / d = 0 ∧ seen lo hi 64 % d = hi := by rw [hn]; exact ⟨Nat.div_eq_of_lt h, Nat.mod_eq_of_lt h⟩
  have Hq := Lib.hid hq
  have Hs := Lib.hid hs
  have Hz := Lib.hid hz
  have H64 := Lib.hid h64
  have HD := Lib.hid (show 0 < d by omega)
  have HD2 := Lib.hid hd
  clear hn hq hs hz h64 h hd hl
  go_enter Try.func84, Try.ntmps84
  go_wp2
  go_loop [8, 9, 10] (fun x y z => ∃ (k : Nat) (q r : Nat) (i : Int), k ≤ 64 ∧ Hid (seen lo hi k / d = q ∧ seen lo hi k % d = r) ∧ Hid (i = (k : Int) - 1) ∧ x = .int .u64 q ∧ y = .int .u64 r ∧ z = .int .i64 i) (fun _ _ z => (intOf z + 1).toNat)
  case atStart => exact ⟨64, 0, hi, 63, by omega, H64, (by decide : (63 : Int) = ((64 : Nat) : Int) - 1), rfl, rfl, rfl⟩
  case round =>
    obtain ⟨k, q, r, i, hk, hqr, hi', rfl, rfl, rfl⟩ := hrel
    clear H64
    by_cases h0 : k = 0
    · have E : Hid ((hi * 18446744073709551616 + lo) / d = q ∧ (hi * 18446744073709551616 + lo) % d = r) := by
        have := hqr.out; rw [h0, Hz.out] at this; exact this
      obtain rfl : i = -1 := by have := hi'.out; omega
      clear h0 hqr hi'
      go_wp2
      go_ret2
      exact ⟨ret2 (by simp [← E.out.1]) (by simp [← E.out.2]), rfl⟩
    · obtain ⟨j, rfl⟩ : ∃ j, k = j + 1 := ⟨k - 1, by omega⟩
      obtain rfl : i = (j : Int) := by have := hi'.out; omega
      have hj : (j : Int) ≤ 63 := by omega
      obtain ⟨b, hb, eb⟩ : ∃ b : Nat, b = lo / 2 ^ j % 2 ∧ ((lo : Int) / 2 ^ j % 2 = (b : Int)) := ⟨_, rfl, by simp⟩
      have hnn : (0 : Int) ≤ (lo : Int) / 2 ^ j := by
        have e : (lo : Int) / 2 ^ j = ((lo / 2 ^ j : Nat) : Int) := by simp
        rw [e]; exact Int.natCast_nonneg _
      have hb2 : b < 2 := by rw [hb]; exact Nat.mod_lt _ (by decide)
      have es : seen lo hi j = 2 * seen lo hi (j + 1) + b := by rw [hb]; exact Hs.out j (by omega)
      have hq1 : (q : Int) ≤ 9223372036854775807 := by have := Hq.out j (by omega); have := hqr.out.1; omega
      have hr1 : (r : Int) < d := by have := hqr.out.2; have := Nat.mod_lt (seen lo hi (j + 1)) HD.out; omega
      have hd1 : (d : Int) ≤ 18446744073709551615 := by have := HD2.out; omega
      have hb3 : (b : Int) ≤ 1 := by omega
      have hM := fun h => @bit_more (seen lo hi (j + 1)) d b HD.out h hb2
      have hL := fun h => @bit_less (seen lo hi (j + 1)) d b h
      rw [← es, hqr.out.1, hqr.out.2] at hM hL
      have HM := Lib.hid hM
      have HL := Lib.hid hL
      clear h0 hqr hi' hb es hM hL hb2
      by_cases c1 : (9223372036854775808 : Int) ≤ r
      · have er : IntKind.u64.wrap (IntKind.u64.wrap (IntKind.u64.wrap (2 * (r : Int)) + b) - d) = ((2 * r + b - d : Nat) : Int) := by
          rw [IntKind.wrap_u64, IntKind.wrap_u64, IntKind.wrap_u64]; omega
        have HR := Lib.hid (HM.out (by omega))
        obtain ⟨r', hr'⟩ : ∃ r', 2 * r + b - d = r' := ⟨_, rfl⟩
        rw [hr'] at er
        have HR' : Hid (seen lo hi j / d = 2 * q + 1 ∧ seen lo hi j % d = r') := by have := HR.out; rw [hr'] at this; exact this
        clear HR hr'
        go_wp2
        go_round
        case rel => exact ⟨j, 2 * q + 1, r', (j : Int) - 1, by omega, HR', (rfl : (j : Int) - 1 = (j : Int) - 1), by go_num, rfl, by go_num⟩
        case measure => simp [intOf]
      · by_cases c2 : (d : Int) ≤ 2 * (r : Int) + b
        · have HR := Lib.hid (HM.out (by omega))
          have er : 2 * (r : Int) + b - d = ((2 * r + b - d : Nat) : Int) := by omega
          obtain ⟨r', hr'⟩ : ∃ r', 2 * r + b - d = r' := ⟨_, rfl⟩
          rw [hr'] at er
          have HR' : Hid (seen lo hi j / d = 2 * q + 1 ∧ seen lo hi j % d = r') := by have := HR.out; rw [hr'] at this; exact this
          clear HR hr'
          go_wp2
          go_round
          case rel => exact ⟨j, 2 * q + 1, r', (j : Int) - 1, by omega, HR', (rfl : (j : Int) - 1 = (j : Int) - 1), by go_num, by go_num, by go_num⟩
          case measure => simp [intOf]
        · have HR := Lib.hid (HL.out (by omega))
          go_wp2
          go_round
          case rel => exact ⟨j, 2 * q, 2 * r + b, (j : Int) - 1, by omega, HR, (rfl : (j : Int) - 1 = (j : Int) - 1), by go_num, by go_num, by go_num⟩
          case measure => simp [intOf]
end Go.Proofs.Ytpjhgokdkgnbdaa
