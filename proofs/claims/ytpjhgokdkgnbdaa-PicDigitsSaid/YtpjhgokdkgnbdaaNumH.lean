/- The statements on how many digits a cell has, and that what is shown is parsed: their walks. -/
import Derived.Test.YtpjhgokdkgnbdaaNumG
namespace Go.Proofs.Ytpjhgokdkgnbdaa
open Go.RowKit

theorem cellsOf_NumBackIn : Try.prog.cellsOf 66 = 4 := by kernel_rfl

theorem walk_NumBack (v : Value) (w : World) (h : Reads w 66 v) : Calls Try.prog 10 #[v] w fun e w' => e = .returned (.bool true) ∧ Below w.heap.size w w' := by
  obtain ⟨cs, rfl, hl, hr⟩ := reads_struct Try.underlying66 h
  rw [cellsOf_NumBackIn] at hl
  obtain ⟨a, b, c, d, e⟩ := four_list hl
  rw [e] at hr
  have f0 := rd_field1 Try.underlying66 hr 0 _ rfl cellsOf_int a rfl
  have f1 := rd_field1 Try.underlying66 hr 1 _ rfl cellsOf_int b rfl
  have f2 := rd_field1 Try.underlying66 hr 2 _ rfl cellsOf_int c rfl
  have f3 := rd_field1 Try.underlying66 hr 3 _ rfl cellsOf_int d rfl
  obtain ⟨n, h0, w0⟩ := rd_int Try.underlying3 f0
  obtain ⟨m, h1, w1⟩ := rd_int Try.underlying3 f1
  obtain ⟨x, h2, w2⟩ := rd_int Try.underlying3 f2
  obtain ⟨y, h3, w3⟩ := rd_int Try.underlying3 f3
  simp only [List.cons.injEq, and_true] at h0 h1 h2 h3
  subst h0 h1 h2 h3
  obtain rfl := agg_list e
  by_cases hb : isB x = true
  · exact walk_NumBack_yes n m x y w (fit_wf w0) (fit_wf w1) hb
  · exact walk_NumBack_no n m x y w (fit_wf w0) (fit_wf w1) (by simpa using hb)

/-- The first digit that is shown. -/
theorem ushow_head (u B : Nat) (h2 : 2 ≤ B) (hu : u < 18446744073709551616) : ∃ d l, ushowL u B = chr d :: l ∧ d < B ∧ (d = 0 → u = 0) := by
  have hl := digL_last B h2 64 u
  have hm := digL_lt B (by omega) 64 u
  unfold ushowL
  rcases List.eq_nil_or_concat (digL B 64 u) with h | ⟨ds, d, h⟩
  · exact absurd h (digL_ne B 63 u)
  · rw [h] at hl hm ⊢
    refine ⟨d, (ds.map chr).reverse, by simp, hm d (by simp), fun h0 => ?_⟩
    rcases Nat.eq_zero_or_pos u with h | hpos
    · exact h
    · exact absurd h0 (hl hpos (pow64 B h2 hu) d (by simp))
theorem digS_nought {d : Nat} (h : digS (d : Int) = 48) : d = 0 := by
  unfold digS at h
  split at h
  · omega
  · split at h <;> omega
theorem head_of (A : ByteArray) (c : UInt8) (l : List UInt8) (h : A.data.toList = c :: l) (h0 : 0 < A.size) : A[0] = c := by
  have : A.data.toList[0]'(by rw [size_list]; exact h0) = c := by simp only [h, List.getElem_cons_zero]
  exact this
theorem digL_len1 {B r v : Nat} (h : v / B = 0) : (digL B (r + 1) v).length = 1 := by simp [digL, h]
theorem digL_len2 {B r v : Nat} (h : ¬ v / B = 0) : (digL B (r + 1) v).length = (digL B r (v / B)).length + 1 := by simp [digL, h]

set_option maxRecDepth 100000 in
set_option maxHeartbeats 2000000 in
theorem walk_NumLong_at (n b : Int) (w : World) (hn : Fit n) : Calls Try.prog 13 #[.int .i64 n, .int .i64 b] w fun e w' => e = .returned (.bool true) ∧ Below w.heap.size w w' := by
  have c0 := Below.refl w.heap.size w
  by_cases hb : isB b = true
  · obtain ⟨B, rfl, h2, h3⟩ := base_nat hb
    obtain ⟨A, a1, a2, h1⟩ := ushow_named n B hn hb
    rw [Int.toNat_natCast] at a2
    obtain ⟨d, l, hd, hdB, hd0⟩ := ushow_head (U n) B h2 (U_lt n)
    have hA0 : 0 < A.size := by rw [← size_list, a2, hd]; simp
    have hAc : (A[0].toNat : Int) = digS (d : Int) := by rw [head_of A _ l (a2.trans hd) hA0]; exact chr_toNat d
    have hlead : (A[0].toNat : Int) = 48 → n = 0 := fun h => by
      have := hd0 (digS_nought (hAc ▸ h))
      have e := S_U n hn
      rw [this] at e
      rw [← e]; decide +kernel
    have hminus : ((A[0].toNat : Int) != 45) = true := by have := digS_rng (d : Int); simp; omega
    have hAl : A.size = (digL B 64 (U n)).length := by rw [← size_list, a2]; simp [ushowL]
    have H1 := Lib.hid h1
    have u1 := U_wrap n
    have u2 := u64_base B h3
    have HU := Lib.hid (U_lt n)
    have HL := Lib.hid hlead
    have HA := Lib.hid hAl
    have g1 : decide ((B : Int) < 2) = false := by simp; omega
    have g2 : decide (36 < (B : Int)) = false := by simp; omega
    clear h1 hd hAc hd0 hdB hlead hAl a2 hb
    obtain ⟨u, hu⟩ : ∃ u, U n = u := ⟨_, rfl⟩
    rw [hu] at u1 HU HA
    clear hu
    go_enter Try.func13, Try.ntmps13
    go_wp2_with fail
    refine (num_shown _).mono ?_
    rintro e w1 ⟨rfl, b1⟩
    have c1 := c0.trans (b1.mono c0.size)
    clear c0 b1
    go_wp2_with fail
    refine (H1.out _).mono ?_
    rintro e w2 ⟨rfl, b2⟩
    have c2 := c1.trans (b2.mono c1.size)
    clear c1 b2
    go_wp2_with fail
    go_loopw [8, 9] (fun x y wr => ∃ (r v k : Nat), x = .int .u64 (v : Int) ∧ y = .int .i64 (k : Int) ∧ Hid (v < 18446744073709551616) ∧ Hid (v < 2 ^ (r + 1)) ∧ 1 ≤ k ∧ k ≤ A.size ∧ Hid (k + (digL B (r + 1) v).length = A.size + 1) ∧ Below w.heap.size w wr) (fun x _ _ => (intOf x).toNat)
    case atStart => exact ⟨63, u, 1, rfl, rfl, HU, two64 HU.out, by omega, hA0, by have := HA.out; show 1 + (digL B 64 u).length = A.size + 1; omega, c2⟩
    case round =>
      obtain ⟨r, v, k, rfl, rfl, hv, hvr, hk, hkA, hlen, hbel⟩ := hrel
      by_cases hlt : v / B = 0
      · have hlt2 : (v : Int) < (B : Int) := by have := (Nat.div_eq_zero_iff_lt (show 0 < B by omega)).1 hlt; omega
        have he := hlen.out
        rw [digL_len1 hlt] at he
        obtain rfl : k = A.size := by omega
        clear hlt he hlen
        by_cases h48 : (A[0].toNat : Int) = 48
        · have z1 : ((A[0].toNat : Int) != 48) = false := by simp [h48]
          have z2 : (n == 0) = true := by simp [HL.out h48]
          clear h48
          go_wp2
          go_ret
          exact ⟨rfl, hbel⟩
        · have z1 : ((A[0].toNat : Int) != 48) = true := by simp [h48]
          clear h48
          go_wp2
          go_ret
          exact ⟨rfl, hbel⟩
      · have hge2 : (B : Int) ≤ (v : Int) := by have : ¬ v < B := fun h => hlt (Nat.div_eq_of_lt h); omega
        have hlen2 := hlen.out
        rw [digL_len2 hlt] at hlen2
        obtain ⟨q, hq⟩ : ∃ q, v / B = q := ⟨_, rfl⟩
        have hqI := div_cast_eq hq
        have hr1 := r_pos hlt hvr.out h2
        obtain ⟨r, rfl⟩ : ∃ r', r = r' + 1 := ⟨r - 1, by omega⟩
        have hv' : v / B < 18446744073709551616 := Nat.lt_of_le_of_lt (Nat.div_le_self _ _) hv.out
        have hvr' := pow_half hvr.out h2
        have hmeas : q < v := by rw [← hq]; exact Nat.div_lt_self (Nat.pos_of_ne_zero (fun e => hlt (by rw [e]; exact Nat.zero_div B))) h2
        rw [hq] at hv' hvr' hlen2
        have hqw : IntKind.u64.wrap (q : Int) = (q : Int) := IntWalk.u64_in _ (by omega)
        have hone : 1 ≤ (digL B (r + 1) q).length := by simp [digL]
        have HV := Lib.hid hv'
        have HR := Lib.hid hvr'
        have HS := Lib.hid hmeas
        have HN := Lib.hid (show k + 1 + (digL B (r + 1) q).length = A.size + 1 by omega)
        have hk2 : k + 1 ≤ A.size := by omega
        clear hlt hq hr1 hv' hvr' hmeas hv hvr hlen hlen2 hone
        go_wp2
        go_roundw
        case rel => exact ⟨r, q, k + 1, rfl, by go_num, HV, HR, by omega, hk2, HN, hbel⟩
        case measure => have := HS.out; simp [intOf]; omega
  · have e : ushowS n b = ([], -24) := by unfold ushowS; rw [if_neg hb]
    have h1 := fun w => num_UShow n b w hn
    rw [e] at h1
    have H1 := Lib.hid h1
    have hb2 : ¬ (2 ≤ b ∧ b ≤ 36) := fun h => hb ((isB_iff b).2 h)
    clear hb e h1
    by_cases h2 : b < 2
    · have t : decide (b < 2) = true := by simp [h2]
      go_enter Try.func13, Try.ntmps13
      go_wp2_with fail
      refine (num_shown _).mono ?_
      rintro e w1 ⟨rfl, b1⟩
      have c1 := c0.trans (b1.mono c0.size)
      clear c0 b1
      go_wp2_with fail
      refine (H1.out _).mono ?_
      rintro e w2 ⟨rfl, b2⟩
      have c2 := c1.trans (b2.mono c1.size)
      clear c1 b2
      go_wp2
      go_ret
      exact ⟨rfl, c2⟩
    · have t : decide (b < 2) = false := by simp; omega
      have t2 : decide (36 < b) = true := by simp; omega
      go_enter Try.func13, Try.ntmps13
      go_wp2_with fail
      refine (num_shown _).mono ?_
      rintro e w1 ⟨rfl, b1⟩
      have c1 := c0.trans (b1.mono c0.size)
      clear c0 b1
      go_wp2_with fail
      refine (H1.out _).mono ?_
      rintro e w2 ⟨rfl, b2⟩
      have c2 := c1.trans (b2.mono c1.size)
      clear c1 b2
      go_wp2
      go_ret
      exact ⟨rfl, c2⟩
theorem walk_NumLong (v0 v1 : Value) (w : World) (h0 : Reads w 3 v0) (h1 : Reads w 3 v1) : Calls Try.prog 13 #[v0, v1] w fun e w' => e = .returned (.bool true) ∧ Below w.heap.size w w' := by
  obtain ⟨n, rfl, w0⟩ := reads_int Try.underlying3 h0
  obtain ⟨b, rfl, w1⟩ := reads_int Try.underlying3 h1
  exact walk_NumLong_at n b w (fit_wf w0)
end Go.Proofs.Ytpjhgokdkgnbdaa
