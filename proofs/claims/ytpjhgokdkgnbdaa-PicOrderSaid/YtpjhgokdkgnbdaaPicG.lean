/- The walks of layer 7 (pic), part G: a pair's last digit more, by the document's answer. -/
import Derived.Test.YtpjhgokdkgnbdaaPicF
import Derived.Test.YtpjhgokdkgnbdaaCellC
namespace Go.Proofs.Ytpjhgokdkgnbdaa
open Go.RowKit

set_option maxRecDepth 100000 in
set_option maxHeartbeats 8000000 in
theorem ref_PicDigit (v : Value) (p : PicL) (lo hi b : Int) (w : World) (h : PicAt w v p) : Calls Try.prog 35 #[v, .int .i64 lo, .int .i64 hi, .int .i64 b] w (GivesPic4 w (digitS p lo hi b)) := by
  obtain ⟨a, cap, rfl, hs⟩ := picAt_form h
  have b0 := fun o1 o2 => ((Below.refl w.heap.size w).alloc (Nat.le_refl _) o1).alloc (by simp) o2
  have HS := Lib.hid hs
  by_cases hb : isB b = true
  · obtain ⟨B, rfl, h2, h3⟩ := base_nat hb
    obtain ⟨e1, e2, e3⟩ := quot_is lo hi B h2
    have hD2 := fun w => ref_UDiv lo ((U hi % B : Nat) : Int) (B : Int) w
    rw [udivS_low lo _ B h2 h3 (Nat.mod_lt _ (by omega)), ← e3, ← e1] at hD2
    have hh := holdS_digit p lo hi B hb
    obtain ⟨d, hd⟩ : ∃ d : Nat, PU lo hi % B = d := ⟨_, rfl⟩
    have hd35 : d ≤ 35 := by have := Nat.mod_lt (PU lo hi) (show 0 < B by omega); omega
    rw [hd] at hD2 hh
    obtain ⟨R, hR⟩ : ∃ R : Nat, U hi % B = R := ⟨_, rfl⟩
    rw [hR] at hD2
    have hRI := mod_cast_eq hR
    have hR35 : (R : Int) ≤ 35 := by have := Nat.mod_lt (U hi) (show 0 < B by omega); omega
    obtain ⟨Q, hQ⟩ : ∃ Q : Nat, U hi / B = Q := ⟨_, rfl⟩
    have hQI := div_cast_eq hQ
    rw [hQ] at e2
    have hQl : (Q : Int) ≤ 18446744073709551615 := by have := Nat.div_le_self (U hi) B; have := U_lt hi; omega
    have hQw : IntKind.u64.wrap (Q : Int) = (Q : Int) := IntWalk.u64_in _ (by omega)
    have hRw : IntKind.u64.wrap (R : Int) = (R : Int) := IntWalk.u64_in _ (by omega)
    have u1 := U_wrap hi
    have u2 := u64_base B h3
    obtain ⟨UH, hUH⟩ : ∃ UH : Nat, U hi = UH := ⟨_, rfl⟩
    rw [hUH] at u1 hRI hQI
    obtain ⟨q, k, hq⟩ : ∃ q k, holdS p (digS (d : Int)) = (q, k) := ⟨_, _, rfl⟩
    rw [hq] at hh
    have hH : ∀ o1 o2, Calls Try.prog 33 _ _ _ := fun o1 o2 => ref_Hold _ p (digS (d : Int)) (((w.alloc o1).alloc o2).drew) (picAt_below h (below_drewN (b0 o1 o2) 1))
    rw [hq] at hH
    have hH3 : ∀ o1 o2 o3, Calls Try.prog 33 _ _ _ := fun o1 o2 o3 => ref_Hold _ p (digS (d : Int)) ((((w.alloc o1).alloc o2).alloc o3).drew) (picAt_below h (below_drewN ((b0 o1 o2).alloc (by simp; omega) o3) 1))
    rw [hq] at hH3
    have HH3 := Lib.hid hH3
    have HB2 := (isB_iff _).1 hb
    have g1 : decide ((B : Int) < 2) = false := by simp; omega
    have g2 : decide (36 < (B : Int)) = false := by simp; omega
    have HD2 := Lib.hid hD2
    have HH := Lib.hid hH
    clear hD2 hH hH3 hs h e1 e3 hd hR hQ hUH hq hb HB2 hQl
    obtain ⟨l', hl'⟩ : ∃ l', loQ lo hi B = l' := ⟨_, rfl⟩
    obtain ⟨h', hh'⟩ : ∃ h', hiQ lo hi B = h' := ⟨_, rfl⟩
    rw [hl', hh'] at hh
    have E := Lib.hid hh
    clear hh
    rw [hl'] at HD2
    have hQS : wrap64 (Q : Int) = h' := by rw [← hh', e2]; rfl
    clear hl' hh' e2
    have hw8 : IntKind.i64.wrap (digS (d : Int)) = digS (d : Int) := by have := digS_rng (d : Int); exact IntWalk.i64_in _ (by omega)
    go_enter Try.func35, Try.ntmps35
    go_wp2_with (go_at_call 65; refine (HD2.out _).mono ?_; rintro e w1 ⟨rfl, rfl⟩)
    go_upto_region 6 with fail
    go_cut [17, 18] (fun s17 s18 wx => ∃ (g : Nat) (a1 : Option Addr) (cap1 : Nat), s17 = .pointer (some ⟨g, 0, none⟩) ∧ s18 = .int .i64 k ∧ Hid (Stored w wx (.slice a p.1.length cap) (.bool p.2) (.slice none 0 0) (.bool false) g (.slice a1 q.1.length cap1) q))
    case first =>
      go_region_with (first
        | (go_at_call 51; refine (ref_Digit (d : Int) _).mono ?_; rintro e w' ⟨rfl, rfl⟩)
        | (go_at_call 33; (with_reducible refine (HH.out _ _).mono ?_); rintro e w2 ⟨⟨v1, rfl, hp1⟩, hb2⟩; obtain ⟨a1, cap1, rfl, hs1⟩ := picAt_form hp1; have hb3 := Lib.hid hb2; have hs3 := Lib.hid hs1; obtain ⟨k0, k1, k2, k3, k4, k5, k6, k7, k8⟩ := two_blocks_d (n := 1) hb2 (by simp); clear hb2 hs1 hp1)
        | (go_at_call 33; (with_reducible refine (HH3.out _ _ _).mono ?_); rintro e w2 ⟨⟨v1, rfl, hp1⟩, hb2⟩; obtain ⟨a1, cap1, rfl, hs1⟩ := picAt_form hp1; have hb3 := Lib.hid hb2; have hs3 := Lib.hid hs1; obtain ⟨g0, g1, g2, g3, g4, k0, k1, k2, k3, k4, k5, k6, k7, k8⟩ := three_blocks_d (n := 1) hb2 (by simp); clear hb2 hs1 hp1))
      all_goals go_wp2_with fail
      all_goals go_meet
      all_goals first
        | exact ⟨_, _, _, rfl, rfl, Lib.hid (stored_new (n := 1) hb3.out (by simp) hs3.out)⟩
        | exact ⟨_, _, _, rfl, rfl, Lib.hid (stored_there (n := 1) hb3.out (by simp) hs3.out (fun y h => by cases h))⟩
    case rest =>
      obtain ⟨g, a1, cap1, rfl, rfl, hst⟩ := hcut
      obtain ⟨m0, m1, m2, m3, m4, m5, m6, m7, m8, m9, m10⟩ := hst.out
      have M0 := Lib.hid m0
      have M10 := Lib.hid m10
      clear m0 m10 hst
      by_cases hk : k = 0
      · have t1 : (k != 0) = false := by simp [hk]
        have E1 := E.out
        simp only [hk, if_true] at E1
        have E2 := Lib.hid E1
        clear E1
        clear hk
        go_wp2
        refine bodyPost_ret (v := .tuple #[.agg #[.slice a1 q.1.length cap1, .bool q.2], .int .i64 l', .int .i64 h', .int .i64 0]) (by simp [results, Try.results35, go_sem, m5, m6, hQS]) rfl ?_
        rw [E2.out]
        exact ⟨⟨_, rfl, _, rfl, bytesAt_stored M0.out m5 m6 (fun x hx => by cases hx) _ _⟩, (M10.out.setCell (by simp) _).setCell (by simp) _⟩
      · have t1 : (k != 0) = true := by simp [hk]
        have E1 := E.out
        simp only [hk, if_false] at E1
        have E2 := Lib.hid E1
        clear E1 hk
        go_wp2
        refine bodyPost_ret (v := .tuple #[.agg #[.slice a p.1.length cap, .bool p.2], .int .i64 lo, .int .i64 hi, .int .i64 k]) (by simp [results, Try.results35, go_sem, m5, m6]) rfl ?_
        rw [E2.out]
        exact ⟨⟨_, rfl, _, rfl, bytesAt_stored (bytesAt_below HS.out M10.out) m5 m6 (fun x hx => by cases hx) _ _⟩, (M10.out.setCell (by simp) _).setCell (by simp) _⟩
  · simp only [Bool.not_eq_true] at hb
    have e : digitS p lo hi b = (p, lo, hi, -24) := by unfold digitS; rw [if_pos hb]
    have E := Lib.hid e
    have hb2 : ¬ (2 ≤ b ∧ b ≤ 36) := fun h => by rw [(isB_iff b).2 h] at hb; cases hb
    clear hb e hs h
    by_cases h2 : b < 2
    · have t : decide (b < 2) = true := by simp [h2]
      go_enter Try.func35, Try.ntmps35
      go_wp2
      refine bodyPost_ret (v := .tuple #[.agg #[.slice a p.1.length cap, .bool p.2], .int .i64 lo, .int .i64 hi, .int .i64 (-24)]) (by simp [results, Try.results35, go_sem]) rfl ?_
      rw [E.out]
      exact ⟨⟨_, rfl, _, rfl, bytesAt_below HS.out (b0 _ _)⟩, b0 _ _⟩
    · have t : decide (b < 2) = false := by simp; omega
      have t2 : decide (36 < b) = true := by simp; omega
      go_enter Try.func35, Try.ntmps35
      go_wp2
      refine bodyPost_ret (v := .tuple #[.agg #[.slice a p.1.length cap, .bool p.2], .int .i64 lo, .int .i64 hi, .int .i64 (-24)]) (by simp [results, Try.results35, go_sem]) rfl ?_
      rw [E.out]
      exact ⟨⟨_, rfl, _, rfl, bytesAt_below HS.out (b0 _ _)⟩, b0 _ _⟩
end Go.Proofs.Ytpjhgokdkgnbdaa
