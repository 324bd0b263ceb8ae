/- The statement that the digits of a pair tell it: its walk. -/
import Derived.Test.YtpjhgokdkgnbdaaPicT
import Derived.Test.YtpjhgokdkgnbdaaPicS
namespace Go.Proofs.Ytpjhgokdkgnbdaa
open Go.RowKit Go.ChangeShapes

theorem bel_drewsN {w0 w w1 : World} {B q : Nat} (h : Below B w0 w) (hw : w1 = w.drewN q) : Below B w0 w1 := by rw [hw]; exact h.trans ⟨rfl, rfl, rfl, Nat.le_refl _, fun _ _ => rfl⟩
theorem wrap_i64 (n : Nat) : IntKind.i64.wrap (n : Int) = S n := i64_S n
theorem wrap_u64 (n : Int) : IntKind.u64.wrap n = (U n : Int) := U_wrap n
/-- A round's values, by name. -/
theorem digits_round {B : Nat} {s : ByteArray} {k L H : Nat} (h : AccAt B s.data.toList k L H) (hk : k < s.size) (hb : isB (B : Int) = true) (h2 : 2 ≤ B) (h3 : B ≤ 36) (hall : s.data.toList.all (okD B) = true) :
    ∃ (D : Nat) (x xr xq : Int) (r q Y G H1 H3 H2 : Nat), D ≤ 35 ∧
      (∀ w, Calls Try.prog 42 #[.int .u8 (s[k].toNat : Int), .int .i64 B] w fun e w' => e = .returned (.tuple #[.int .i64 D, .bool true]) ∧ w = w') ∧
      (∀ w, Calls Try.prog 43 #[.int .i64 x, .int .i64 B] w fun e w' => e = .returned (.tuple #[.int .i64 xr, .int .i64 xq]) ∧ ∃ n, w' = w.drewN n) ∧
      IntKind.i64.wrap (L : Int) = x ∧ IntKind.u64.wrap xr = (r : Int) ∧ IntKind.u64.wrap xq = (q : Int) ∧ IntKind.u64.wrap (D : Int) = (D : Int) ∧ IntKind.u64.wrap (B : Int) = (B : Int) ∧
      IntKind.u64.wrap ((r : Int) + (D : Int)) = (Y : Int) ∧ IntKind.u64.wrap ((H : Int) * (B : Int)) = (G : Int) ∧ IntKind.u64.wrap ((G : Int) + (q : Int)) = (H1 : Int) ∧ IntKind.u64.wrap ((H1 : Int) + 1) = (H3 : Int) ∧
      ((Y < r ∧ H2 = H3) ∨ (¬ Y < r ∧ H2 = H1)) ∧ True ∧ AccAt B s.data.toList (k + 1) Y H2 := by
  have hk' : k < s.data.toList.length := by rw [size_list]; exact hk
  have hmem : s.data.toList[k] ∈ s.data.toList := List.getElem_mem hk'
  have hok := (okD_iff _ _).1 (List.all_eq_true.1 hall _ hmem)
  have hsk : s.data.toList[k] = s[k] := rfl
  obtain ⟨D, hD⟩ : ∃ D : Nat, wd (s.data.toList[k].toNat : Int) = (D : Int) := ⟨(wd (s.data.toList[k].toNat : Int)).toNat, by omega⟩
  have hc0 := UInt8.toNat_lt s[k]
  have hL := h
  obtain ⟨V, _, _, hL1, hH1⟩ := hL
  have hW := fun w => ref_Worth (s[k].toNat : Int) B w (by omega) (by omega)
  have hw : worthS (s[k].toNat : Int) B = ((D : Int), true) := by
    rw [hsk] at hD hok
    unfold worthS
    rw [if_pos ⟨hb, hok⟩, hD]
  rw [hw] at hW
  have hM := fun w => ref_UMul (S L) B w
  have hu : umulS (S L) B = (S (L * B % 18446744073709551616), S (L * B / 18446744073709551616)) := by
    unfold umulS
    rw [U_S L hL1, show U (B : Int) = B from by unfold U; omega]
  rw [hu] at hM
  have hqlt : L * B / 18446744073709551616 < 18446744073709551616 := Nat.div_lt_of_lt_mul (Nat.mul_lt_mul_of_lt_of_lt hL1 (by omega))
  have hrlt : L * B % 18446744073709551616 < 18446744073709551616 := Nat.mod_lt _ (by omega)
  have wn : ∀ n : Nat, IntKind.u64.wrap (n : Int) = ((n % 18446744073709551616 : Nat) : Int) := fun n => by rw [wrap_u64]; unfold U; omega
  refine ⟨D, S L, S (L * B % 18446744073709551616), S (L * B / 18446744073709551616), L * B % 18446744073709551616, L * B / 18446744073709551616, (L * B % 18446744073709551616 + D) % 18446744073709551616, H * B % 18446744073709551616, (H * B % 18446744073709551616 + L * B / 18446744073709551616) % 18446744073709551616, ((H * B % 18446744073709551616 + L * B / 18446744073709551616) % 18446744073709551616 + 1) % 18446744073709551616,
    if (L * B % 18446744073709551616 + D) % 18446744073709551616 < L * B % 18446744073709551616 then ((H * B % 18446744073709551616 + L * B / 18446744073709551616) % 18446744073709551616 + 1) % 18446744073709551616 else (H * B % 18446744073709551616 + L * B / 18446744073709551616) % 18446744073709551616,
    by omega, hW, hM, wrap_i64 _, by rw [wrap_u64, U_S _ hrlt], by rw [wrap_u64, U_S _ hqlt], by rw [wn]; omega, by rw [wn]; omega, ?_, ?_, ?_, ?_, ?_, trivial, acc_next h hk' hD (by omega) rfl rfl rfl rfl rfl rfl⟩
  · rw [← Int.natCast_add, wn]
  · rw [← Int.natCast_mul, wn]
  · rw [← Int.natCast_add, wn]
  · rw [show ((((H * B % 18446744073709551616 + L * B / 18446744073709551616) % 18446744073709551616 : Nat) : Int) + 1) = (((H * B % 18446744073709551616 + L * B / 18446744073709551616) % 18446744073709551616 + 1 : Nat) : Int) from by simp, wn]
  · generalize L * B % 18446744073709551616 = r
    generalize H * B % 18446744073709551616 = G
    by_cases hlt : (r + D) % 18446744073709551616 < r
    · exact .inl ⟨hlt, by rw [if_pos hlt]⟩
    · exact .inr ⟨hlt, by rw [if_neg hlt]⟩

set_option maxRecDepth 100000 in
set_option maxHeartbeats 8000000 in
theorem walk_PicDigits (v0 v1 v2 : Value) (w : World) (h0 : Reads w 3 v0) (h1 : Reads w 3 v1) (h2 : Reads w 3 v2) : Calls Try.prog 6 #[v0, v1, v2] w fun e w' => e = .returned (.bool true) ∧ Below w.heap.size w w' := by
  obtain ⟨lo, rfl, hl0⟩ := reads_int Try.underlying3 h0
  obtain ⟨hi, rfl, hh0⟩ := reads_int Try.underlying3 h1
  obtain ⟨b, rfl, hb0⟩ := reads_int Try.underlying3 h2
  have hl := fit_wf hl0
  have hh := fit_wf hh0
  clear h0 h1 h2 hl0 hh0 hb0
  have cc := Below.refl w.heap.size w
  by_cases hb : isB b = true
  · obtain ⟨B, rfl, h2, h3⟩ := base_nat hb
    obtain ⟨p, l, e1, e2, e3, e4, e5, e6, c, l', e7, e8⟩ := digits_law lo hi B hb h2 h3
    have t1 : decide ((B : Int) < 2) = false := by simp; omega
    have t2 : decide (36 < (B : Int)) = false := by simp; omega
    have A0 := fun v w h => pic_All v beginS lo hi B w h hl hh
    have E0 := fun v w h => pic_End v p w h (by omega)
    obtain ⟨s, hs⟩ : ∃ s : ByteArray, (⟨l.toArray⟩ : ByteArray) = s := ⟨_, rfl⟩
    have hs2 : s.data.toList = l := by rw [← hs]
    rw [e1] at A0
    rw [e2] at E0
    dsimp only at E0
    rw [hs] at E0
    subst hs2
    have hsz : s.data.toList.length = s.size := size_list s
    have hs1 : 1 ≤ s.size := by rw [← hsz, e7]; simp
    have hs3 : s.size ≤ 128 := by omega
    have hc0 : s[0] = c := head_of s c l' e7 (by omega)
    have z1 : decide ((s.size : Int) < 1) = false := by simp; omega
    have z2 : decide ((128 : Int) < (s.size : Int)) = false := by simp; omega
    replace A0 := Lib.hid A0
    replace E0 := Lib.hid E0
    have E5 := Lib.hid e5
    have E6 := Lib.hid e6
    have HB := Lib.hid (show isB (B : Int) = true ∧ 2 ≤ B ∧ B ≤ 36 from ⟨hb, h2, h3⟩)
    have HL := Lib.hid hl
    have HH := Lib.hid hh
    have E8 : ((s[0].toNat : Int) = 48 → s.size = 1) := fun h => by
      rw [hc0] at h
      have := e8 h
      rw [← hsz, e7, this]; rfl
    have st := accAt_start B s.data.toList
    have ST := Lib.hid st
    clear e1 e2 e3 e4 e5 e6 e7 e8 hs hsz hc0 hb h2 h3 hl hh st
    have hzz : (s[0].toNat : Int) ≠ 48 ∨ ((s[0].toNat : Int) = 48 ∧ s.size = 1) := by
      by_cases x : (s[0].toNat : Int) = 48
      · exact .inr ⟨x, E8 x⟩
      · exact .inl x
    clear E8
    have hn := UInt8.toNat_lt s[0]
    rcases hzz with z3 | ⟨z3, z4⟩
    · have z5 : ((s[0].toNat : Int) == 48) = false := by simp [z3]
      clear z3
      go_enter Try.func6, Try.ntmps6
      go_wp2_with fail
      refine (pic_shown _).mono ?_
      rintro e wC ⟨rfl, bC⟩
      replace cc := cc.trans (bC.mono cc.size)
      clear bC
      go_wp2_with fail
      refine (pic_Begin _).mono ?_
      rintro e wC ⟨⟨vC, rfl, hC⟩, bC⟩
      replace cc := cc.trans (bC.mono cc.size)
      (try dsimp only at hC)
      obtain ⟨aX, capX, rfl, X⟩ := picAt_hid hC
      clear hC
      clear bC
      go_wp2_with fail
      refine (A0.out _ _ (hidAt X)).mono ?_
      rintro e wC ⟨⟨vC, rfl, hC⟩, bC⟩
      replace cc := cc.trans (bC.mono cc.size)
      (try dsimp only at hC)
      obtain ⟨aP, capP, rfl, P⟩ := picAt_hid hC
      clear hC
      clear bC
      go_wp2_with fail
      refine (E0.out _ _ (hidAt (hid_alloc P _))).mono ?_
      rintro e wC ⟨rfl, bC⟩
      replace P := hid_below (hid_alloc P _) bC
      obtain ⟨kp0, kp1, kp2⟩ := kept bC (by simp)
      replace cc := (cc.alloc cc.size _).trans (bC.mono (cc.alloc cc.size _).size)
      clear bC
      go_wp2_with fail
      go_loopw [12, 13, 14] (fun x y i wr => ∃ (k L H : Nat), k ≤ s.size ∧ i = .int .i64 k ∧ x = .int .u64 L ∧ y = .int .u64 H ∧ Hid (AccAt B s.data.toList k L H) ∧ Below w.heap.size w wr) (fun _ _ i _ => s.size - (intOf i).toNat)
      case atStart => exact ⟨0, 0, 0, Nat.zero_le _, rfl, rfl, rfl, ST, cc⟩
      case round =>
        obtain ⟨k, L, H, hk, rfl, rfl, rfl, hacc, hbel⟩ := hrel
        by_cases hlt : k < s.size
        · obtain ⟨D, x, xr, xq, r, q, Y, G, H1, H3, H2, hD, W0, M0, w1, w2, w3, w4, w5, w6, w7, w8, w9, ht, _, hnext⟩ := digits_round hacc.out hlt HB.out.1 HB.out.2.1 HB.out.2.2 E5.out
          have HW := Lib.hid W0
          have HM := Lib.hid M0
          have HN := Lib.hid hnext
          clear W0 M0 hnext
          have hc0 := UInt8.toNat_lt s[k]
          rcases ht with ⟨ht, rfl⟩ | ⟨ht, rfl⟩
          · go_wp2_with (first
              | (go_at_call 42; refine (HW.out _).mono ?_; rintro e w' ⟨rfl, rfl⟩)
              | (go_at_call 43; refine (HM.out _).mono ?_; rintro e w' ⟨rfl, nd, hw⟩; have hb2 := bel_drewsN hbel hw; clear hw))
            go_roundw
            case rel => exact ⟨k + 1, _, _, by omega, by go_num, rfl, rfl, HN, hb2⟩
            case measure => simp [intOf]; omega
          · go_wp2_with (first
              | (go_at_call 42; refine (HW.out _).mono ?_; rintro e w' ⟨rfl, rfl⟩)
              | (go_at_call 43; refine (HM.out _).mono ?_; rintro e w' ⟨rfl, nd, hw⟩; have hb2 := bel_drewsN hbel hw; clear hw))
            go_roundw
            case rel => exact ⟨k + 1, _, _, by omega, by go_num, rfl, rfl, HN, hb2⟩
            case measure => simp [intOf]; omega
        · obtain rfl : k = s.size := by omega
          have hend : L = U lo ∧ H = U hi := by
            have := hacc.out
            rw [← size_list] at this
            exact acc_end this E6.out
          have x1 : IntKind.i64.wrap (L : Int) = lo := by rw [hend.1, wrap_i64]; exact S_U lo HL.out
          have x2 : IntKind.i64.wrap (H : Int) = hi := by rw [hend.2, wrap_i64]; exact S_U hi HH.out
          clear hend hacc
          go_wp2
          go_ret
          exact ⟨rfl, hbel⟩
    · have z5 : ((s[0].toNat : Int) == 48) = true := by simp [z3]
      have z6 : decide ((1 : Int) < (s.size : Int)) = false := by simp; omega
      clear z4
      clear z3
      go_enter Try.func6, Try.ntmps6
      go_wp2_with fail
      refine (pic_shown _).mono ?_
      rintro e wC ⟨rfl, bC⟩
      replace cc := cc.trans (bC.mono cc.size)
      clear bC
      go_wp2_with fail
      refine (pic_Begin _).mono ?_
      rintro e wC ⟨⟨vC, rfl, hC⟩, bC⟩
      replace cc := cc.trans (bC.mono cc.size)
      (try dsimp only at hC)
      obtain ⟨aX, capX, rfl, X⟩ := picAt_hid hC
      clear hC
      clear bC
      go_wp2_with fail
      refine (A0.out _ _ (hidAt X)).mono ?_
      rintro e wC ⟨⟨vC, rfl, hC⟩, bC⟩
      replace cc := cc.trans (bC.mono cc.size)
      (try dsimp only at hC)
      obtain ⟨aP, capP, rfl, P⟩ := picAt_hid hC
      clear hC
      clear bC
      go_wp2_with fail
      refine (E0.out _ _ (hidAt (hid_alloc P _))).mono ?_
      rintro e wC ⟨rfl, bC⟩
      replace P := hid_below (hid_alloc P _) bC
      obtain ⟨kp0, kp1, kp2⟩ := kept bC (by simp)
      replace cc := (cc.alloc cc.size _).trans (bC.mono (cc.alloc cc.size _).size)
      clear bC
      go_wp2_with fail
      go_loopw [12, 13, 14] (fun x y i wr => ∃ (k L H : Nat), k ≤ s.size ∧ i = .int .i64 k ∧ x = .int .u64 L ∧ y = .int .u64 H ∧ Hid (AccAt B s.data.toList k L H) ∧ Below w.heap.size w wr) (fun _ _ i _ => s.size - (intOf i).toNat)
      case atStart => exact ⟨0, 0, 0, Nat.zero_le _, rfl, rfl, rfl, ST, cc⟩
      case round =>
        obtain ⟨k, L, H, hk, rfl, rfl, rfl, hacc, hbel⟩ := hrel
        by_cases hlt : k < s.size
        · obtain ⟨D, x, xr, xq, r, q, Y, G, H1, H3, H2, hD, W0, M0, w1, w2, w3, w4, w5, w6, w7, w8, w9, ht, _, hnext⟩ := digits_round hacc.out hlt HB.out.1 HB.out.2.1 HB.out.2.2 E5.out
          have HW := Lib.hid W0
          have HM := Lib.hid M0
          have HN := Lib.hid hnext
          clear W0 M0 hnext
          have hc0 := UInt8.toNat_lt s[k]
          rcases ht with ⟨ht, rfl⟩ | ⟨ht, rfl⟩
          · go_wp2_with (first
              | (go_at_call 42; refine (HW.out _).mono ?_; rintro e w' ⟨rfl, rfl⟩)
              | (go_at_call 43; refine (HM.out _).mono ?_; rintro e w' ⟨rfl, nd, hw⟩; have hb2 := bel_drewsN hbel hw; clear hw))
            go_roundw
            case rel => exact ⟨k + 1, _, _, by omega, by go_num, rfl, rfl, HN, hb2⟩
            case measure => simp [intOf]; omega
          · go_wp2_with (first
              | (go_at_call 42; refine (HW.out _).mono ?_; rintro e w' ⟨rfl, rfl⟩)
              | (go_at_call 43; refine (HM.out _).mono ?_; rintro e w' ⟨rfl, nd, hw⟩; have hb2 := bel_drewsN hbel hw; clear hw))
            go_roundw
            case rel => exact ⟨k + 1, _, _, by omega, by go_num, rfl, rfl, HN, hb2⟩
            case measure => simp [intOf]; omega
        · obtain rfl : k = s.size := by omega
          have hend : L = U lo ∧ H = U hi := by
            have := hacc.out
            rw [← size_list] at this
            exact acc_end this E6.out
          have x1 : IntKind.i64.wrap (L : Int) = lo := by rw [hend.1, wrap_i64]; exact S_U lo HL.out
          have x2 : IntKind.i64.wrap (H : Int) = hi := by rw [hend.2, wrap_i64]; exact S_U hi HH.out
          clear hend hacc
          go_wp2
          go_ret
          exact ⟨rfl, hbel⟩
  · have hb2 : ¬ (2 ≤ b ∧ b ≤ 36) := fun h => hb ((isB_iff b).2 h)
    clear hb
    by_cases hlt : b < 2
    · have t1 : decide (b < 2) = true := by simp [hlt]
      go_enter Try.func6, Try.ntmps6
      go_wp2_with fail
      refine (pic_shown _).mono ?_
      rintro e wC ⟨rfl, bC⟩
      replace cc := cc.trans (bC.mono cc.size)
      clear bC
      go_wp2
      go_ret
      exact ⟨rfl, cc⟩
    · have t1 : decide (b < 2) = false := by simp; omega
      have t2 : decide (36 < b) = true := by simp; omega
      go_enter Try.func6, Try.ntmps6
      go_wp2_with fail
      refine (pic_shown _).mono ?_
      rintro e wC ⟨rfl, bC⟩
      replace cc := cc.trans (bC.mono cc.size)
      clear bC
      go_wp2
      go_ret
      exact ⟨rfl, cc⟩
end Go.Proofs.Ytpjhgokdkgnbdaa
