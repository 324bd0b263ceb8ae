/- The statement on a text of one digit more: its walk. -/
import Derived.Test.YtpjhgokdkgnbdaaNumI
namespace Go.Proofs.Ytpjhgokdkgnbdaa
open Go.RowKit

theorem walk_NumForms (v0 v1 : Value) (w : World) (h0 : Reads w 9 v0) (h1 : Reads w 3 v1) : Calls Try.prog 11 #[v0, v1] w fun e w' => e = .returned (.bool true) ∧ Below w.heap.size w w' := by
  obtain ⟨s, rfl, w0⟩ := reads_string Try.underlying9 h0
  obtain ⟨b, rfl, w1⟩ := reads_int Try.underlying3 h1
  exact walk_NumForms_at s b w (max_len w0)
theorem chr_byte (k : Nat) : (strOfNums [digS (k : Int)]).data.toList = [chr k] := one_list k
theorem worthS_digit (k : Nat) (b : Int) (hk : k ≤ 35) (hb : isB b = true) : worthS (digS (k : Int)) b = (if (k : Int) < b then ((k : Int), true) else (0, false)) := by
  unfold worthS
  rw [wd_digS k (by omega) (by omega)]
  by_cases h : (k : Int) < b
  · rw [if_pos ⟨hb, by omega, h⟩, if_pos h]
  · rw [if_neg (fun g => h g.2.2), if_neg h]
set_option maxRecDepth 100000 in
set_option maxHeartbeats 4000000 in
theorem walk_NumDigits_at (d b : Int) (s : ByteArray) (w : World) (hd : 0 ≤ d ∧ d ≤ 255) (hs : s.size ≤ 9223372036854775807) : Calls Try.prog 12 #[.int .u8 d, .int .i64 b, .string s] w fun e w' => e = .returned (.bool true) ∧ Below w.heap.size w w' := by
  have c0 := Below.refl w.heap.size w
  have hd1 := hd.1
  have hd2 := hd.2
  by_cases hl : 60 < s.size
  · have t0 : decide ((60 : Int) < (s.size : Int)) = true := by simp; omega
    go_enter Try.func12, Try.ntmps12
    go_wp2_with fail
    refine (num_shown _).mono ?_
    rintro e w1 ⟨rfl, b1⟩
    have c1 := c0.trans (b1.mono c0.size)
    clear c0 b1
    go_wp2
    go_ret
    exact ⟨rfl, c1⟩
  have t0 : decide ((60 : Int) < (s.size : Int)) = false := by simp; omega
  by_cases hlt : b < 2
  · have t1 : decide (b < 2) = true := by simp [hlt]
    go_enter Try.func12, Try.ntmps12
    go_wp2_with fail
    refine (num_shown _).mono ?_
    rintro e w1 ⟨rfl, b1⟩
    have c1 := c0.trans (b1.mono c0.size)
    clear c0 b1
    go_wp2
    go_ret
    exact ⟨rfl, c1⟩
  have t1 : decide (b < 2) = false := by simp; omega
  by_cases hgt : 36 < b
  · have t2 : decide (36 < b) = true := by simp [hgt]
    go_enter Try.func12, Try.ntmps12
    go_wp2_with fail
    refine (num_shown _).mono ?_
    rintro e w1 ⟨rfl, b1⟩
    have c1 := c0.trans (b1.mono c0.size)
    clear c0 b1
    go_wp2
    go_ret
    exact ⟨rfl, c1⟩
  have t2 : decide (36 < b) = false := by simp; omega
  have hb : isB b = true := (isB_iff b).2 (by omega)
  have hsz : s.size ≤ 60 := by omega
  obtain ⟨k, hk⟩ : ∃ k : Nat, d % 36 = (k : Int) := ⟨(d % 36).toNat, by omega⟩
  have hk0 : (k : Int) ≤ 35 := by omega
  have hr := digS_rng (k : Int)
  have hdg := fun w => num_Digit (k : Int) w
  have hwo := fun w => num_Worth (digS (k : Int)) b w (by omega) (by omega)
  rw [worthS_digit k b (by omega) hb] at hwo
  have tx := fun w => text_one w (digS (k : Int))
  have hs1 : (strOfNums [digS (k : Int)]).size ≤ 1 := by rw [strOfNums_size]; simp
  obtain ⟨a, x, ha⟩ : ∃ a x, parseS s.data.toList b = (a, x) := ⟨_, _, rfl⟩
  have p1 := parse_named s b a x ha hs
  have hcl : (s ++ strOfNums [digS (k : Int)]).data.toList = s.data.toList ++ [chr k] := by rw [cat_list, chr_byte]
  have HD := Lib.hid hdg
  have hcs : (s ++ strOfNums [digS (k : Int)]).size ≤ 9223372036854775807 := by rw [cat_size]; omega
  cases x with
  | false =>
    obtain ⟨m, y, hm⟩ : ∃ m y, parseS (s ++ strOfNums [digS (k : Int)]).data.toList b = (m, y) := ⟨_, _, rfl⟩
    have p2 := parse_named _ b m y hm hcs
    have P1 := Lib.hid p1
    have P2 := Lib.hid p2
    clear p1 p2 hm ha hdg hcl hcs hl hlt hgt
    by_cases hkb : (k : Int) < b
    · rw [if_pos hkb] at hwo
      have HW := Lib.hid hwo
      have t3 : decide ((k : Int) < b) = true := by simp [hkb]
      clear hwo hkb
      go_enter Try.func12, Try.ntmps12
      go_wp2_with fail
      refine (num_shown _).mono ?_
      rintro e w1 ⟨rfl, b1⟩
      have c1 := c0.trans (b1.mono c0.size)
      clear c0 b1
      go_wp2_with fail
      refine (HD.out _).mono ?_
      rintro e w' ⟨rfl, rfl⟩
      go_wp2_with fail
      refine (HW.out _).mono ?_
      rintro e w' ⟨rfl, rfl⟩
      go_wp2_with fail
      refine (P1.out _).mono ?_
      rintro e w2 ⟨rfl, b2⟩
      have c2 := c1.trans (b2.mono c1.size)
      clear c1 b2
      go_wp2_with fail
      refine (P2.out _).mono ?_
      rintro e w3 ⟨rfl, b3⟩
      have c3 := (c2.alloc c2.size _).trans (b3.mono (c2.alloc c2.size _).size)
      clear c2 b3
      go_wp2
      go_ret
      exact ⟨rfl, c3⟩
    · rw [if_neg hkb] at hwo
      have HW := Lib.hid hwo
      have t3 : decide ((k : Int) < b) = false := by simp; omega
      clear hwo hkb
      go_enter Try.func12, Try.ntmps12
      go_wp2_with fail
      refine (num_shown _).mono ?_
      rintro e w1 ⟨rfl, b1⟩
      have c1 := c0.trans (b1.mono c0.size)
      clear c0 b1
      go_wp2_with fail
      refine (HD.out _).mono ?_
      rintro e w' ⟨rfl, rfl⟩
      go_wp2_with fail
      refine (HW.out _).mono ?_
      rintro e w' ⟨rfl, rfl⟩
      go_wp2_with fail
      refine (P1.out _).mono ?_
      rintro e w2 ⟨rfl, b2⟩
      have c2 := c1.trans (b2.mono c1.size)
      clear c1 b2
      go_wp2_with fail
      refine (P2.out _).mono ?_
      rintro e w3 ⟨rfl, b3⟩
      have c3 := (c2.alloc c2.size _).trans (b3.mono (c2.alloc c2.size _).size)
      clear c2 b3
      go_wp2
      go_ret
      exact ⟨rfl, c3⟩
  | true =>
    have hne : 0 < s.size := by
      rcases Nat.eq_zero_or_pos s.size with h | h
      · have h2 : s.data.toList = [] := List.eq_nil_of_length_eq_zero (by rw [size_list]; exact h)
        rw [h2, show parseS [] b = (0, false) from by simp [parseS, signS, prefS, cutS, bareS]] at ha
        simp at ha
      · exact h
    have t4 := empty_no s hne
    have hcons := drop_cons s 0 hne
    rw [List.drop_zero] at hcons
    by_cases hq : s[0] = 35 ∨ s[0] = 36 ∨ s[0] = 37 ∨ s[0] = 39
    · obtain ⟨m, y, hm⟩ : ∃ m y, parseS (s ++ strOfNums [digS (k : Int)]).data.toList b = (m, y) := ⟨_, _, rfl⟩
      have p2 := parse_named _ b m y hm hcs
      have P1 := Lib.hid p1
      have P2 := Lib.hid p2
      clear p1 p2 hm ha hdg hcl hcs hl hlt hgt hcons
      by_cases hkb : (k : Int) < b
      · rw [if_pos hkb] at hwo
        have HW := Lib.hid hwo
        have t3 : decide ((k : Int) < b) = true := by simp [hkb]
        clear hwo hkb
        by_cases h35 : s[0] = 35
        · have q35 : ((s[0].toNat : Int) == 35) = true := byte_eq s[0] 35 (by omega) h35
          clear hq h35
          go_enter Try.func12, Try.ntmps12
          go_wp2_with fail
          refine (num_shown _).mono ?_
          rintro e w1 ⟨rfl, b1⟩
          have c1 := c0.trans (b1.mono c0.size)
          clear c0 b1
          go_wp2_with fail
          refine (HD.out _).mono ?_
          rintro e w' ⟨rfl, rfl⟩
          go_wp2_with fail
          refine (HW.out _).mono ?_
          rintro e w' ⟨rfl, rfl⟩
          go_wp2_with fail
          refine (P1.out _).mono ?_
          rintro e w2 ⟨rfl, b2⟩
          have c2 := c1.trans (b2.mono c1.size)
          clear c1 b2
          go_wp2_with fail
          refine (P2.out _).mono ?_
          rintro e w3 ⟨rfl, b3⟩
          have c3 := (c2.alloc c2.size _).trans (b3.mono (c2.alloc c2.size _).size)
          clear c2 b3
          go_wp2
          go_ret
          exact ⟨rfl, c3⟩
        · have q35 : ((s[0].toNat : Int) == 35) = false := byte_ne s[0] 35 (by omega) h35
          by_cases h36 : s[0] = 36
          · have q36 : ((s[0].toNat : Int) == 36) = true := byte_eq s[0] 36 (by omega) h36
            clear hq h36 h35
            go_enter Try.func12, Try.ntmps12
            go_wp2_with fail
            refine (num_shown _).mono ?_
            rintro e w1 ⟨rfl, b1⟩
            have c1 := c0.trans (b1.mono c0.size)
            clear c0 b1
            go_wp2_with fail
            refine (HD.out _).mono ?_
            rintro e w' ⟨rfl, rfl⟩
            go_wp2_with fail
            refine (HW.out _).mono ?_
            rintro e w' ⟨rfl, rfl⟩
            go_wp2_with fail
            refine (P1.out _).mono ?_
            rintro e w2 ⟨rfl, b2⟩
            have c2 := c1.trans (b2.mono c1.size)
            clear c1 b2
            go_wp2_with fail
            refine (P2.out _).mono ?_
            rintro e w3 ⟨rfl, b3⟩
            have c3 := (c2.alloc c2.size _).trans (b3.mono (c2.alloc c2.size _).size)
            clear c2 b3
            go_wp2
            go_ret
            exact ⟨rfl, c3⟩
          · have q36 : ((s[0].toNat : Int) == 36) = false := byte_ne s[0] 36 (by omega) h36
            by_cases h37 : s[0] = 37
            · have q37 : ((s[0].toNat : Int) == 37) = true := byte_eq s[0] 37 (by omega) h37
              clear hq h37 h35 h36
              go_enter Try.func12, Try.ntmps12
              go_wp2_with fail
              refine (num_shown _).mono ?_
              rintro e w1 ⟨rfl, b1⟩
              have c1 := c0.trans (b1.mono c0.size)
              clear c0 b1
              go_wp2_with fail
              refine (HD.out _).mono ?_
              rintro e w' ⟨rfl, rfl⟩
              go_wp2_with fail
              refine (HW.out _).mono ?_
              rintro e w' ⟨rfl, rfl⟩
              go_wp2_with fail
              refine (P1.out _).mono ?_
              rintro e w2 ⟨rfl, b2⟩
              have c2 := c1.trans (b2.mono c1.size)
              clear c1 b2
              go_wp2_with fail
              refine (P2.out _).mono ?_
              rintro e w3 ⟨rfl, b3⟩
              have c3 := (c2.alloc c2.size _).trans (b3.mono (c2.alloc c2.size _).size)
              clear c2 b3
              go_wp2
              go_ret
              exact ⟨rfl, c3⟩
            · have q37 : ((s[0].toNat : Int) == 37) = false := byte_ne s[0] 37 (by omega) h37
              have h39 : s[0] = 39 := hq.resolve_left h35 |>.resolve_left h36 |>.resolve_left h37
              have q39 : ((s[0].toNat : Int) == 39) = true := byte_eq s[0] 39 (by omega) h39
              clear hq h35 h36 h37 h39
              go_enter Try.func12, Try.ntmps12
              go_wp2_with fail
              refine (num_shown _).mono ?_
              rintro e w1 ⟨rfl, b1⟩
              have c1 := c0.trans (b1.mono c0.size)
              clear c0 b1
              go_wp2_with fail
              refine (HD.out _).mono ?_
              rintro e w' ⟨rfl, rfl⟩
              go_wp2_with fail
              refine (HW.out _).mono ?_
              rintro e w' ⟨rfl, rfl⟩
              go_wp2_with fail
              refine (P1.out _).mono ?_
              rintro e w2 ⟨rfl, b2⟩
              have c2 := c1.trans (b2.mono c1.size)
              clear c1 b2
              go_wp2_with fail
              refine (P2.out _).mono ?_
              rintro e w3 ⟨rfl, b3⟩
              have c3 := (c2.alloc c2.size _).trans (b3.mono (c2.alloc c2.size _).size)
              clear c2 b3
              go_wp2
              go_ret
              exact ⟨rfl, c3⟩
      · rw [if_neg hkb] at hwo
        have HW := Lib.hid hwo
        have t3 : decide ((k : Int) < b) = false := by simp; omega
        clear hwo hkb
        by_cases h35 : s[0] = 35
        · have q35 : ((s[0].toNat : Int) == 35) = true := byte_eq s[0] 35 (by omega) h35
          clear hq h35
          go_enter Try.func12, Try.ntmps12
          go_wp2_with fail
          refine (num_shown _).mono ?_
          rintro e w1 ⟨rfl, b1⟩
          have c1 := c0.trans (b1.mono c0.size)
          clear c0 b1
          go_wp2_with fail
          refine (HD.out _).mono ?_
          rintro e w' ⟨rfl, rfl⟩
          go_wp2_with fail
          refine (HW.out _).mono ?_
          rintro e w' ⟨rfl, rfl⟩
          go_wp2_with fail
          refine (P1.out _).mono ?_
          rintro e w2 ⟨rfl, b2⟩
          have c2 := c1.trans (b2.mono c1.size)
          clear c1 b2
          go_wp2_with fail
          refine (P2.out _).mono ?_
          rintro e w3 ⟨rfl, b3⟩
          have c3 := (c2.alloc c2.size _).trans (b3.mono (c2.alloc c2.size _).size)
          clear c2 b3
          go_wp2
          go_ret
          exact ⟨rfl, c3⟩
        · have q35 : ((s[0].toNat : Int) == 35) = false := byte_ne s[0] 35 (by omega) h35
          by_cases h36 : s[0] = 36
          · have q36 : ((s[0].toNat : Int) == 36) = true := byte_eq s[0] 36 (by omega) h36
            clear hq h36 h35
            go_enter Try.func12, Try.ntmps12
            go_wp2_with fail
            refine (num_shown _).mono ?_
            rintro e w1 ⟨rfl, b1⟩
            have c1 := c0.trans (b1.mono c0.size)
            clear c0 b1
            go_wp2_with fail
            refine (HD.out _).mono ?_
            rintro e w' ⟨rfl, rfl⟩
            go_wp2_with fail
            refine (HW.out _).mono ?_
            rintro e w' ⟨rfl, rfl⟩
            go_wp2_with fail
            refine (P1.out _).mono ?_
            rintro e w2 ⟨rfl, b2⟩
            have c2 := c1.trans (b2.mono c1.size)
            clear c1 b2
            go_wp2_with fail
            refine (P2.out _).mono ?_
            rintro e w3 ⟨rfl, b3⟩
            have c3 := (c2.alloc c2.size _).trans (b3.mono (c2.alloc c2.size _).size)
            clear c2 b3
            go_wp2
            go_ret
            exact ⟨rfl, c3⟩
          · have q36 : ((s[0].toNat : Int) == 36) = false := byte_ne s[0] 36 (by omega) h36
            by_cases h37 : s[0] = 37
            · have q37 : ((s[0].toNat : Int) == 37) = true := byte_eq s[0] 37 (by omega) h37
              clear hq h37 h35 h36
              go_enter Try.func12, Try.ntmps12
              go_wp2_with fail
              refine (num_shown _).mono ?_
              rintro e w1 ⟨rfl, b1⟩
              have c1 := c0.trans (b1.mono c0.size)
              clear c0 b1
              go_wp2_with fail
              refine (HD.out _).mono ?_
              rintro e w' ⟨rfl, rfl⟩
              go_wp2_with fail
              refine (HW.out _).mono ?_
              rintro e w' ⟨rfl, rfl⟩
              go_wp2_with fail
              refine (P1.out _).mono ?_
              rintro e w2 ⟨rfl, b2⟩
              have c2 := c1.trans (b2.mono c1.size)
              clear c1 b2
              go_wp2_with fail
              refine (P2.out _).mono ?_
              rintro e w3 ⟨rfl, b3⟩
              have c3 := (c2.alloc c2.size _).trans (b3.mono (c2.alloc c2.size _).size)
              clear c2 b3
              go_wp2
              go_ret
              exact ⟨rfl, c3⟩
            · have q37 : ((s[0].toNat : Int) == 37) = false := byte_ne s[0] 37 (by omega) h37
              have h39 : s[0] = 39 := hq.resolve_left h35 |>.resolve_left h36 |>.resolve_left h37
              have q39 : ((s[0].toNat : Int) == 39) = true := byte_eq s[0] 39 (by omega) h39
              clear hq h35 h36 h37 h39
              go_enter Try.func12, Try.ntmps12
              go_wp2_with fail
              refine (num_shown _).mono ?_
              rintro e w1 ⟨rfl, b1⟩
              have c1 := c0.trans (b1.mono c0.size)
              clear c0 b1
              go_wp2_with fail
              refine (HD.out _).mono ?_
              rintro e w' ⟨rfl, rfl⟩
              go_wp2_with fail
              refine (HW.out _).mono ?_
              rintro e w' ⟨rfl, rfl⟩
              go_wp2_with fail
              refine (P1.out _).mono ?_
              rintro e w2 ⟨rfl, b2⟩
              have c2 := c1.trans (b2.mono c1.size)
              clear c1 b2
              go_wp2_with fail
              refine (P2.out _).mono ?_
              rintro e w3 ⟨rfl, b3⟩
              have c3 := (c2.alloc c2.size _).trans (b3.mono (c2.alloc c2.size _).size)
              clear c2 b3
              go_wp2
              go_ret
              exact ⟨rfl, c3⟩
    · have hq35 : s[0] ≠ 35 := fun h => hq (.inl h)
      have hq36 : s[0] ≠ 36 := fun h => hq (.inr (.inl h))
      have hq37 : s[0] ≠ 37 := fun h => hq (.inr (.inr (.inl h)))
      have hq39 : s[0] ≠ 39 := fun h => hq (.inr (.inr (.inr h)))
      have q35 : ((s[0].toNat : Int) == 35) = false := byte_ne s[0] 35 (by omega) hq35
      have q36 : ((s[0].toNat : Int) == 36) = false := byte_ne s[0] 36 (by omega) hq36
      have q37 : ((s[0].toNat : Int) == 37) = false := byte_ne s[0] 37 (by omega) hq37
      have q39 : ((s[0].toNat : Int) == 39) = false := byte_ne s[0] 39 (by omega) hq39
      have hmore := parse_more s.data.toList b k a hb (by omega) ha (by rw [hcons]; intro c m e; obtain ⟨rfl, _⟩ := List.cons.inj e; exact ⟨hq35, hq36, hq37, hq39⟩)
      rw [← hcl] at hmore
      by_cases h45 : s[0] = 45
      · have q45 : ((s[0].toNat : Int) == 45) = true := byte_eq s[0] 45 (by omega) h45
        have hh : s.data.toList.head? = some 45 := by rw [hcons, h45]; rfl
        by_cases hkb : (k : Int) < b
        · rw [if_pos hkb] at hwo hmore; rw [if_pos hh] at hmore
          have t3 : decide ((k : Int) < b) = true := by simp [hkb]
          have p2 := parse_named _ b _ _ hmore hcs
          have HW := Lib.hid hwo
          have P1 := Lib.hid p1
          have P2 := Lib.hid p2
          clear p1 p2 hwo hmore hkb h45 hh hq hq35 hq36 hq37 hq39 hcons ha hdg hcl hcs hl hlt hgt
          go_enter Try.func12, Try.ntmps12
          go_wp2_with fail
          refine (num_shown _).mono ?_
          rintro e w1 ⟨rfl, b1⟩
          have c1 := c0.trans (b1.mono c0.size)
          clear c0 b1
          go_wp2_with fail
          refine (HD.out _).mono ?_
          rintro e w' ⟨rfl, rfl⟩
          go_wp2_with fail
          refine (HW.out _).mono ?_
          rintro e w' ⟨rfl, rfl⟩
          go_wp2_with fail
          refine (P1.out _).mono ?_
          rintro e w2 ⟨rfl, b2⟩
          have c2 := c1.trans (b2.mono c1.size)
          clear c1 b2
          go_wp2_with fail
          refine (P2.out _).mono ?_
          rintro e w3 ⟨rfl, b3⟩
          have c3 := (c2.alloc c2.size _).trans (b3.mono (c2.alloc c2.size _).size)
          clear c2 b3
          go_wp2
          go_ret
          exact ⟨rfl, c3⟩
        · rw [if_neg hkb] at hwo hmore
          have t3 : decide ((k : Int) < b) = false := by simp; omega
          have p2 := parse_named _ b _ _ hmore hcs
          have HW := Lib.hid hwo
          have P1 := Lib.hid p1
          have P2 := Lib.hid p2
          clear p1 p2 hwo hmore hkb h45 hh hq hq35 hq36 hq37 hq39 hcons ha hdg hcl hcs hl hlt hgt
          go_enter Try.func12, Try.ntmps12
          go_wp2_with fail
          refine (num_shown _).mono ?_
          rintro e w1 ⟨rfl, b1⟩
          have c1 := c0.trans (b1.mono c0.size)
          clear c0 b1
          go_wp2_with fail
          refine (HD.out _).mono ?_
          rintro e w' ⟨rfl, rfl⟩
          go_wp2_with fail
          refine (HW.out _).mono ?_
          rintro e w' ⟨rfl, rfl⟩
          go_wp2_with fail
          refine (P1.out _).mono ?_
          rintro e w2 ⟨rfl, b2⟩
          have c2 := c1.trans (b2.mono c1.size)
          clear c1 b2
          go_wp2_with fail
          refine (P2.out _).mono ?_
          rintro e w3 ⟨rfl, b3⟩
          have c3 := (c2.alloc c2.size _).trans (b3.mono (c2.alloc c2.size _).size)
          clear c2 b3
          go_wp2
          go_ret
          exact ⟨rfl, c3⟩
      · have q45 : ((s[0].toNat : Int) == 45) = false := byte_ne s[0] 45 (by omega) h45
        have hh : ¬ s.data.toList.head? = some 45 := by rw [hcons]; simp [h45]
        by_cases hkb : (k : Int) < b
        · rw [if_pos hkb] at hwo hmore; rw [if_neg hh] at hmore
          have t3 : decide ((k : Int) < b) = true := by simp [hkb]
          have p2 := parse_named _ b _ _ hmore hcs
          have HW := Lib.hid hwo
          have P1 := Lib.hid p1
          have P2 := Lib.hid p2
          clear p1 p2 hwo hmore hkb h45 hh hq hq35 hq36 hq37 hq39 hcons ha hdg hcl hcs hl hlt hgt
          go_enter Try.func12, Try.ntmps12
          go_wp2_with fail
          refine (num_shown _).mono ?_
          rintro e w1 ⟨rfl, b1⟩
          have c1 := c0.trans (b1.mono c0.size)
          clear c0 b1
          go_wp2_with fail
          refine (HD.out _).mono ?_
          rintro e w' ⟨rfl, rfl⟩
          go_wp2_with fail
          refine (HW.out _).mono ?_
          rintro e w' ⟨rfl, rfl⟩
          go_wp2_with fail
          refine (P1.out _).mono ?_
          rintro e w2 ⟨rfl, b2⟩
          have c2 := c1.trans (b2.mono c1.size)
          clear c1 b2
          go_wp2_with fail
          refine (P2.out _).mono ?_
          rintro e w3 ⟨rfl, b3⟩
          have c3 := (c2.alloc c2.size _).trans (b3.mono (c2.alloc c2.size _).size)
          clear c2 b3
          go_wp2
          go_ret
          exact ⟨rfl, c3⟩
        · rw [if_neg hkb] at hwo hmore
          have t3 : decide ((k : Int) < b) = false := by simp; omega
          have p2 := parse_named _ b _ _ hmore hcs
          have HW := Lib.hid hwo
          have P1 := Lib.hid p1
          have P2 := Lib.hid p2
          clear p1 p2 hwo hmore hkb h45 hh hq hq35 hq36 hq37 hq39 hcons ha hdg hcl hcs hl hlt hgt
          go_enter Try.func12, Try.ntmps12
          go_wp2_with fail
          refine (num_shown _).mono ?_
          rintro e w1 ⟨rfl, b1⟩
          have c1 := c0.trans (b1.mono c0.size)
          clear c0 b1
          go_wp2_with fail
          refine (HD.out _).mono ?_
          rintro e w' ⟨rfl, rfl⟩
          go_wp2_with fail
          refine (HW.out _).mono ?_
          rintro e w' ⟨rfl, rfl⟩
          go_wp2_with fail
          refine (P1.out _).mono ?_
          rintro e w2 ⟨rfl, b2⟩
          have c2 := c1.trans (b2.mono c1.size)
          clear c1 b2
          go_wp2_with fail
          refine (P2.out _).mono ?_
          rintro e w3 ⟨rfl, b3⟩
          have c3 := (c2.alloc c2.size _).trans (b3.mono (c2.alloc c2.size _).size)
          clear c2 b3
          go_wp2
          go_ret
          exact ⟨rfl, c3⟩
theorem walk_NumDigits (v0 v1 v2 : Value) (w : World) (h0 : Reads w 5 v0) (h1 : Reads w 3 v1) (h2 : Reads w 9 v2) : Calls Try.prog 12 #[v0, v1, v2] w fun e w' => e = .returned (.bool true) ∧ Below w.heap.size w w' := by
  obtain ⟨d, rfl, w0⟩ := reads_int Try.underlying5 h0
  obtain ⟨b, rfl, w1⟩ := reads_int Try.underlying3 h1
  obtain ⟨s, rfl, w2⟩ := reads_string Try.underlying9 h2
  exact walk_NumDigits_at d b s w (byte_wf w0) (max_len w2)
end Go.Proofs.Ytpjhgokdkgnbdaa
