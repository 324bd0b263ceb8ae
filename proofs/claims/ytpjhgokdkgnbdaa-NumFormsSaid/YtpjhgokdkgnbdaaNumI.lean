/- The statements on the forms of texts that tell cells: their walks. -/
import Derived.Test.YtpjhgokdkgnbdaaNumH
namespace Go.Proofs.Ytpjhgokdkgnbdaa
open Go.RowKit

theorem worthS_okD (b : Int) (c : UInt8) (hb : isB b = true) : (worthS (c.toNat : Int) b).2 = okD b c := by
  unfold worthS okD
  by_cases h : 0 ≤ wd (c.toNat : Int) ∧ wd (c.toNat : Int) < b
  · rw [if_pos ⟨hb, h⟩]; simp [h]
  · rw [if_neg (fun g => h g.2)]
    have : ¬ (0 ≤ wd (c.toNat : Int)) ∨ ¬ (wd (c.toNat : Int) < b) := by omega
    rcases this with g | g <;> simp [g]
theorem byte_list (c : UInt8) : (strOfNums [(c.toNat : Int)]).data.toList = [c] := by rw [strOfNums_data]; simp
theorem low_small (c : UInt8) (h : ¬ (65 ≤ (c.toNat : Int) ∧ (c.toNat : Int) ≤ 90)) : ((lowB c).toNat : Int) = (c.toNat : Int) := by unfold lowB; rw [if_neg (by omega)]
theorem low_great (c : UInt8) (h : 65 ≤ (c.toNat : Int) ∧ (c.toNat : Int) ≤ 90) : ((lowB c).toNat : Int) = (c.toNat : Int) + 32 := by
  unfold lowB; rw [if_pos (by omega), UInt8.toNat_add]; simp; omega

set_option maxRecDepth 100000 in
set_option maxHeartbeats 4000000 in
theorem walk_NumForms_at (s : ByteArray) (b : Int) (w : World) (hs : s.size ≤ 9223372036854775807) : Calls Try.prog 11 #[.string s, .int .i64 b] w fun e w' => e = .returned (.bool true) ∧ Below w.heap.size w w' := by
  have c0 := Below.refl w.heap.size w
  by_cases hl : 60 < s.size
  · have t0 : decide ((60 : Int) < (s.size : Int)) = true := by simp; omega
    go_enter Try.func11, Try.ntmps11
    go_wp2_with fail
    refine (num_shown _).mono ?_
    rintro e w1 ⟨rfl, b1⟩
    have c1 := c0.trans (b1.mono c0.size)
    clear c0 b1
    go_wp2
    go_ret
    exact ⟨rfl, c1⟩
  have t0 : decide ((60 : Int) < (s.size : Int)) = false := by simp; omega
  by_cases hlt : b < 2
  · have t1 : decide (b < 2) = true := by simp [hlt]
    go_enter Try.func11, Try.ntmps11
    go_wp2_with fail
    refine (num_shown _).mono ?_
    rintro e w1 ⟨rfl, b1⟩
    have c1 := c0.trans (b1.mono c0.size)
    clear c0 b1
    go_wp2
    go_ret
    exact ⟨rfl, c1⟩
  have t1 : decide (b < 2) = false := by simp; omega
  by_cases hgt : 36 < b
  · have t2 : decide (36 < b) = true := by simp [hgt]
    go_enter Try.func11, Try.ntmps11
    go_wp2_with fail
    refine (num_shown _).mono ?_
    rintro e w1 ⟨rfl, b1⟩
    have c1 := c0.trans (b1.mono c0.size)
    clear c0 b1
    go_wp2
    go_ret
    exact ⟨rfl, c1⟩
  have t2 : decide (36 < b) = false := by simp; omega
  have hb : isB b = true := (isB_iff b).2 (by omega)
  have hsz : s.size ≤ 60 := by omega
  obtain ⟨p0, hp0⟩ : ∃ p0, decide ((0 : Int) < (s.size : Int)) = p0 := ⟨_, rfl⟩
  have HP0 := Lib.hid hp0
  have HB := Lib.hid hb
  clear hb hlt hgt hl
  go_enter Try.func11, Try.ntmps11
  go_wp2_with fail
  refine (num_shown _).mono ?_
  rintro e w1 ⟨rfl, b1⟩
  have c1 := c0.trans (b1.mono c0.size)
  clear c0 b1
  go_wp2_with fail
  go_loopw [6, 7, 8] (fun g z i wr => ∃ (k : Nat) (low : ByteArray), k ≤ s.size ∧ i = .int .i64 k ∧ z = .string low ∧ g = .bool (p0 && (s.data.toList.take k).all (okD b)) ∧ Hid (low.data.toList = (s.data.toList.take k).map lowB) ∧ low.size ≤ 60 ∧ Below w.heap.size w wr) (fun _ _ i _ => s.size - (intOf i).toNat)
  case atStart => exact ⟨0, _, Nat.zero_le _, rfl, rfl, by rw [← hp0]; simp, by show _ = _; simp, by decide, c1⟩
  case round =>
    obtain ⟨k, low, hk, rfl, rfl, rfl, hlow, hlz, hbel⟩ := hrel
    by_cases hlt : k < s.size
    · have hc0 := UInt8.toNat_lt s[k]
      have W0 := fun w => num_Worth (s[k].toNat : Int) b w (by omega) (by omega)
      have hw2 := worthS_okD b s[k] HB.out
      obtain ⟨q, j, hq⟩ : ∃ q j, worthS (s[k].toNat : Int) b = (q, j) := ⟨_, _, rfl⟩
      rw [hq] at W0 hw2
      obtain ⟨y, hy⟩ : ∃ y, ((lowB s[k]).toNat : Int) = y := ⟨_, rfl⟩
      have hlow' : (low ++ strOfNums [y]).data.toList = (s.data.toList.take (k + 1)).map lowB := by
        rw [cat_list, ← hy, byte_list, hlow.out, take_snoc s k hlt]; simp
      have hall : (p0 && (s.data.toList.take (k + 1)).all (okD b)) = ((p0 && (s.data.toList.take k).all (okD b)) && j) := by
        rw [take_snoc s k hlt, List.all_append, show [s[k]].all (okD b) = j from by rw [List.all_cons, List.all_nil, Bool.and_true]; exact hw2.symm, Bool.and_assoc]
      have hs1 : (strOfNums [y]).size ≤ 1 := by rw [strOfNums_size]; simp
      have hlz' : (low ++ strOfNums [y]).size ≤ 60 := by rw [← size_list, hlow']; simp; omega
      have tx := fun w => text_one w y
      have hlk : low.size ≤ 59 := by rw [← size_list, hlow.out]; simp; omega
      have HW := Lib.hid W0
      have HQ := Lib.hid hall
      have HL := Lib.hid hlow'
      obtain ⟨g0, hg0⟩ : ∃ g0, (p0 && (s.data.toList.take k).all (okD b)) = g0 := ⟨_, rfl⟩
      rw [hg0] at HQ ⊢
      by_cases hgr : 65 ≤ (s[k].toNat : Int) ∧ (s[k].toNat : Int) ≤ 90
      · have ey : (s[k].toNat : Int) + 32 = y := by rw [← hy]; exact (low_great s[k] hgr).symm
        have d1 : decide (65 ≤ (s[k].toNat : Int)) = true := by simp; omega
        have d2 : decide ((s[k].toNat : Int) ≤ 90) = true := by simp; omega
        have hgr1 := hgr.1
        have hgr2 := hgr.2
        clear W0 hw2 hq hy hlow' hall hlow hg0 hgr
        cases g0 with
        | true =>
          go_wp2_with (go_at_call 49; refine (HW.out _).mono ?_; rintro e w' ⟨rfl, rfl⟩)
          go_roundw
          case rel => exact ⟨k + 1, _, by omega, by go_num, rfl, by rw [HQ.out]; simp, HL, hlz', hbel.alloc hbel.size _⟩
          case measure => simp [intOf]; omega
        | false =>
          go_wp2_with (go_at_call 49; refine (HW.out _).mono ?_; rintro e w' ⟨rfl, rfl⟩)
          go_roundw
          case rel => exact ⟨k + 1, _, by omega, by go_num, rfl, by rw [HQ.out]; simp, HL, hlz', hbel.alloc hbel.size _⟩
          case measure => simp [intOf]; omega
      · obtain rfl : y = (s[k].toNat : Int) := by rw [← hy]; exact low_small s[k] hgr
        by_cases h65 : 65 ≤ (s[k].toNat : Int)
        · have d1 : decide (65 ≤ (s[k].toNat : Int)) = true := by simp; omega
          have d2 : decide ((s[k].toNat : Int) ≤ 90) = false := by simp; omega
          clear W0 hw2 hq hy hlow' hall hlow hg0 hgr
          cases g0 with
          | true =>
            go_wp2_with (go_at_call 49; refine (HW.out _).mono ?_; rintro e w' ⟨rfl, rfl⟩)
            go_roundw
            case rel => exact ⟨k + 1, _, by omega, by go_num, rfl, by rw [HQ.out]; simp, HL, hlz', hbel.alloc hbel.size _⟩
            case measure => simp [intOf]; omega
          | false =>
            go_wp2_with (go_at_call 49; refine (HW.out _).mono ?_; rintro e w' ⟨rfl, rfl⟩)
            go_roundw
            case rel => exact ⟨k + 1, _, by omega, by go_num, rfl, by rw [HQ.out]; simp, HL, hlz', hbel.alloc hbel.size _⟩
            case measure => simp [intOf]; omega
        · have d1 : decide (65 ≤ (s[k].toNat : Int)) = false := by simp; omega
          clear W0 hw2 hq hy hlow' hall hlow hg0 hgr h65
          cases g0 with
          | true =>
            go_wp2_with (go_at_call 49; refine (HW.out _).mono ?_; rintro e w' ⟨rfl, rfl⟩)
            go_roundw
            case rel => exact ⟨k + 1, _, by omega, by go_num, rfl, by rw [HQ.out]; simp, HL, hlz', hbel.alloc hbel.size _⟩
            case measure => simp [intOf]; omega
          | false =>
            go_wp2_with (go_at_call 49; refine (HW.out _).mono ?_; rintro e w' ⟨rfl, rfl⟩)
            go_roundw
            case rel => exact ⟨k + 1, _, by omega, by go_num, rfl, by rw [HQ.out]; simp, HL, hlz', hbel.alloc hbel.size _⟩
            case measure => simp [intOf]; omega
    · have et : s.data.toList.take k = s.data.toList := List.take_of_length_le (by rw [size_list]; omega)
      rw [et] at hlow ⊢
      by_cases hd : (p0 && s.data.toList.all (okD b)) = true
      · simp only [Bool.and_eq_true] at hd
        have hne : s.data.toList ≠ [] := by
          have := HP0.out
          rw [hd.1, decide_eq_true_iff] at this
          intro h
          have h2 := size_list s
          rw [h] at h2
          simp at h2
          omega
        have hall := hd.2
        obtain ⟨n, hn⟩ : ∃ n, wrap64 (valD b 0 s.data.toList) = n := ⟨_, rfl⟩
        have p1 := parse_named s b n true (by rw [parseS_digits _ _ HB.out hne hall, hn]) hs
        have p2 := parse_named low b n true (by rw [hlow.out, parse_low _ _ HB.out hne hall, hn]) (by omega)
        have p3 := parse_named (⟨#[48]⟩ ++ s) b n true (by rw [cat_list, ← hn]; exact parse_nought _ _ HB.out hall) (by rw [cat_size]; have : (⟨#[48]⟩ : ByteArray).size = 1 := rfl; omega)
        have p4 := parse_named (⟨#[45]⟩ ++ s) b (wrap64 (-n)) true (by rw [cat_list, ← hn]; exact parse_neg _ _ HB.out hne hall) (by rw [cat_size]; have : (⟨#[45]⟩ : ByteArray).size = 1 := rfl; omega)
        have p5 := parse_named (⟨#[45, 45]⟩ ++ s) b 0 false (by rw [cat_list]; exact parse_twice _ _) (by rw [cat_size]; have : (⟨#[45, 45]⟩ : ByteArray).size = 2 := rfl; omega)
        have p6 := parse_named (s ++ ⟨#[45]⟩) b 0 false (by rw [cat_list]; exact parse_behind _ _ hne hall) (by rw [cat_size]; have : (⟨#[45]⟩ : ByteArray).size = 1 := rfl; omega)
        have p7 := parse_named (⟨#[43]⟩ ++ s) b 0 false (by rw [cat_list]; exact parse_plus _ _) (by rw [cat_size]; have : (⟨#[43]⟩ : ByteArray).size = 1 := rfl; omega)
        have e1 : p0 = true := hd.1
        subst e1
        rw [hall]
        have P1 := Lib.hid p1
        have P2 := Lib.hid p2
        have P3 := Lib.hid p3
        have P4 := Lib.hid p4
        have P5 := Lib.hid p5
        have P6 := Lib.hid p6
        have P7 := Lib.hid p7
        have c2 := hbel
        clear p1 p2 p3 p4 p5 p6 p7 hd hall hne hn et hlow hbel c1
        rw [Bool.and_self]
        go_wp2_with fail
        refine (P1.out _).mono ?_
        rintro e w3 ⟨rfl, b3⟩
        have c3 := c2.trans (b3.mono c2.size)
        clear c2 b3
        go_wp2_with fail
        refine (P2.out _).mono ?_
        rintro e w4 ⟨rfl, b4⟩
        have c4 := c3.trans (b4.mono c3.size)
        clear c3 b4
        go_wp2_with fail
        refine (P3.out _).mono ?_
        rintro e w5 ⟨rfl, b5⟩
        have c5 := c4.trans (b5.mono c4.size)
        clear c4 b5
        go_wp2_with fail
        refine (P4.out _).mono ?_
        rintro e w6 ⟨rfl, b6⟩
        have c6 := c5.trans (b6.mono c5.size)
        clear c5 b6
        go_wp2_with fail
        refine (P5.out _).mono ?_
        rintro e w7 ⟨rfl, b7⟩
        have c7 := c6.trans (b7.mono c6.size)
        clear c6 b7
        go_wp2_with fail
        refine (P6.out _).mono ?_
        rintro e w8 ⟨rfl, b8⟩
        have c8 := c7.trans (b8.mono c7.size)
        clear c7 b8
        go_wp2_with fail
        refine (P7.out _).mono ?_
        rintro e w9 ⟨rfl, b9⟩
        have c9 := c8.trans (b9.mono c8.size)
        clear c8 b9
        go_wp2
        go_ret
        exact ⟨rfl, c9⟩
      · simp only [Bool.not_eq_true] at hd
        rw [hd]
        clear hd et hlow
        go_wp2
        go_ret
        exact ⟨rfl, hbel⟩
end Go.Proofs.Ytpjhgokdkgnbdaa
