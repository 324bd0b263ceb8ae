/- The statement that what is shown is parsed, and the other way round: its walk. -/
import Derived.Test.YtpjhgokdkgnbdaaNumF
namespace Go.Proofs.Ytpjhgokdkgnbdaa
open Go.RowKit

theorem len_le (A : ByteArray) {l : List UInt8} (h : A.data.toList = l) {n : Nat} (hl : l.length ≤ n) : A.size ≤ n := by rw [← size_list, h]; exact hl
theorem showS_len (n b : Int) : (showS n b).1.length ≤ 65 := by
  unfold showS
  split
  · split
    · have := ushowL_len (U n) b.toNat; simp only; omega
    · have := ushowL_len (U (wrap64 (-n))) b.toNat; simp only [List.length_cons]; omega
  · simp
theorem ushowS_len (n b : Int) : (ushowS n b).1.length ≤ 64 := by
  unfold ushowS
  split
  · exact ushowL_len (U n) b.toNat
  · simp
/-- What a cell's text is, by name. -/
theorem show_named (n b : Int) (hn : Fit n) (hb : isB b = true) : ∃ A : ByteArray, A.size ≤ 65 ∧ A.data.toList = (showS n b).1 ∧ ∀ w, Calls Try.prog 45 #[.int .i64 n, .int .i64 b] w fun e w' => e = .returned (.tuple #[.string A, .int .i64 0]) ∧ Below w.heap.size w w' := by
  refine ⟨⟨(showS n b).1.toArray⟩, len_le _ rfl (showS_len n b), rfl, fun w => ?_⟩
  have h := num_Show n b w hn
  rwa [show (showS n b).2 = 0 from by unfold showS; rw [if_pos hb]] at h
theorem ushow_named (n b : Int) (hn : Fit n) (hb : isB b = true) : ∃ A : ByteArray, A.size ≤ 64 ∧ A.data.toList = ushowL (U n) b.toNat ∧ ∀ w, Calls Try.prog 46 #[.int .i64 n, .int .i64 b] w fun e w' => e = .returned (.tuple #[.string A, .int .i64 0]) ∧ Below w.heap.size w w' := by
  refine ⟨⟨(ushowS n b).1.toArray⟩, len_le _ rfl (ushowS_len n b), by unfold ushowS; rw [if_pos hb], fun w => ?_⟩
  have h := num_UShow n b w hn
  rwa [show (ushowS n b).2 = 0 from by unfold ushowS; rw [if_pos hb]] at h
theorem parse_named (A : ByteArray) (b n : Int) (ok : Bool) (h : parseS A.data.toList b = (n, ok)) (hA : A.size ≤ 9223372036854775807) : ∀ w, Calls Try.prog 47 #[.string A, .int .i64 b] w fun e w' => e = .returned (.tuple #[.int .i64 n, .bool ok]) ∧ Below w.heap.size w w' := by
  intro w
  have := num_Parse A b w hA
  rwa [h] at this
theorem cat_size (A B : ByteArray) : (A ++ B).size = A.size + B.size := by simp

set_option maxRecDepth 100000 in
set_option maxHeartbeats 2000000 in
theorem walk_NumBack_no (n m b o : Int) (w : World) (hn : Fit n) (hm : Fit m) (hb : isB b = false) :
    Calls Try.prog 10 #[.agg #[.int .i64 n, .int .i64 m, .int .i64 b, .int .i64 o]] w fun e w' => e = .returned (.bool true) ∧ Below w.heap.size w w' := by
  have h1 := fun w => num_Show n b w hn
  have h2 := fun w => num_Show m b w hm
  rw [show showS n b = ([], -24) from by unfold showS; rw [hb]; rfl] at h1
  rw [show showS m b = ([], -24) from by unfold showS; rw [hb]; rfl] at h2
  have H1 := Lib.hid h1
  have H2 := Lib.hid h2
  have c0 : Below w.heap.size w (w.alloc (.cells #[.int .i64 n, .int .i64 m, .int .i64 b, .int .i64 o] 66)) := (Below.refl _ _).alloc (Nat.le_refl _) _
  have hb2 : ¬ (2 ≤ b ∧ b ≤ 36) := fun h => by rw [(isB_iff b).2 h] at hb; cases hb
  clear h1 h2 hb
  by_cases hlt : b < 2
  · have t1 : decide (b < 2) = true := by simp [hlt]
    go_enter Try.func10, Try.ntmps10
    go_wp2_with fail
    refine (num_shown _).mono ?_
    rintro e w1 ⟨rfl, b1⟩
    have c1 := c0.trans (b1.mono c0.size)
    clear c0 b1
    go_wp2_with fail
    refine (H1.out _).mono ?_
    rintro e w2 ⟨rfl, b2⟩
    have c2 := c1.trans (b2.mono c1.size)
    clear c1 b2
    go_wp2_with fail
    refine (H2.out _).mono ?_
    rintro e w3 ⟨rfl, b3⟩
    have c3 := c2.trans (b3.mono c2.size)
    clear c2 b3
    go_wp2
    go_ret
    exact ⟨rfl, c3⟩
  · have t1 : decide (b < 2) = false := by simp; omega
    have t2 : decide (36 < b) = true := by simp; omega
    go_enter Try.func10, Try.ntmps10
    go_wp2_with fail
    refine (num_shown _).mono ?_
    rintro e w1 ⟨rfl, b1⟩
    have c1 := c0.trans (b1.mono c0.size)
    clear c0 b1
    go_wp2_with fail
    refine (H1.out _).mono ?_
    rintro e w2 ⟨rfl, b2⟩
    have c2 := c1.trans (b2.mono c1.size)
    clear c1 b2
    go_wp2_with fail
    refine (H2.out _).mono ?_
    rintro e w3 ⟨rfl, b3⟩
    have c3 := c2.trans (b3.mono c2.size)
    clear c2 b3
    go_wp2
    go_ret
    exact ⟨rfl, c3⟩


set_option maxRecDepth 100000 in
set_option maxHeartbeats 4000000 in
theorem walk_NumBack_yes (n m b o : Int) (w : World) (hn : Fit n) (hm : Fit m) (hb : isB b = true) :
    Calls Try.prog 10 #[.agg #[.int .i64 n, .int .i64 m, .int .i64 b, .int .i64 o]] w fun e w' => e = .returned (.bool true) ∧ Below w.heap.size w w' := by
  obtain ⟨A, a1, a2, h1⟩ := show_named n b hn hb
  obtain ⟨B, b1, b2, h2⟩ := show_named m b hm hb
  obtain ⟨T, t1, t2, h3⟩ := show_named n 10 hn rfl
  obtain ⟨X, x1, x2, h4⟩ := show_named n 16 hn rfl
  obtain ⟨Y, y1, y2, h5⟩ := show_named n 2 hn rfl
  obtain ⟨C, k1, k2, h6⟩ := ushow_named n b hn hb
  have p1 := parse_named A b n true (by rw [a2]; exact parse_show n b hb hn) (by omega)
  have p2 := parse_named (⟨#[35]⟩ ++ T) o n true (by rw [cat_list, t2]; exact parse_marked 35 n 10 o rfl (by simp) hn) (by rw [cat_size]; have : (⟨#[35]⟩ : ByteArray).size = 1 := rfl; omega)
  have p3 := parse_named (⟨#[36]⟩ ++ X) o n true (by rw [cat_list, x2]; exact parse_marked 36 n 16 o rfl (by simp) hn) (by rw [cat_size]; have : (⟨#[36]⟩ : ByteArray).size = 1 := rfl; omega)
  have p4 := parse_named (⟨#[37]⟩ ++ Y) o n true (by rw [cat_list, y2]; exact parse_marked 37 n 2 o rfl (by simp) hn) (by rw [cat_size]; have : (⟨#[37]⟩ : ByteArray).size = 1 := rfl; omega)
  have p5 := parse_named C b n true (by rw [k2]; exact parse_ushow n b hb hn) (by omega)
  have hsame : (A.toList == B.toList) = (n == m) := by
    rw [ByteArray.toList_eq, ByteArray.toList_eq, a2, b2]
    by_cases e : n = m
    · subst e; simp
    · have : ¬ (showS n b).1 = (showS m b).1 := fun h => e (show_inj n m b hb hn hm h)
      rw [beq_eq_false_iff_ne.2 this, beq_eq_false_iff_ne.2 e]
  have H1 := Lib.hid h1
  have H2 := Lib.hid h2
  have H3 := Lib.hid h3
  have H4 := Lib.hid h4
  have H5 := Lib.hid h5
  have H6 := Lib.hid h6
  have P1 := Lib.hid p1
  have P2 := Lib.hid p2
  have P3 := Lib.hid p3
  have P4 := Lib.hid p4
  have P5 := Lib.hid p5
  have hbb := (isB_iff b).1 hb
  have g1 : decide (b < 2) = false := by simp; omega
  have g2 : decide (36 < b) = false := by simp; omega
  have c0 : Below w.heap.size w (w.alloc (.cells #[.int .i64 n, .int .i64 m, .int .i64 b, .int .i64 o] 66)) := (Below.refl _ _).alloc (Nat.le_refl _) _
  clear h1 h2 h3 h4 h5 h6 p1 p2 p3 p4 p5 a2 b2 t2 x2 y2 k2 hb hn hm
  obtain ⟨q, hq⟩ : ∃ q, (n == m) = q := ⟨_, rfl⟩
  rw [hq] at hsame
  go_enter Try.func10, Try.ntmps10
  go_wp2_with fail
  refine (num_shown _).mono ?_
  rintro e w1 ⟨rfl, b1⟩
  have c1 := c0.trans (b1.mono c0.size)
  clear c0 b1
  go_wp2_with fail
  refine (H1.out _).mono ?_
  rintro e w2 ⟨rfl, b2⟩
  have c2 := c1.trans (b2.mono c1.size)
  clear c1 b2
  go_wp2_with fail
  refine (H2.out _).mono ?_
  rintro e w3 ⟨rfl, b3⟩
  have c3 := c2.trans (b3.mono c2.size)
  clear c2 b3
  go_wp2_with fail
  refine (P1.out _).mono ?_
  rintro e w4 ⟨rfl, b4⟩
  have c4 := c3.trans (b4.mono c3.size)
  clear c3 b4
  go_wp2_with fail
  refine (H3.out _).mono ?_
  rintro e w5 ⟨rfl, b5⟩
  have c5 := c4.trans (b5.mono c4.size)
  clear c4 b5
  go_wp2_with fail
  refine (H4.out _).mono ?_
  rintro e w6 ⟨rfl, b6⟩
  have c6 := c5.trans (b6.mono c5.size)
  clear c5 b6
  go_wp2_with fail
  refine (H5.out _).mono ?_
  rintro e w7 ⟨rfl, b7⟩
  have c7 := c6.trans (b7.mono c6.size)
  clear c6 b7
  go_wp2_with fail
  refine (P2.out _).mono ?_
  rintro e w8 ⟨rfl, b8⟩
  have c8 := c7.trans (b8.mono c7.size)
  clear c7 b8
  go_wp2_with fail
  refine (P3.out _).mono ?_
  rintro e w9 ⟨rfl, b9⟩
  have c9 := c8.trans (b9.mono c8.size)
  clear c8 b9
  go_wp2_with fail
  refine (P4.out _).mono ?_
  rintro e w10 ⟨rfl, b10⟩
  have c10 := c9.trans (b10.mono c9.size)
  clear c9 b10
  go_wp2_with fail
  refine (H6.out _).mono ?_
  rintro e w11 ⟨rfl, b11⟩
  have c11 := c10.trans (b11.mono c10.size)
  clear c10 b11
  go_wp2_with fail
  refine (P5.out _).mono ?_
  rintro e w12 ⟨rfl, b12⟩
  have c12 := c11.trans (b12.mono c11.size)
  clear c11 b12
  go_wp2
  go_ret
  exact ⟨rfl, c12⟩
end Go.Proofs.Ytpjhgokdkgnbdaa
