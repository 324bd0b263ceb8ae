/- The examples at the head of layer 6's statements hold; the document's answer on cells as texts; the statement that all is as the document says. -/
import Derived.Test.YtpjhgokdkgnbdaaNumE
import Derived.Test.YtpjhgokdkgnbdaaOpen
namespace Go.Proofs.Ytpjhgokdkgnbdaa
open Go.RowKit

theorem ref_Show (n b : Int) (w : World) (hn : Fit n) : Calls Try.prog 41 #[.int .i64 n, .int .i64 b] w fun e w' => e = .returned (.tuple #[.string ⟨(showS n b).1.toArray⟩, .int .i64 (showS n b).2]) ∧ Below w.heap.size w w' := by
  by_cases h0 : 0 ≤ n
  · have e : showS n b = ushowS n b := by unfold showS ushowS; simp only [h0, if_true]
    rw [e]
    have H := Lib.hid (ref_UShow n b w)
    go_enter Try.func41, Try.ntmps41
    go_wp2_with (go_at_call 40; refine H.out.mono ?_; rintro e w1 ⟨rfl, hb⟩)
    go_ret2
    exact ⟨rfl, hb⟩
  · have h1 : decide (0 ≤ n) = false := by simp; omega
    by_cases hb : isB b = true
    · have e : ushowS (wrap64 (-n)) b = (ushowL (U (wrap64 (-n))) b.toNat, 0) := by unfold ushowS; rw [if_pos hb]
      have e2 : showS n b = (45 :: ushowL (U (wrap64 (-n))) b.toNat, 0) := by unfold showS; rw [if_pos hb]; simp only [h0, if_false]
      have H0 := ref_UShow (wrap64 (-n)) b w
      rw [e] at H0
      clear e
      have hl := ushowL_len (U (wrap64 (-n))) b.toNat
      generalize ushowL (U (wrap64 (-n))) b.toNat = l at H0 e2 hl
      have H := Lib.hid H0
      have E2 := Lib.hid e2
      clear e2 H0
      go_enter Try.func41, Try.ntmps41
      go_wp2_with (go_at_call 40; refine H.out.mono ?_; rintro e w1 ⟨rfl, hb⟩)
      go_ret2
      exact ⟨by rw [E2.out]; exact ret_si (str_eq (by simp)) rfl, hb⟩
    · have e : ushowS (wrap64 (-n)) b = ([], -24) := by unfold ushowS; rw [if_neg hb]
      have e2 : showS n b = ([], -24) := by unfold showS; rw [if_neg hb]
      have H0 := ref_UShow (wrap64 (-n)) b w
      rw [e] at H0
      have H := Lib.hid H0
      have E2 := Lib.hid e2
      clear e e2 H0
      go_enter Try.func41, Try.ntmps41
      go_wp2_with (go_at_call 40; refine H.out.mono ?_; rintro e w1 ⟨rfl, hb⟩)
      go_ret2
      exact ⟨by rw [E2.out]; rfl, hb⟩

set_option maxRecDepth 100000 in
set_option maxHeartbeats 2000000 in
theorem num_shown (w : World) : Calls Try.prog 44 #[] w fun e w' => e = .returned (.bool true) ∧ Below w.heap.size w w' := by
  have p1 := fun w => num_Parse ⟨#[36, 45, 49, 102]⟩ 10 w (by decide)
  rw [show parseS (⟨#[36, 45, 49, 102]⟩ : ByteArray).data.toList 10 = (-31, true) from by decide +kernel] at p1
  have p2 := fun w => num_Parse ⟨#[39, 65, 39]⟩ 10 w (by decide)
  rw [show parseS (⟨#[39, 65, 39]⟩ : ByteArray).data.toList 10 = (65, true) from by decide +kernel] at p2
  have p3 := fun w => num_Parse ⟨#[49, 50]⟩ 3 w (by decide)
  rw [show parseS (⟨#[49, 50]⟩ : ByteArray).data.toList 3 = (5, true) from by decide +kernel] at p3
  have p4 := fun w => num_Show (-255) 16 w (by omega)
  rw [show showS (-255) 16 = ([45, 70, 70], 0) from by decide +kernel] at p4
  have p5 := fun w => num_UShow (-1) 16 w (by omega)
  rw [show ushowS (-1) 16 = ([70, 70, 70, 70, 70, 70, 70, 70, 70, 70, 70, 70, 70, 70, 70, 70], 0) from by decide +kernel] at p5
  have p6 := fun w => num_Parse ⟨#[49, 50]⟩ 2 w (by decide)
  rw [show parseS (⟨#[49, 50]⟩ : ByteArray).data.toList 2 = (0, false) from by decide +kernel] at p6
  have p7 := fun w => num_Worth 122 36 w (by omega) (by omega)
  rw [show worthS 122 36 = (35, true) from by decide +kernel] at p7
  have p8 := fun w => num_Digit 10 w
  rw [show digS 10 = 65 from by decide +kernel] at p8
  have P1 := Lib.hid p1
  have P2 := Lib.hid p2
  have P3 := Lib.hid p3
  have P4 := Lib.hid p4
  have P5 := Lib.hid p5
  have P6 := Lib.hid p6
  have P7 := Lib.hid p7
  have P8 := Lib.hid p8
  clear p1 p2 p3 p4 p5 p6 p7 p8
  go_enter Try.func44, Try.ntmps44
  go_wp2_with fail
  refine (P1.out _).mono ?_
  rintro e w1 ⟨rfl, b1⟩
  go_wp2_with fail
  refine (P2.out _).mono ?_
  rintro e w2 ⟨rfl, b2⟩
  have c2 := b1.trans (b2.mono b1.size)
  clear b1 b2
  go_wp2_with fail
  refine (P3.out _).mono ?_
  rintro e w3 ⟨rfl, b3⟩
  have c3 := c2.trans (b3.mono c2.size)
  clear c2 b3
  go_wp2_with fail
  refine (P4.out _).mono ?_
  rintro e w4 ⟨rfl, b4⟩
  have c4 := c3.trans (b4.mono c3.size)
  clear c3 b4
  go_wp2_with fail
  refine (P5.out _).mono ?_
  rintro e w5 ⟨rfl, b5⟩
  have c5 := c4.trans (b5.mono c4.size)
  clear c4 b5
  go_wp2_with fail
  refine (P6.out _).mono ?_
  rintro e w6 ⟨rfl, b6⟩
  have c6 := c5.trans (b6.mono c5.size)
  clear c5 b6
  go_wp2_with fail
  refine (P7.out _).mono ?_
  rintro e w7 ⟨rfl, rfl⟩
  go_wp2_with fail
  refine (P8.out _).mono ?_
  rintro e w8 ⟨rfl, rfl⟩
  go_wp2
  go_ret
  exact ⟨rfl, c6⟩

theorem str_name (l : List UInt8) : ∃ A : ByteArray, (⟨l.toArray⟩ : ByteArray) = A := ⟨_, rfl⟩

set_option maxRecDepth 100000 in
set_option maxHeartbeats 2000000 in
theorem walk_NumTells_at (n b c : Int) (s : ByteArray) (w : World) (hn : Fit n) (hc : 0 ≤ c ∧ c ≤ 255) (hs : s.size ≤ 9223372036854775807) :
    Calls Try.prog 9 #[.agg #[.int .i64 n, .int .i64 b, .int .u8 c, .string s]] w fun e w' => e = .returned (.bool true) ∧ Below w.heap.size w w' := by
  have h1 := fun w => num_Show n b w hn
  have h2 := fun w => ref_Show n b w hn
  have h3 := fun w => num_UShow n b w hn
  have h4 := fun w => ref_UShow n b w
  have h5 := fun w => num_Parse s b w hs
  have h6 := fun w => ref_Parse s b w hs
  have h7 := fun w => num_Worth c b w hc.1 hc.2
  have h8 := fun w => ref_Worth c b w hc.1 hc.2
  have h9 := fun w => num_Digit n w
  have h10 := fun w => ref_Digit n w
  obtain ⟨A, hA⟩ := str_name (showS n b).1
  obtain ⟨x, hx⟩ : ∃ x, (showS n b).2 = x := ⟨_, rfl⟩
  obtain ⟨C, hC⟩ := str_name (ushowS n b).1
  obtain ⟨y, hy⟩ : ∃ y, (ushowS n b).2 = y := ⟨_, rfl⟩
  obtain ⟨k, is, hk⟩ : ∃ k is, parseS s.data.toList b = (k, is) := ⟨_, _, rfl⟩
  obtain ⟨p, j, hp⟩ : ∃ p j, worthS c b = (p, j) := ⟨_, _, rfl⟩
  obtain ⟨d, hd⟩ : ∃ d, digS n = d := ⟨_, rfl⟩
  rw [hA, hx] at h1 h2
  rw [hC, hy] at h3 h4
  rw [hk] at h5 h6
  rw [hp] at h7 h8
  rw [hd] at h9 h10
  have H1 := Lib.hid h1
  have H2 := Lib.hid h2
  have H3 := Lib.hid h3
  have H4 := Lib.hid h4
  have H5 := Lib.hid h5
  have H6 := Lib.hid h6
  have H7 := Lib.hid h7
  have H8 := Lib.hid h8
  have H9 := Lib.hid h9
  have H10 := Lib.hid h10
  clear h1 h2 h3 h4 h5 h6 h7 h8 h9 h10 hA hx hC hy hk hp hd
  have c0 : Below w.heap.size w (w.alloc (.cells #[.int .i64 n, .int .i64 b, .int .u8 c, .string s] 60)) := (Below.refl _ _).alloc (Nat.le_refl _) _
  by_cases hl : 100 < s.size
  · have t : (100 : Int) < (s.size : Int) := by omega
    go_enter Try.func9, Try.ntmps9
    go_wp2_with fail
    refine (num_shown _).mono ?_
    rintro e w1 ⟨rfl, b1⟩
    have c1 := c0.trans (b1.mono c0.size)
    clear c0 b1
    go_wp2
    go_ret
    exact ⟨rfl, c1⟩
  · have t : ¬ (100 : Int) < (s.size : Int) := by omega
    go_enter Try.func9, Try.ntmps9
    go_wp2_with fail
    refine (num_shown _).mono ?_
    rintro e w1 ⟨rfl, b1⟩
    have c1 := c0.trans (b1.mono c0.size)
    clear c0 b1
    go_wp2_with fail
    refine (H1.out _).mono ?_
    rintro e w2 ⟨rfl, b2⟩
    have c2 := c1.trans (b2.mono c1.size)
    clear c1 b2
    go_wp2_with fail
    refine (H2.out _).mono ?_
    rintro e w3 ⟨rfl, b3⟩
    have c3 := c2.trans (b3.mono c2.size)
    clear c2 b3
    go_wp2_with fail
    refine (H3.out _).mono ?_
    rintro e w4 ⟨rfl, b4⟩
    have c4 := c3.trans (b4.mono c3.size)
    clear c3 b4
    go_wp2_with fail
    refine (H4.out _).mono ?_
    rintro e w5 ⟨rfl, b5⟩
    have c5 := c4.trans (b5.mono c4.size)
    clear c4 b5
    go_wp2_with fail
    refine (H5.out _).mono ?_
    rintro e w6 ⟨rfl, b6⟩
    have c6 := c5.trans (b6.mono c5.size)
    clear c5 b6
    go_wp2_with fail
    refine (H6.out _).mono ?_
    rintro e w' ⟨rfl, rfl⟩
    go_wp2_with fail
    refine (H7.out _).mono ?_
    rintro e w' ⟨rfl, rfl⟩
    go_wp2_with fail
    refine (H8.out _).mono ?_
    rintro e w' ⟨rfl, rfl⟩
    go_wp2_with fail
    refine (H9.out _).mono ?_
    rintro e w' ⟨rfl, rfl⟩
    go_wp2_with fail
    refine (H10.out _).mono ?_
    rintro e w' ⟨rfl, rfl⟩
    go_wp2
    go_ret
    exact ⟨rfl, c6⟩

theorem cellsOf_NumTellsIn : Try.prog.cellsOf 60 = 4 := by kernel_rfl
theorem walk_NumTells (v : Value) (w : World) (h : Reads w 60 v) : Calls Try.prog 9 #[v] w fun e w' => e = .returned (.bool true) ∧ Below w.heap.size w w' := by
  obtain ⟨cs, rfl, hl, hr⟩ := reads_struct Try.underlying60 h
  rw [cellsOf_NumTellsIn] at hl
  obtain ⟨a, b, c, d, e⟩ := four_list hl
  rw [e] at hr
  have f0 := rd_field1 Try.underlying60 hr 0 _ rfl cellsOf_int a rfl
  have f1 := rd_field1 Try.underlying60 hr 1 _ rfl cellsOf_int b rfl
  have f2 := rd_field1 Try.underlying60 hr 2 _ rfl cellsOf_uint8 c rfl
  have f3 := rd_field1 Try.underlying60 hr 3 _ rfl cellsOf_string d rfl
  obtain ⟨n, h0, w0⟩ := rd_int Try.underlying3 f0
  obtain ⟨m, h1, w1⟩ := rd_int Try.underlying3 f1
  obtain ⟨x, h2, w2⟩ := rd_int Try.underlying5 f2
  obtain ⟨s, h3, w3⟩ := rd_string Try.underlying9 f3
  simp only [List.cons.injEq, and_true] at h0 h1 h2 h3
  subst h0 h1 h2 h3
  obtain rfl := agg_list e
  exact walk_NumTells_at n m x s w (fit_wf w0) (byte_wf w2) (max_len w3)
end Go.Proofs.Ytpjhgokdkgnbdaa
