/- The walks of layer 6 (num), part A: digits, what signs are worth, marks, by the program and by the document's answer. -/
import Derived.Test.YtpjhgokdkgnbdaaNumS
import Derived.Test.YtpjhgokdkgnbdaaCellA
import Derived.Lib.IndexBytes
import Derived.RegionTactic
namespace Go.Proofs.Ytpjhgokdkgnbdaa
open Go.RowKit

theorem ret_k {k : IntKind} {a b : Int} (h : a = b) : Ending.returned (.int k a) = .returned (.int k b) := by rw [h]
theorem ret_b {a b : Bool} (h : a = b) : Ending.returned (.bool a) = .returned (.bool b) := by rw [h]
theorem ret_pr {k : IntKind} {a : Int} {x : Bool} {p : Int × Bool} (h : p = (a, x)) : Ending.returned (.tuple #[.int k a, .bool x]) = .returned (.tuple #[.int k p.1, .bool p.2]) := by rw [h]

theorem digits_at : ∀ k : Nat, (h : k < 36) → (((ByteArray.mk #[48, 49, 50, 51, 52, 53, 54, 55, 56, 57, 65, 66, 67, 68, 69, 70, 71, 72, 73, 74, 75, 76, 77, 78, 79, 80, 81, 82, 83, 84, 85, 86, 87, 88, 89, 90])[k]'(by exact h)).toNat : Int) = digS k := by decide

theorem num_Digit (n : Int) (w : World) : Calls Try.prog 50 #[.int .i64 n] w fun e w' => e = .returned (.int .u8 (digS n)) ∧ w = w' := by
  by_cases h0 : n < 0
  · have d : decide (n < 0) = true := by simp [h0]
    go_enter Try.func50, Try.ntmps50
    go_wp2
    go_ret
    exact ⟨ret_k (by unfold digS; rw [if_neg (by omega), if_neg (by omega)]), rfl⟩
  · by_cases h1 : 36 ≤ n
    · have d : decide (n < 0) = false := by simp; omega
      have d1 : decide (36 ≤ n) = true := by simp [h1]
      go_enter Try.func50, Try.ntmps50
      go_wp2
      go_ret
      exact ⟨ret_k (by unfold digS; rw [if_neg (by omega), if_neg (by omega)]), rfl⟩
    · have d : decide (n < 0) = false := by simp; omega
      have d1 : decide (36 ≤ n) = false := by simp; omega
      obtain ⟨k, rfl⟩ := Int.eq_ofNat_of_zero_le (by omega : 0 ≤ n)
      go_enter Try.func50, Try.ntmps50
      go_wp2
      go_ret
      exact ⟨ret_k (digits_at k (by omega)), rfl⟩

theorem ref_Digit (n : Int) (w : World) : Calls Try.prog 51 #[.int .i64 n] w fun e w' => e = .returned (.int .u8 (digS n)) ∧ w = w' := by
  go_enter Try.func51, Try.ntmps51
  go_wp2
  all_goals go_ret
  all_goals exact ⟨ret_k (by unfold digS; first | (rw [if_pos (by omega)]; done) | (rw [if_neg (by omega), if_pos (by omega)]; done) | (rw [if_neg (by omega), if_neg (by omega)]; done)), rfl⟩

theorem num_is (b : Int) (w : World) : Calls Try.prog 75 #[.int .i64 b] w fun e w' => e = .returned (.bool (isB b)) ∧ w = w' := by
  go_enter Try.func75, Try.ntmps75
  go_wp2
  all_goals go_ret
  all_goals exact ⟨ret_b (by unfold isB; simp <;> omega), rfl⟩

theorem num_worth (c : Int) (w : World) (h0 : -2147483648 ≤ c) (h1 : c ≤ 2147483647) : Calls Try.prog 79 #[.int .i32 c] w fun e w' => e = .returned (.int .i64 (wd c)) ∧ w = w' := by
  go_enter Try.func79, Try.ntmps79
  go_wp2
  all_goals go_ret
  all_goals exact ⟨ret_k (by clear h0 h1; unfold wd; (repeat' split) <;> omega), rfl⟩

theorem worthS_no (c b : Int) (h : b < 2 ∨ 36 < b ∨ wd c < 0 ∨ b ≤ wd c) : worthS c b = (0, false) := by
  unfold worthS; rw [if_neg]; rw [isB_iff]; omega
theorem worthS_yes (c b : Int) (h : 2 ≤ b ∧ b ≤ 36 ∧ 0 ≤ wd c ∧ wd c < b) : worthS c b = (wd c, true) := by
  unfold worthS; rw [if_pos]; rw [isB_iff]; omega

theorem ref_Worth (c b : Int) (w : World) (h0 : 0 ≤ c) (h1 : c ≤ 255) : Calls Try.prog 42 #[.int .u8 c, .int .i64 b] w fun e w' => e = .returned (.tuple #[.int .i64 (worthS c b).1, .bool (worthS c b).2]) ∧ w = w' := by
  go_enter Try.func42, Try.ntmps42
  go_wp2
  all_goals go_ret2
  all_goals first
    | (exact ⟨ret_pr (worthS_no c b (by unfold wd; (repeat' split) <;> omega)), rfl⟩)
    | (exact ⟨ret_pr ((worthS_yes c b (by unfold wd; (repeat' split) <;> omega)).trans (congrArg (·, true) (by unfold wd; (repeat' split) <;> omega))), rfl⟩)

theorem num_Worth (c b : Int) (w : World) (h0 : 0 ≤ c) (h1 : c ≤ 255) : Calls Try.prog 49 #[.int .u8 c, .int .i64 b] w fun e w' => e = .returned (.tuple #[.int .i64 (worthS c b).1, .bool (worthS c b).2]) ∧ w = w' := by
  have hw := wd_rng c
  by_cases hb : isB b = true
  · have hb2 := (isB_iff b).1 hb
    go_enter Try.func49, Try.ntmps49
    go_wp2_with (first
      | (go_at_call 79; refine (num_worth c _ (by omega) (by omega)).mono ?_; rintro e w' ⟨rfl, rfl⟩)
      | (go_at_call 75; refine (num_is b _).mono ?_; rintro e w' ⟨rfl, rfl⟩))
    all_goals go_ret2
    all_goals first
      | (exact ⟨ret_pr (worthS_no c b (by omega)), rfl⟩)
      | (exact ⟨ret_pr (worthS_yes c b (by omega)), rfl⟩)
  · have hb2 : ¬ (2 ≤ b ∧ b ≤ 36) := fun h => hb ((isB_iff b).2 h)
    simp only [Bool.not_eq_true] at hb
    go_enter Try.func49, Try.ntmps49
    go_wp2_with (first
      | (go_at_call 79; refine (num_worth c _ (by omega) (by omega)).mono ?_; rintro e w' ⟨rfl, rfl⟩)
      | (go_at_call 75; refine (num_is b _).mono ?_; rintro e w' ⟨rfl, rfl⟩))
    go_ret2
    exact ⟨ret_pr (worthS_no c b (by omega)), rfl⟩

/-! ### Texts -/

theorem size_list (s : ByteArray) : s.data.toList.length = s.size := by simp
theorem at_list (s : ByteArray) (k : Nat) (h : k < s.size) : s.data.toList[k]'(by simpa using h) = s[k] := rfl
/-- A text of three signs. -/
theorem three_list (s : ByteArray) (h : s.size = 3) (h0 : 0 < s.size) (h1 : 1 < s.size) (h2 : 2 < s.size) : s.data.toList = [s[0], s[1], s[2]] := by
  apply List.ext_getElem
  · simp; exact h
  · intro i h1 h2
    simp at h2
    match i with
    | 0 => rfl
    | 1 => rfl
    | 2 => rfl
theorem signS_not3 (l : List UInt8) (h : l.length ≠ 3) : signS l = none := by
  unfold signS
  split
  · simp at h
  · rfl
theorem u8_eq (c : UInt8) (n : Nat) (h : n < 256) : c = UInt8.ofNat n ↔ (c.toNat : Int) = n := by
  constructor
  · rintro rfl; rw [UInt8.toNat_ofNat']; omega
  · intro e; apply UInt8.toNat.inj; rw [UInt8.toNat_ofNat']; omega

theorem three_sign (a b c : UInt8) : signS [a, b, c] = if (a.toNat : Int) = 39 ∧ (c.toNat : Int) = 39 ∧ 33 ≤ (b.toNat : Int) ∧ (b.toNat : Int) ≤ 126 then some (b.toNat : Int) else none := by
  have ha := u8_eq a 39 (by omega)
  have hc := u8_eq c 39 (by omega)
  simp only [signS]
  rw [show (UInt8.ofNat 39) = 39 from rfl] at ha hc
  simp only [ha, hc]
  by_cases h : (a.toNat : Int) = 39 ∧ (c.toNat : Int) = 39 ∧ 33 ≤ (b.toNat : Int) ∧ (b.toNat : Int) ≤ 126
  · rw [if_pos h, if_pos (by omega)]
  · rw [if_neg h, if_neg (by omega)]
theorem ret_io {a : Int} {x : Bool} {o : Option Int} (h : o.getD 0 = a) (g : o.isSome = x) : Ending.returned (.tuple #[.int .i64 a, .bool x]) = .returned (.tuple #[.int .i64 (o.getD 0), .bool o.isSome]) := by rw [h, g]
theorem three_yes (a b c : UInt8) (h : (a.toNat : Int) = 39 ∧ (c.toNat : Int) = 39 ∧ 33 ≤ (b.toNat : Int) ∧ (b.toNat : Int) ≤ 126) : signS [a, b, c] = some (b.toNat : Int) := by rw [three_sign, if_pos h]
theorem three_no (a b c : UInt8) (h : ¬ ((a.toNat : Int) = 39 ∧ (c.toNat : Int) = 39 ∧ 33 ≤ (b.toNat : Int) ∧ (b.toNat : Int) ≤ 126)) : signS [a, b, c] = none := by rw [three_sign, if_neg h]

theorem num_sign (s : ByteArray) (w : World) (hs : s.size ≤ 9223372036854775807) : Calls Try.prog 76 #[.string s] w fun e w' => e = .returned (.tuple #[.int .i64 ((signS s.data.toList).getD 0), .bool (signS s.data.toList).isSome]) ∧ w = w' := by
  by_cases h3 : s.size = 3
  · have t0 : ((s.size : Int) != 3) = false := by simp; omega
    have t1 : 0 < s.size := by omega
    have t2 : 1 < s.size := by omega
    have t3 : 2 < s.size := by omega
    have E := Lib.hid (three_list s h3 t1 t2 t3)
    clear h3
    go_enter Try.func76, Try.ntmps76
    go_wp2
    all_goals go_ret2
    all_goals first
      | (exact ⟨ret_io (by rw [E.out, three_yes _ _ _ (by omega)]; rfl) (by rw [E.out, three_yes _ _ _ (by omega)]; rfl), rfl⟩)
      | (exact ⟨ret_io (by rw [E.out, three_no _ _ _ (by omega)]; rfl) (by rw [E.out, three_no _ _ _ (by omega)]; rfl), rfl⟩)
  · have e := signS_not3 s.data.toList (by rw [size_list]; exact h3)
    have E := Lib.hid e
    have t0 : ((s.size : Int) != 3) = true := by simp; omega
    clear h3 e
    go_enter Try.func76, Try.ntmps76
    go_wp2
    go_ret2
    exact ⟨by rw [E.out]; rfl, rfl⟩

theorem empty_no (s : ByteArray) (h : 0 < s.size) : s.toList.isEmpty = false := by
  rw [ByteArray.toList_eq]; cases hl : s.data.toList with
  | nil => have := size_list s; rw [hl] at this; simp at this; omega
  | cons a l => rfl
theorem empty_yes (s : ByteArray) (h : s.size = 0) : s.toList.isEmpty = true := by
  rw [ByteArray.toList_eq]; have := size_list s; cases hl : s.data.toList with
  | nil => rfl
  | cons a l => rw [hl] at this; simp at this; omega

/-- A text's base, and what stands behind it. -/
def prefB (s : ByteArray) (b : Int) : Int × ByteArray :=
  if h : 0 < s.size then (if s[0] = 35 then (10, s.extract 1 s.size) else if s[0] = 36 then (16, s.extract 1 s.size) else if s[0] = 37 then (2, s.extract 1 s.size) else (b, s)) else (b, s)

theorem byte_eq (c : UInt8) (n : Nat) (h : n < 256) (e : c = UInt8.ofNat n) : ((c.toNat : Int) == n) = true := by simp only [beq_iff_eq]; exact (u8_eq c n h).1 e
theorem byte_ne (c : UInt8) (n : Nat) (h : n < 256) (e : c ≠ UInt8.ofNat n) : ((c.toNat : Int) == n) = false := by simp only [beq_eq_false_iff_ne]; exact fun g => e ((u8_eq c n h).2 g)
theorem prefB_0 (s : ByteArray) (b : Int) (h0 : ¬ 0 < s.size) : prefB s b = (b, s) := by unfold prefB; rw [dif_neg h0]
theorem prefB_list (s : ByteArray) (b : Int) : prefS s.data.toList b = ((prefB s b).1, (prefB s b).2.data.toList) := by
  unfold prefB
  by_cases h0 : 0 < s.size
  · have e : s.data.toList = s[0] :: s.data.toList.drop 1 := by
      have h1 : 0 < s.data.toList.length := by rw [size_list]; exact h0
      rw [show s[0] = s.data.toList[0] from rfl]
      simpa using (List.drop_eq_getElem_cons h1)
    rw [dif_pos h0]
    have hx := Lib.extract_to_end s 1
    generalize s.extract 1 s.size = t at hx ⊢
    conv => lhs; rw [e]
    simp only [prefS]
    split
    · rw [hx]
    · split
      · rw [hx]
      · split
        · rw [hx]
        · rw [← e]
  · rw [dif_neg h0]
    have : s.data.toList = [] := List.eq_nil_of_length_eq_zero (by rw [size_list]; omega)
    rw [this]
    rfl

theorem num_prefix (s : ByteArray) (b : Int) (w : World) (hs : s.size ≤ 9223372036854775807) : Calls Try.prog 77 #[.string s, .int .i64 b] w fun e w' => e = .returned (.tuple #[.int .i64 (prefB s b).1, .string (prefB s b).2]) ∧ ∃ n, w' = w.drewN n := by
  by_cases h0 : 0 < s.size
  · have t := empty_no s h0
    by_cases h1 : s[0] = 35
    · have c1 : ((s[0].toNat : Int) == 35) = true := byte_eq s[0] 35 (by omega) h1
      have e : prefB s b = (10, s.extract 1 s.size) := by unfold prefB; rw [dif_pos h0, if_pos h1]
      have E := Lib.hid e
      clear e h1
      go_enter Try.func77, Try.ntmps77
      go_wp2
      go_region
      go_wp2
      go_ret2
      exact ⟨by rw [E.out]; rfl, 1, rfl⟩
    · have c1 : ((s[0].toNat : Int) == 35) = false := byte_ne s[0] 35 (by omega) h1
      by_cases h2 : s[0] = 36
      · have c2 : ((s[0].toNat : Int) == 36) = true := byte_eq s[0] 36 (by omega) h2
        have e : prefB s b = (16, s.extract 1 s.size) := by unfold prefB; rw [dif_pos h0, if_neg h1, if_pos h2]
        have E := Lib.hid e
        clear e h1 h2
        go_enter Try.func77, Try.ntmps77
        go_wp2
        go_region
        go_wp2
        go_ret2
        exact ⟨by rw [E.out]; rfl, 1, rfl⟩
      · have c2 : ((s[0].toNat : Int) == 36) = false := byte_ne s[0] 36 (by omega) h2
        by_cases h3 : s[0] = 37
        · have c3 : ((s[0].toNat : Int) == 37) = true := byte_eq s[0] 37 (by omega) h3
          have e : prefB s b = (2, s.extract 1 s.size) := by unfold prefB; rw [dif_pos h0, if_neg h1, if_neg h2, if_pos h3]
          have E := Lib.hid e
          clear e h1 h2 h3
          go_enter Try.func77, Try.ntmps77
          go_wp2
          go_region
          go_wp2
          go_ret2
          exact ⟨by rw [E.out]; rfl, 1, rfl⟩
        · have c3 : ((s[0].toNat : Int) == 37) = false := byte_ne s[0] 37 (by omega) h3
          have e : prefB s b = (b, s) := by unfold prefB; rw [dif_pos h0, if_neg h1, if_neg h2, if_neg h3]
          have E := Lib.hid e
          clear e h1 h2 h3
          go_enter Try.func77, Try.ntmps77
          go_wp2
          go_ret2
          exact ⟨by rw [E.out]; rfl, 0, rfl⟩
  · have t := empty_yes s (by omega)
    have E := Lib.hid (prefB_0 s b h0)
    go_enter Try.func77, Try.ntmps77
    go_wp2
    go_ret2
    exact ⟨by rw [E.out]; rfl, 0, rfl⟩

/-- What stands behind a minus, and whether there is one. -/
def cutB (s : ByteArray) : ByteArray × Bool := (⟨(cutS s.data.toList).1.toArray⟩, (cutS s.data.toList).2)
theorem num_cut (s : ByteArray) (w : World) : Calls Try.prog 78 #[.string s, .string ⟨#[45]⟩] w fun e w' => e = .returned (.tuple #[.string (cutB s).1, .bool (cutB s).2]) ∧ w = w' := by
  refine (Try.strings_CutPrefix s ⟨#[45]⟩ w).mono ?_
  rintro e w' ⟨rfl, rfl⟩
  refine ⟨?_, rfl⟩
  have h : Lib.trimPrefix s.data.toList [45] = (cutS s.data.toList).1 ∧ Lib.hasPrefix s.data.toList [45] = (cutS s.data.toList).2 := by
    cases s.data.toList with
    | nil => exact ⟨rfl, rfl⟩
    | cons c l =>
      by_cases h : c = 45
      · subst h; simp [cutS, Lib.trimPrefix, Lib.hasPrefix, List.isPrefixOf]
      · have h' : ¬ 45 = c := fun e => h e.symm
        simp [cutS, Lib.trimPrefix, Lib.hasPrefix, List.isPrefixOf, h, h']
  show Ending.returned (.tuple #[.string ⟨(Lib.trimPrefix s.data.toList [45]).toArray⟩, .bool (Lib.hasPrefix s.data.toList [45])]) = _
  rw [h.1, h.2]
  rfl
end Go.Proofs.Ytpjhgokdkgnbdaa
