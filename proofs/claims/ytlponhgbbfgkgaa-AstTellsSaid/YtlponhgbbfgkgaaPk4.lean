import Derived.Laws.RangeAny
import Derived.Lib.IndexBytes
import Derived.RegionTactic
import Derived.Stop.IfaceNil
import Derived.Test.YtlponhgbbfgkgaaPk3
set_option linter.unusedVariables false
set_option linter.unusedSimpArgs false
namespace Go.Proofs.Ytlponhgbbfgkgaa
open Go.RowKit
theorem ret_k {k : IntKind} {a b : Int} (h : a = b) : Ending.returned (.int k a) = .returned (.int k b) := by rw [h]
theorem ret_b {a b : Bool} (h : a = b) : Ending.returned (.bool a) = .returned (.bool b) := by rw [h]
theorem ret_pr {k : IntKind} {a : Int} {x : Bool} {p : Int × Bool} (h : p = (a, x)) : Ending.returned (.tuple #[.int k a, .bool x]) = .returned (.tuple #[.int k p.1, .bool p.2]) := by rw [h]
theorem num_is (b : Int) (w : World) : Calls Try.prog 81 #[.int .i64 b] w fun e w' => e = .returned (.bool (isB b)) ∧ w = w' := by
 go_enter Try.func81, Try.ntmps81
 go_wp2
 all_goals go_ret
 all_goals exact ⟨ret_b (by unfold isB; simp <;> omega), rfl⟩
theorem num_worth (c : Int) (w : World) (h0 : -2147483648 ≤ c) (h1 : c ≤ 2147483647) : Calls Try.prog 82 #[.int .i32 c] w fun e w' => e = .returned (.int .i64 (wd c)) ∧ w = w' := by
 go_enter Try.func82, Try.ntmps82
 go_wp2
 all_goals go_ret
 all_goals exact ⟨ret_k (by clear h0 h1; unfold wd; (repeat' split) <;> omega), rfl⟩
theorem worthS_no (c b : Int) (h : b < 2 ∨ 36 < b ∨ wd c < 0 ∨ b ≤ wd c) : worthS c b = (0, false) := by
 unfold worthS; rw [if_neg]; rw [isB_iff]; omega
theorem worthS_yes (c b : Int) (h : 2 ≤ b ∧ b ≤ 36 ∧ 0 ≤ wd c ∧ wd c < b) : worthS c b = (wd c, true) := by
 unfold worthS; rw [if_pos]; rw [isB_iff]; omega
theorem ref_Worth (c b : Int) (w : World) (h0 : 0 ≤ c) (h1 : c ≤ 255) : Calls Try.prog 91 #[.int .u8 c, .int .i64 b] w fun e w' => e = .returned (.tuple #[.int .i64 (worthS c b).1, .bool (worthS c b).2]) ∧ w = w' := by
 go_enter Try.func91, Try.ntmps91
 go_wp2
 all_goals go_ret2
 all_goals first
  | (exact ⟨ret_pr (worthS_no c b (by unfold wd; (repeat' split) <;> omega)), rfl⟩)
  | (exact ⟨ret_pr ((worthS_yes c b (by unfold wd; (repeat' split) <;> omega)).trans (congrArg (·, true) (by unfold wd; (repeat' split) <;> omega))), rfl⟩)
theorem size_list (s : ByteArray) : s.data.toList.length = s.size := by simp
theorem three_list (s : ByteArray) (h : s.size = 3) (h0 : 0 < s.size) (h1 : 1 < s.size) (h2 : 2 < s.size) : s.data.toList = [s[0], s[1], s[2]] := by
 apply List.ext_getElem
 ·simp; exact h
 ·intro i h1 h2
  simp at h2
  match i with
  | 0 => rfl
  | 1 => rfl
  | 2 => rfl
theorem signS_not3 (l : List UInt8) (h : l.length ≠ 3) : signS l = none := by
 unfold signS
 split
 ·simp at h
 ·rfl
theorem u8_eq (c : UInt8) (n : Nat) (h : n < 256) : c = UInt8.ofNat n ↔ (c.toNat : Int) = n := by
 constructor
 ·rintro rfl; rw [UInt8.toNat_ofNat']; omega
 ·intro e; apply UInt8.toNat.inj; rw [UInt8.toNat_ofNat']; omega
theorem three_sign (a b c : UInt8) : signS [a, b, c] = if (a.toNat : Int) = 39 ∧ (c.toNat : Int) = 39 ∧ 33 ≤ (b.toNat : Int) ∧ (b.toNat : Int) ≤ 126 then some (b.toNat : Int) else none := by
 have ha := u8_eq a 39 (by omega)
 have hc := u8_eq c 39 (by omega)
 simp only [signS]
 rw [show (UInt8.ofNat 39) = 39 from rfl] at ha hc
 simp only [ha, hc]
 by_cases h : (a.toNat : Int) = 39 ∧ (c.toNat : Int) = 39 ∧ 33 ≤ (b.toNat : Int) ∧ (b.toNat : Int) ≤ 126
 ·rw [if_pos h, if_pos (by omega)]
 ·rw [if_neg h, if_neg (by omega)]
theorem ret_io {a : Int} {x : Bool} {o : Option Int} (h : o.getD 0 = a) (g : o.isSome = x) : Ending.returned (.tuple #[.int .i64 a, .bool x]) = .returned (.tuple #[.int .i64 (o.getD 0), .bool o.isSome]) := by rw [h, g]
theorem three_yes (a b c : UInt8) (h : (a.toNat : Int) = 39 ∧ (c.toNat : Int) = 39 ∧ 33 ≤ (b.toNat : Int) ∧ (b.toNat : Int) ≤ 126) : signS [a, b, c] = some (b.toNat : Int) := by rw [three_sign, if_pos h]
theorem three_no (a b c : UInt8) (h : ¬ ((a.toNat : Int) = 39 ∧ (c.toNat : Int) = 39 ∧ 33 ≤ (b.toNat : Int) ∧ (b.toNat : Int) ≤ 126)) : signS [a, b, c] = none := by rw [three_sign, if_neg h]
theorem num_sign (s : ByteArray) (w : World) (hs : s.size ≤ 9223372036854775807) : Calls Try.prog 78 #[.string s] w fun e w' => e = .returned (.tuple #[.int .i64 ((signS s.data.toList).getD 0), .bool (signS s.data.toList).isSome]) ∧ w = w' := by
 by_cases h3 : s.size = 3
 ·have t0 : ((s.size : Int) != 3) = false := by simp; omega
  have t1 : 0 < s.size := by omega
  have t2 : 1 < s.size := by omega
  have t3 : 2 < s.size := by omega
  have E := Lib.hid (three_list s h3 t1 t2 t3)
  clear h3
  go_enter Try.func78, Try.ntmps78
  go_wp2
  all_goals go_ret2
  all_goals first
   | (exact ⟨ret_io (by rw [E.out, three_yes _ _ _ (by omega)]; rfl) (by rw [E.out, three_yes _ _ _ (by omega)]; rfl), rfl⟩)
   | (exact ⟨ret_io (by rw [E.out, three_no _ _ _ (by omega)]; rfl) (by rw [E.out, three_no _ _ _ (by omega)]; rfl), rfl⟩)
 ·have e := signS_not3 s.data.toList (by rw [size_list]; exact h3)
  have E := Lib.hid e
  have t0 : ((s.size : Int) != 3) = true := by simp; omega
  clear h3 e
  go_enter Try.func78, Try.ntmps78
  go_wp2
  go_ret2
  exact ⟨by rw [E.out]; rfl, rfl⟩
theorem empty_no (s : ByteArray) (h : 0 < s.size) : s.toList.isEmpty = false := by
 rw [ByteArray.toList_eq]; cases hl : s.data.toList with
 | nil => have := size_list s; rw [hl] at this; simp at this; omega
 | cons a l => rfl
theorem empty_yes (s : ByteArray) (h : s.size = 0) : s.toList.isEmpty = true := by
 rw [ByteArray.toList_eq]; have := size_list s; cases hl : s.data.toList with
 | nil => rfl
 | cons a l => rw [hl] at this; simp at this; omega
def prefB (s : ByteArray) (b : Int) : Int × ByteArray :=
 if h : 0 < s.size then (if s[0] = 35 then (10, s.extract 1 s.size) else if s[0] = 36 then (16, s.extract 1 s.size) else if s[0] = 37 then (2, s.extract 1 s.size) else (b, s)) else (b, s)
theorem byte_eq (c : UInt8) (n : Nat) (h : n < 256) (e : c = UInt8.ofNat n) : ((c.toNat : Int) == n) = true := by simp only [beq_iff_eq]; exact (u8_eq c n h).1 e
theorem byte_ne (c : UInt8) (n : Nat) (h : n < 256) (e : c ≠ UInt8.ofNat n) : ((c.toNat : Int) == n) = false := by simp only [beq_eq_false_iff_ne]; exact fun g => e ((u8_eq c n h).2 g)
theorem prefB_0 (s : ByteArray) (b : Int) (h0 : ¬ 0 < s.size) : prefB s b = (b, s) := by unfold prefB; rw [dif_neg h0]
theorem prefB_list (s : ByteArray) (b : Int) : prefS s.data.toList b = ((prefB s b).1, (prefB s b).2.data.toList) := by
 unfold prefB
 by_cases h0 : 0 < s.size
 ·have e : s.data.toList = s[0] :: s.data.toList.drop 1 := by
   have h1 : 0 < s.data.toList.length := by rw [size_list]; exact h0
   rw [show s[0] = s.data.toList[0] from rfl]
   simpa using (List.drop_eq_getElem_cons h1)
  rw [dif_pos h0]
  have hx := Lib.extract_to_end s 1
  generalize s.extract 1 s.size = t at hx ⊢
  conv => lhs; rw [e]
  simp only [prefS]
  split
  ·rw [hx]
  ·split
   ·rw [hx]
   ·split
    ·rw [hx]
    ·rw [← e]
 ·rw [dif_neg h0]
  have : s.data.toList = [] := List.eq_nil_of_length_eq_zero (by rw [size_list]; omega)
  rw [this]
  rfl
theorem num_prefix (s : ByteArray) (b : Int) (w : World) (hs : s.size ≤ 9223372036854775807) : Calls Try.prog 79 #[.string s, .int .i64 b] w fun e w' => e = .returned (.tuple #[.int .i64 (prefB s b).1, .string (prefB s b).2]) ∧ ∃ n, w' = w.drewN n := by
 by_cases h0 : 0 < s.size
 ·have t := empty_no s h0
  by_cases h1 : s[0] = 35
  ·have c1 : ((s[0].toNat : Int) == 35) = true := byte_eq s[0] 35 (by omega) h1
   have e : prefB s b = (10, s.extract 1 s.size) := by unfold prefB; rw [dif_pos h0, if_pos h1]
   have E := Lib.hid e
   clear e h1
   go_enter Try.func79, Try.ntmps79
   go_wp2
   go_region
   go_wp2
   go_ret2
   exact ⟨by rw [E.out]; rfl, 1, rfl⟩
  ·have c1 : ((s[0].toNat : Int) == 35) = false := byte_ne s[0] 35 (by omega) h1
   by_cases h2 : s[0] = 36
   ·have c2 : ((s[0].toNat : Int) == 36) = true := byte_eq s[0] 36 (by omega) h2
    have e : prefB s b = (16, s.extract 1 s.size) := by unfold prefB; rw [dif_pos h0, if_neg h1, if_pos h2]
    have E := Lib.hid e
    clear e h1 h2
    go_enter Try.func79, Try.ntmps79
    go_wp2
    go_region
    go_wp2
    go_ret2
    exact ⟨by rw [E.out]; rfl, 1, rfl⟩
   ·have c2 : ((s[0].toNat : Int) == 36) = false := byte_ne s[0] 36 (by omega) h2
    by_cases h3 : s[0] = 37
    ·have c3 : ((s[0].toNat : Int) == 37) = true := byte_eq s[0] 37 (by omega) h3
     have e : prefB s b = (2, s.extract 1 s.size) := by unfold prefB; rw [dif_pos h0, if_neg h1, if_neg h2, if_pos h3]
     have E := Lib.hid e
     clear e h1 h2 h3
     go_enter Try.func79, Try.ntmps79
     go_wp2
     go_region
     go_wp2
     go_ret2
     exact ⟨by rw [E.out]; rfl, 1, rfl⟩
    ·have c3 : ((s[0].toNat : Int) == 37) = false := byte_ne s[0] 37 (by omega) h3
     have e : prefB s b = (b, s) := by unfold prefB; rw [dif_pos h0, if_neg h1, if_neg h2, if_neg h3]
     have E := Lib.hid e
     clear e h1 h2 h3
     go_enter Try.func79, Try.ntmps79
     go_wp2
     go_ret2
     exact ⟨by rw [E.out]; rfl, 0, rfl⟩
 ·have t := empty_yes s (by omega)
  have E := Lib.hid (prefB_0 s b h0)
  go_enter Try.func79, Try.ntmps79
  go_wp2
  go_ret2
  exact ⟨by rw [E.out]; rfl, 0, rfl⟩
def cutB (s : ByteArray) : ByteArray × Bool := (⟨(cutS s.data.toList).1.toArray⟩, (cutS s.data.toList).2)
theorem num_cut (s : ByteArray) (w : World) : Calls Try.prog 80 #[.string s, .string ⟨#[45]⟩] w fun e w' => e = .returned (.tuple #[.string (cutB s).1, .bool (cutB s).2]) ∧ w = w' := by
 refine (Try.strings_CutPrefix s ⟨#[45]⟩ w).mono ?_
 rintro e w' ⟨rfl, rfl⟩
 refine ⟨?_, rfl⟩
 have h : Lib.trimPrefix s.data.toList [45] = (cutS s.data.toList).1 ∧ Lib.hasPrefix s.data.toList [45] = (cutS s.data.toList).2 := by
  cases s.data.toList with
  | nil => exact ⟨rfl, rfl⟩
  | cons c l =>
   by_cases h : c = 45
   ·subst h; simp [cutS, Lib.trimPrefix, Lib.hasPrefix, List.isPrefixOf]
   ·have h' : ¬ 45 = c := fun e => h e.symm
    simp [cutS, Lib.trimPrefix, Lib.hasPrefix, List.isPrefixOf, h, h']
 show Ending.returned (.tuple #[.string ⟨(Lib.trimPrefix s.data.toList [45]).toArray⟩, .bool (Lib.hasPrefix s.data.toList [45])]) = _
 rw [h.1, h.2]
 rfl
end Go.Proofs.Ytlponhgbbfgkgaa
namespace Go.Proofs.Ytlponhgbbfgkgaa
open Go.RowKit
theorem parseS_none {l l' m : List UInt8} {b b' : Int} {below : Bool} (h : signS l = none) (hp : prefS l b = (b', l')) (hc : cutS l' = (m, below)) : parseS l b = bareS m b' below := by
 unfold parseS; rw [h, hp]; simp only [hc]
theorem parseS_some {l : List UInt8} {b n : Int} (h : signS l = some n) : parseS l b = (n, true) := by
 unfold parseS; rw [h]
theorem bareS_nil (b : Int) (below : Bool) : bareS [] b below = (0, false) := by unfold bareS; rw [if_pos (.inl rfl)]
theorem bareS_nob (l : List UInt8) (b : Int) (below : Bool) (h : isB b = false) : bareS l b below = (0, false) := by unfold bareS; rw [if_pos (.inr (.inl h))]
theorem take_snoc (s : ByteArray) (k : Nat) (h : k < s.size) : s.data.toList.take (k + 1) = s.data.toList.take k ++ [s[k]] := by
 rw [List.take_succ_eq_append_getElem (by simpa using h)]; rfl
theorem all_take (p : UInt8 → Bool) (s : ByteArray) (k : Nat) (h : k < s.size) (hb : p s[k] = false) : s.data.toList.all p = false := by
 rw [List.all_eq_false]
 exact ⟨s[k], List.getElem_mem (by simpa using h), by simp [hb]⟩
theorem below_iter {w w1 : World} (hb : Below w.heap.size w w1) (s : ByteArray) (p : Nat) : Below w.heap.size w (w1.iter s p) := hb.alloc hb.size _
theorem num_Parse (s : ByteArray) (b : Int) (w : World) (hs : s.size ≤ 9223372036854775807) : Calls Try.prog 52 #[.string s, .int .i64 b] w fun e w' => e = .returned (.tuple #[.int .i64 (parseS s.data.toList b).1, .bool (parseS s.data.toList b).2]) ∧ Below w.heap.size w w' := by
 have S0 := fun w => num_sign s w hs
 match hsg : signS s.data.toList with
 | some n =>
  rw [hsg] at S0
  have S := Lib.hid S0
  have E := Lib.hid (parseS_some (b := b) hsg)
  clear S0 hsg
  go_enter Try.func52, Try.ntmps52
  go_wp2_with (go_at_call 78; refine (S.out _).mono ?_; rintro e w' ⟨rfl, rfl⟩)
  go_ret2
  exact ⟨by rw [E.out]; rfl, Below.refl _ _⟩
 | none =>
  rw [hsg] at S0
  obtain ⟨b', s', hp⟩ : ∃ b' s', prefB s b = (b', s') := ⟨_, _, rfl⟩
  have P0 := fun w => num_prefix s b w hs
  rw [hp] at P0
  have hpl := prefB_list s b
  rw [hp] at hpl
  obtain ⟨t, below, hc⟩ : ∃ t below, cutB s' = (t, below) := ⟨_, _, rfl⟩
  have C0 := fun w => num_cut s' w
  rw [hc] at C0
  have hcl : cutS s'.data.toList = (t.data.toList, below) := by
   unfold cutB at hc
   obtain ⟨rfl, rfl⟩ := Prod.mk.inj hc
   simp
  have e := parseS_none hsg hpl hcl
  have htl : t.size ≤ 9223372036854775807 := by
   have h1 : t.data.toList.length ≤ s'.data.toList.length := by
    have : t.data.toList = (cutS s'.data.toList).1 := by rw [hcl]
    rw [this]
    cases s'.data.toList with
    | nil => simp [cutS]
    | cons c l => simp only [cutS]; split <;> simp
   have h2 : s'.data.toList.length ≤ s.data.toList.length := by
    have : s'.data.toList = (prefS s.data.toList b).2 := by rw [hpl]
    rw [this]
    cases s.data.toList with
    | nil => simp [prefS]
    | cons c l =>
     simp only [prefS]
     repeat' split
     all_goals simp
   simp only [size_list] at h1 h2
   omega
  have S := Lib.hid S0
  have P := Lib.hid P0
  have C := Lib.hid C0
  clear S0 hsg hp hpl hc hcl P0 C0 hs
  by_cases h0 : 0 < t.size
  ·have te := empty_no t h0
   have htn : t.data.toList ≠ [] := fun h => by have := size_list t; rw [h] at this; simp at this; omega
   by_cases hb : isB b' = true
   ·have E := Lib.hid e
    have HB := Lib.hid ((isB_iff b').1 hb)
    have HN := Lib.hid htn
    have HE := Lib.hid (bareS_ok t.data.toList b' below hb htn)
    have HX := Lib.hid (bareS_no t.data.toList b' below)
    clear e htn
    go_enter Try.func52, Try.ntmps52
    go_wp2_with (first
     | (go_at_call 78; refine (S.out _).mono ?_; rintro e w' ⟨rfl, rfl⟩)
     | (go_at_call 79; refine (P.out _).mono ?_; rintro e w1 ⟨rfl, n1, hw1⟩; have HW := Lib.hid hw1; clear hw1)
     | (go_at_call 80; refine (C.out _).mono ?_; rintro e w' ⟨rfl, rfl⟩)
     | (go_at_call 81; refine (num_is b' _).mono ?_; rintro e w' ⟨rfl, rfl⟩))
    have hbel : Below w.heap.size w w1 := by rw [HW.out]; exact below_drewN (Below.refl _ _) n1
    go_loopw [9] (fun n wr => ∃ (pos : Nat) (m : Int), wr = w1.iter t pos ∧ pos ≤ t.size ∧ n = .int .i64 m ∧ Hid (m = wrap64 (valD b' 0 (t.data.toList.take pos))) ∧ Hid ((t.data.toList.take pos).all (okD b') = true)) (fun _ wr => t.size - wr.iterPos w1.heap.size)
    case atStart => exact ⟨0, 0, rfl, by omega, rfl, by show _ = _; simp [valD, wrap64], by show _ = _; simp⟩
    case round =>
     obtain ⟨pos, m, rfl, hpos, rfl, hm, hall⟩ := hrel
     by_cases hlt : pos < t.size
     ·by_cases ha : t[pos].toNat < 128
      ·have hnx : ∀ ty, (Instr.next (.pointer (some ⟨w1.heap.size, 0, none⟩)) true ty).run Try.prog (w1.iter t pos) = _ := fun ty => run_next_ascii w1 t pos ty hlt ha
       obtain ⟨d, hd⟩ : ∃ d, wd (t[pos].toNat : Int) = d := ⟨_, rfl⟩
       have hr := wd_rng (t[pos].toNat : Int)
       have W0 := fun w => num_worth (t[pos].toNat : Int) w (by omega) (by omega)
       rw [hd] at W0 hr
       have W := Lib.hid W0
       by_cases hok : okD b' t[pos] = true
       ·have h2 := (okD_iff b' t[pos]).1 hok
        rw [hd] at h2
        obtain ⟨h3, h4⟩ := h2
        have t1 : decide (d < 0) = false := by simp; omega
        have t2 : decide (b' ≤ d) = false := by simp; omega
        have hm' : Hid (wrap64 (wrap64 (m * b') + d) = wrap64 (valD b' 0 (t.data.toList.take (pos + 1)))) := by
         show _ = _
         rw [take_snoc t pos hlt, ← wrap_valD_snoc, ← hm.out, hd]
        have hall' : Hid ((t.data.toList.take (pos + 1)).all (okD b') = true) := by
         show _ = _
         rw [take_snoc t pos hlt, List.all_append, hall.out]
         simp [hok]
        clear hm hall hd W0 hok
        go_wp2_with (go_at_call 82; refine (W.out _).mono ?_; rintro e w' ⟨rfl, rfl⟩)
        go_roundw
        case rel => exact ⟨pos + 1, _, rfl, by omega, rfl, hm', hall'⟩
        case measure => simp; omega
       ·have hno : t.data.toList.all (okD b') = false := all_take _ t pos hlt (by simpa using hok)
        have hdd : d < 0 ∨ b' ≤ d := by
         have h2 : ¬ (0 ≤ d ∧ d < b') := by rw [← hd, ← okD_iff]; exact hok
         omega
        have EX := Lib.hid (HX.out hno)
        clear hm hall hd W0 hok hno
        by_cases hd0 : d < 0
        ·have t1 : decide (d < 0) = true := by simp; omega
         go_wp2_with (go_at_call 82; refine (W.out _).mono ?_; rintro e w' ⟨rfl, rfl⟩)
         go_ret2
         exact ⟨by rw [E.out, EX.out]; rfl, below_iter hbel _ _⟩
        ·have t1 : decide (d < 0) = false := by simp; omega
         have t2 : decide (b' ≤ d) = true := by simp; omega
         go_wp2_with (go_at_call 82; refine (W.out _).mono ?_; rintro e w' ⟨rfl, rfl⟩)
         go_ret2
         exact ⟨by rw [E.out, EX.out]; rfl, below_iter hbel _ _⟩
      ·have hnx : ∀ ty, (Instr.next (.pointer (some ⟨w1.heap.size, 0, none⟩)) true ty).run Try.prog (w1.iter t pos) = _ := fun ty => run_next_any w1 t pos ty hlt
       have hdh := decode_high t pos hlt (by omega)
       have hdl := decode_le t pos
       have hr : wd ((Utf8.decode t pos).1 : Int) = -1 := by unfold wd; rw [if_neg (by omega), if_neg (by omega), if_neg (by omega)]
       have W0 := fun w => num_worth ((Utf8.decode t pos).1 : Int) w (by omega) (by omega)
       rw [hr] at W0
       have W := Lib.hid W0
       have hno : t.data.toList.all (okD b') = false := all_take _ t pos hlt (by
        have : ¬ okD b' t[pos] = true := by
         rw [okD_iff]
         have : wd (t[pos].toNat : Int) = -1 := by unfold wd; rw [if_neg (by omega), if_neg (by omega), if_neg (by omega)]
         omega
        simpa using this)
       have EX := Lib.hid (HX.out hno)
       clear hm hall hr W0 hno hdh hdl
       generalize Utf8.decode t pos = q at *
       go_wp2_with (go_at_call 82; refine (W.out _).mono ?_; rintro e w' ⟨rfl, rfl⟩)
       go_ret2
       exact ⟨by rw [E.out, EX.out]; rfl, below_iter hbel _ _⟩
     ·have hnx : ∀ ty, (Instr.next (.pointer (some ⟨w1.heap.size, 0, none⟩)) true ty).run Try.prog (w1.iter t pos) = _ := fun ty => run_next_end w1 t pos ty hlt
      have et : t.data.toList.take pos = t.data.toList := List.take_of_length_le (by rw [size_list]; omega)
      rw [et] at hm hall
      have EX := Lib.hid (HE.out hall.out)
      clear hall et
      cases below with
      | true =>
       go_wp2
       go_ret2
       exact ⟨by rw [E.out, EX.out, ← hm.out]; rfl, below_iter hbel _ _⟩
      | false =>
       go_wp2
       go_ret2
       exact ⟨by rw [E.out, EX.out, ← hm.out]; rfl, below_iter hbel _ _⟩
   ·simp only [Bool.not_eq_true] at hb
    rw [bareS_nob _ _ _ hb] at e
    have E := Lib.hid e
    clear e htn
    go_enter Try.func52, Try.ntmps52
    go_wp2_with (first
     | (go_at_call 78; refine (S.out _).mono ?_; rintro e w' ⟨rfl, rfl⟩)
     | (go_at_call 79; refine (P.out _).mono ?_; rintro e w1 ⟨rfl, n1, hw1⟩; have HW := Lib.hid hw1; clear hw1)
     | (go_at_call 80; refine (C.out _).mono ?_; rintro e w' ⟨rfl, rfl⟩)
     | (go_at_call 81; refine (num_is b' _).mono ?_; rintro e w' ⟨rfl, rfl⟩))
    go_ret2
    exact ⟨by rw [E.out]; rfl, by rw [HW.out]; exact below_drewN (Below.refl _ _) n1⟩
  ·have te := empty_yes t (by omega)
   have htn : t.data.toList = [] := List.eq_nil_of_length_eq_zero (by rw [size_list]; omega)
   rw [htn, bareS_nil] at e
   have E := Lib.hid e
   clear e htn
   go_enter Try.func52, Try.ntmps52
   go_wp2_with (first
    | (go_at_call 78; refine (S.out _).mono ?_; rintro e w' ⟨rfl, rfl⟩)
    | (go_at_call 79; refine (P.out _).mono ?_; rintro e w1 ⟨rfl, n1, hw1⟩; have HW := Lib.hid hw1; clear hw1)
    | (go_at_call 80; refine (C.out _).mono ?_; rintro e w' ⟨rfl, rfl⟩))
   go_ret2
   exact ⟨by rw [E.out]; rfl, by rw [HW.out]; exact below_drewN (Below.refl _ _) n1⟩
end Go.Proofs.Ytlponhgbbfgkgaa
namespace Go.Proofs.Ytlponhgbbfgkgaa
open Go.RowKit
theorem sign_cond (s : ByteArray) (h : s.size = 3) (h0 : 0 < s.size) (h1 : 1 < s.size) (h2 : 2 < s.size) (g : (s[0].toNat : Int) = 39 ∧ (s[2].toNat : Int) = 39 ∧ 33 ≤ (s[1].toNat : Int) ∧ (s[1].toNat : Int) ≤ 126) :
  signS s.data.toList = some (s[1].toNat : Int) := by rw [three_list s h h0 h1 h2]; exact three_yes _ _ _ g
theorem sign_uncond (s : ByteArray) (h0 : 0 < s.size) (h1 : 1 < s.size) (h2 : 2 < s.size) (g : ¬ ((s[0].toNat : Int) = 39 ∧ (s[2].toNat : Int) = 39 ∧ 33 ≤ (s[1].toNat : Int) ∧ (s[1].toNat : Int) ≤ 126)) :
  signS s.data.toList = none := by
 by_cases h : s.size = 3
 ·rw [three_list s h h0 h1 h2]; exact three_no _ _ _ g
 ·exact signS_not3 _ (by rw [size_list]; exact h)
def isSign (s : ByteArray) : Bool := (signS s.data.toList).isSome
theorem isSign_is (s : ByteArray) (h : s.size = 3) (h0 : 0 < s.size) (h1 : 1 < s.size) (h2 : 2 < s.size) :
  isSign s = decide ((s[0].toNat : Int) = 39 ∧ (s[2].toNat : Int) = 39 ∧ 33 ≤ (s[1].toNat : Int) ∧ (s[1].toNat : Int) ≤ 126) := by
 unfold isSign
 by_cases g : (s[0].toNat : Int) = 39 ∧ (s[2].toNat : Int) = 39 ∧ 33 ≤ (s[1].toNat : Int) ∧ (s[1].toNat : Int) ≤ 126
 ·rw [sign_cond s h h0 h1 h2 g]; simp only [Option.isSome_some]; exact (decide_eq_true g).symm
 ·rw [sign_uncond s h0 h1 h2 g]; simp only [Option.isSome_none]; exact (decide_eq_false g).symm
theorem isSign_some {s : ByteArray} (h : isSign s = true) : ∃ h1 : 1 < s.size, signS s.data.toList = some (s[1].toNat : Int) ∧ (s[1].toNat : Int) ≤ 126 := by
 by_cases h3 : s.size = 3
 ·have t1 : 0 < s.size := by omega
  have t2 : 1 < s.size := by omega
  have t3 : 2 < s.size := by omega
  rw [isSign_is s h3 t1 t2 t3, decide_eq_true_iff] at h
  exact ⟨t2, sign_cond s h3 t1 t2 t3 h, h.2.2.2⟩
 ·unfold isSign at h
  rw [signS_not3 _ (by rw [size_list]; exact h3)] at h
  simp at h
theorem isSign_none {s : ByteArray} (h : isSign s = false) : signS s.data.toList = none := by
 unfold isSign at h; simpa using h
def markN (s : ByteArray) : Nat := if h : 0 < s.size then (if s[0] = 35 ∨ s[0] = 36 ∨ s[0] = 37 then 1 else 0) else 0
theorem prefS_mark (s : ByteArray) (b : Int) : (prefS s.data.toList b).2 = s.data.toList.drop (markN s) := by
 rw [prefB_list]
 unfold prefB markN
 by_cases h0 : 0 < s.size
 ·rw [dif_pos h0, dif_pos h0]
  have hx := Lib.extract_to_end s 1
  by_cases h1 : s[0] = 35
  ·rw [if_pos h1, if_pos (.inl h1)]; exact hx
  ·rw [if_neg h1]
   by_cases h2 : s[0] = 36
   ·rw [if_pos h2, if_pos (.inr (.inl h2))]; exact hx
   ·rw [if_neg h2]
    by_cases h3 : s[0] = 37
    ·rw [if_pos h3, if_pos (.inr (.inr h3))]; exact hx
    ·rw [if_neg h3, if_neg (by simp [h1, h2, h3])]; rfl
 ·rw [dif_neg h0, dif_neg h0]; rfl
theorem prefS_pair {s : ByteArray} {b B : Int} {K : Nat} (hp : (prefS s.data.toList b).1 = B) (hk : markN s = K) : prefS s.data.toList b = (B, s.data.toList.drop K) :=
 Prod.ext hp (by rw [prefS_mark, hk])
theorem drop_ne (s : ByteArray) (k : Nat) (h : k < s.size) : s.data.toList.drop k ≠ [] := fun e => by
 have h2 := congrArg List.length e
 rw [List.length_drop, size_list] at h2
 simp at h2
 omega
theorem not_empty (s : ByteArray) (h : 0 < s.size) : ¬ s = ByteArray.empty := by rintro rfl; exact absurd h (by decide)
theorem is_empty (s : ByteArray) (h : ¬ 0 < s.size) : s = ByteArray.empty := by
 apply ByteArray.ext
 have : s.data.toList = [] := List.eq_nil_of_length_eq_zero (by rw [size_list]; omega)
 exact Array.toList_inj.1 this
theorem drop_cons (s : ByteArray) (k : Nat) (h : k < s.size) : s.data.toList.drop k = s[k] :: s.data.toList.drop (k + 1) :=
 List.drop_eq_getElem_cons (by simpa using h)
theorem cut_yes (s : ByteArray) (k : Nat) (h : k < s.size) (e : s[k] = 45) : cutS (s.data.toList.drop k) = (s.data.toList.drop (k + 1), true) := by
 rw [drop_cons s k h, e]; simp [cutS]
theorem cut_no (s : ByteArray) (k : Nat) (h : k < s.size) (e : ¬ s[k] = 45) : cutS (s.data.toList.drop k) = (s.data.toList.drop k, false) := by
 rw [drop_cons s k h]; simp [cutS, e]
theorem cut_end (s : ByteArray) (k : Nat) (h : ¬ k < s.size) : cutS (s.data.toList.drop k) = (s.data.toList.drop k, false) := by
 rw [List.drop_eq_nil_of_le (by rw [size_list]; omega)]; rfl
theorem drop_take_snoc (s : ByteArray) (k j p : Nat) (hp : p = j + k) (h : p < s.size) : (s.data.toList.drop k).take (j + 1) = (s.data.toList.drop k).take j ++ [s[p]] := by
 subst hp
 rw [List.take_succ_eq_append_getElem (by rw [List.length_drop, size_list]; omega), List.getElem_drop]
 congr 2
 rw [show s[j + k] = s.data.toList[j + k]'(by rw [size_list]; exact h) from rfl]
 congr 1
 omega
theorem drop_all_no {q : UInt8 → Bool} (s : ByteArray) (k p : Nat) (hk : k ≤ p) (h : p < s.size) (hb : q s[p] = false) : (s.data.toList.drop k).all q = false := by
 rw [List.all_eq_false]
 refine ⟨s[p], ?_, by simp [hb]⟩
 rw [List.mem_iff_getElem]
 exact ⟨p - k, by rw [List.length_drop, size_list]; omega, by rw [List.getElem_drop]; rw [show s[p] = s.data.toList[p]'(by rw [size_list]; exact h) from rfl]; congr 1; omega⟩
set_option maxRecDepth 100000 in
set_option maxHeartbeats 4000000 in
theorem ref_Parse (s : ByteArray) (b : Int) (w : World) (hs : s.size ≤ 9223372036854775807) : Calls Try.prog 65 #[.string s, .int .i64 b] w fun e w' => e = .returned (.tuple #[.int .i64 (parseS s.data.toList b).1, .bool (parseS s.data.toList b).2]) ∧ w = w' := by
 go_enter Try.func65, Try.ntmps65
 go_upto_region 1 with fail
 go_cut [34] (fun c wx => c = .bool (isSign s) ∧ wx = w)
 case first =>
  by_cases h3 : s.size = 3
  ·have t0 : ((s.size : Int) == 3) = true := by simp; omega
   have t1 : 0 < s.size := by omega
   have t2 : 1 < s.size := by omega
   have t3 : 2 < s.size := by omega
   have H3 := Lib.hid (isSign_is s h3 t1 t2 t3)
   clear h3
   go_wp2_with fail
   all_goals go_meet
   all_goals refine ⟨congrArg Value.bool ?_, rfl⟩
   all_goals rw [H3.out, Bool.eq_iff_iff, decide_eq_true_iff]
   all_goals clear H3
   all_goals simp
   all_goals omega
  ·have t0 : ((s.size : Int) == 3) = false := by simp; omega
   have e := signS_not3 s.data.toList (by rw [size_list]; exact h3)
   have E := Lib.hid e
   clear e h3
   go_wp2_with fail
   go_meet
   exact ⟨by unfold isSign; rw [E.out]; rfl, rfl⟩
 case rest =>
  by_cases hsg : isSign s = true
  ·obtain ⟨t1, e, hle⟩ := isSign_some hsg
   rw [hsg] at hcut
   obtain ⟨rfl, rfl⟩ := hcut
   have E := Lib.hid (parseS_some (b := b) e)
   clear e hsg
   go_wp2
   go_ret2
   exact ⟨by rw [E.out]; rfl, rfl⟩
  ·simp only [Bool.not_eq_true] at hsg
   have N0 := Lib.hid (isSign_none hsg)
   rw [hsg] at hcut
   obtain ⟨rfl, rfl⟩ := hcut
   clear hsg
   by_cases h0 : 0 < s.size
   ·by_cases h35 : s[0] = 35
    ·have h36 : s[0] ≠ 36 := by rw [h35]; decide
     have h37 : s[0] ≠ 37 := by rw [h35]; decide
     have hp : (prefS s.data.toList b).1 = 10 := by rw [prefB_list]; unfold prefB; rw [dif_pos h0]; rw [if_pos h35]
     have hk2 : markN s = 1 := by unfold markN; rw [dif_pos h0]; rw [if_pos (.inl h35)]
     have c35 : ((s[0].toNat : Int) == 35) = true := byte_eq s[0] 35 (by omega) h35
     have c36 : ((s[0].toNat : Int) == 36) = false := byte_ne s[0] 36 (by omega) h36
     have c37 : ((s[0].toNat : Int) == 37) = false := byte_ne s[0] 37 (by omega) h37
     clear h35 h36 h37
     by_cases hk : 1 < s.size
     ·by_cases h45 : s[1] = 45
      ·have c4 : ((s[1].toNat : Int) == 45) = true := byte_eq s[1] 45 (by omega) h45
       have e := parseS_none N0.out (prefS_pair hp hk2) (cut_yes s 1 hk h45)
       clear hk2 hp h45
       by_cases hk1 : 2 < s.size
       ·have hne : s.data.toList.drop 2 ≠ [] := drop_ne s 2 (by omega)
        have hse : ¬ s = ByteArray.empty := not_empty s (by omega)
        have E := Lib.hid e
        have HX := Lib.hid (bareS_no (s.data.toList.drop 2) 10 true)
        have HE := Lib.hid (bareS_ok (s.data.toList.drop 2) 10 true)
        have HN := Lib.hid hne
        clear e hne
        go_wp2_with fail
        go_loop [8, 9] (fun n i => ∃ (j : Nat) (m : Int), j + 2 ≤ s.size ∧ i = .int .i64 ((j + 2 : Nat) : Int) ∧ n = .int .i64 m ∧ Hid (m = wrap64 (valD 10 0 ((s.data.toList.drop 2).take j))) ∧ Hid (((s.data.toList.drop 2).take j).all (okD 10) = true) ∧ Hid (0 < j → isB 10 = true)) (fun _ i => s.size - (intOf i).toNat)
        case atStart => exact ⟨0, 0, by omega, by simp, rfl, by show _ = _; simp [valD, wrap64], by show _ = _; simp, by show _ → _; intro h; omega⟩
        case round =>
         obtain ⟨j, m, hj, rfl, rfl, hm, hall, hib⟩ := hrel
         obtain ⟨p, hp⟩ : ∃ p, p = j + 2 := ⟨_, rfl⟩
         rw [← hp] at hj ⊢
         by_cases hlt : p < s.size
         ·have hc0 := UInt8.toNat_lt s[p]
          have W0 := fun w => ref_Worth (s[p].toNat : Int) 10 w (by omega) (by omega)
          have hat : (s.data.toList.drop 2).take (j + 1) = (s.data.toList.drop 2).take j ++ [s[p]] :=
           drop_take_snoc s 2 j p hp hlt
          by_cases hok : isB 10 = true ∧ okD 10 s[p] = true
          ·have h2 := (okD_iff 10 s[p]).1 hok.2
           have h5 := (isB_iff 10).1 hok.1
           rw [worthS_yes _ _ ⟨h5.1, h5.2, h2⟩] at W0
           obtain ⟨d, hd⟩ : ∃ d, wd (s[p].toNat : Int) = d := ⟨_, rfl⟩
           rw [hd] at W0
           have hm' : Hid (wrap64 (wrap64 (m * 10) + d) = wrap64 (valD 10 0 ((s.data.toList.drop 2).take (j + 1)))) := by
            show _ = _
            rw [hat, ← wrap_valD_snoc, ← hm.out, hd]
           have hall' : Hid (((s.data.toList.drop 2).take (j + 1)).all (okD 10) = true) := by
            show _ = _
            rw [hat, List.all_append, hall.out]
            simp [hok.2]
           have hib' : Hid (0 < j + 1 → isB 10 = true) := fun _ => hok.1
           have HP := Lib.hid hp
           have W := Lib.hid W0
           clear hm hall hd W0 hok hat h2 h5 hib hp
           go_wp2_with (go_at_call 91; refine (W.out _).mono ?_; rintro e w' ⟨rfl, rfl⟩)
           go_round
           case rel => exact ⟨j + 1, _, by have := HP.out; omega, by have := HP.out; congr 1; omega, rfl, hm', hall', hib'⟩
           case measure => simp [intOf]; omega
          ·have hno : bareS (s.data.toList.drop 2) 10 true = (0, false) := by
            by_cases hb : isB 10 = true
            ·refine HX.out (drop_all_no s 2 p (by omega) hlt ?_)
             simpa [hb] using hok
            ·exact bareS_nob _ _ _ (by simpa using hb)
           have hw : worthS (s[p].toNat : Int) 10 = (0, false) := by
            unfold worthS
            rw [if_neg]
            rintro ⟨h1, h2, h3⟩
            exact hok ⟨h1, (okD_iff 10 s[p]).2 ⟨h2, h3⟩⟩
           rw [hw] at W0
           have W := Lib.hid W0
           have EX := Lib.hid hno
           clear hm hall W0 hok hat hno hw hib hp
           go_wp2_with (go_at_call 91; refine (W.out _).mono ?_; rintro e w' ⟨rfl, rfl⟩)
           go_ret2
           exact ⟨by rw [E.out, EX.out]; rfl, rfl⟩
         ·have et : (s.data.toList.drop 2).take j = s.data.toList.drop 2 := List.take_of_length_le (by rw [List.length_drop, size_list]; omega)
          rw [et] at hm hall
          have hj0 : 0 < j := by omega
          have EX := Lib.hid (HE.out (hib.out hj0) HN.out hall.out)
          clear hall et hib hp
          go_wp2
          go_ret2
          exact ⟨by rw [E.out, EX.out, ← hm.out]; rfl, rfl⟩
       ·have hn0 : s.data.toList.drop 2 = [] := List.drop_eq_nil_of_le (by rw [size_list]; omega)
        rw [hn0, bareS_nil] at e
        have E := Lib.hid e
        clear e hn0
        go_wp2
        go_ret2
        exact ⟨by rw [E.out]; rfl, rfl⟩
      ·have c4 : ((s[1].toNat : Int) == 45) = false := byte_ne s[1] 45 (by omega) h45
       have e := parseS_none N0.out (prefS_pair hp hk2) (cut_no s 1 hk h45)
       clear hk2 hp h45
       have hne : s.data.toList.drop 1 ≠ [] := drop_ne s 1 (by omega)
       have hse : ¬ s = ByteArray.empty := not_empty s (by omega)
       have E := Lib.hid e
       have HX := Lib.hid (bareS_no (s.data.toList.drop 1) 10 false)
       have HE := Lib.hid (bareS_ok (s.data.toList.drop 1) 10 false)
       have HN := Lib.hid hne
       clear e hne
       go_wp2_with fail
       go_loop [8, 9] (fun n i => ∃ (j : Nat) (m : Int), j + 1 ≤ s.size ∧ i = .int .i64 ((j + 1 : Nat) : Int) ∧ n = .int .i64 m ∧ Hid (m = wrap64 (valD 10 0 ((s.data.toList.drop 1).take j))) ∧ Hid (((s.data.toList.drop 1).take j).all (okD 10) = true) ∧ Hid (0 < j → isB 10 = true)) (fun _ i => s.size - (intOf i).toNat)
       case atStart => exact ⟨0, 0, by omega, by simp, rfl, by show _ = _; simp [valD, wrap64], by show _ = _; simp, by show _ → _; intro h; omega⟩
       case round =>
        obtain ⟨j, m, hj, rfl, rfl, hm, hall, hib⟩ := hrel
        obtain ⟨p, hp⟩ : ∃ p, p = j + 1 := ⟨_, rfl⟩
        rw [← hp] at hj ⊢
        by_cases hlt : p < s.size
        ·have hc0 := UInt8.toNat_lt s[p]
         have W0 := fun w => ref_Worth (s[p].toNat : Int) 10 w (by omega) (by omega)
         have hat : (s.data.toList.drop 1).take (j + 1) = (s.data.toList.drop 1).take j ++ [s[p]] :=
          drop_take_snoc s 1 j p hp hlt
         by_cases hok : isB 10 = true ∧ okD 10 s[p] = true
         ·have h2 := (okD_iff 10 s[p]).1 hok.2
          have h5 := (isB_iff 10).1 hok.1
          rw [worthS_yes _ _ ⟨h5.1, h5.2, h2⟩] at W0
          obtain ⟨d, hd⟩ : ∃ d, wd (s[p].toNat : Int) = d := ⟨_, rfl⟩
          rw [hd] at W0
          have hm' : Hid (wrap64 (wrap64 (m * 10) + d) = wrap64 (valD 10 0 ((s.data.toList.drop 1).take (j + 1)))) := by
           show _ = _
           rw [hat, ← wrap_valD_snoc, ← hm.out, hd]
          have hall' : Hid (((s.data.toList.drop 1).take (j + 1)).all (okD 10) = true) := by
           show _ = _
           rw [hat, List.all_append, hall.out]
           simp [hok.2]
          have hib' : Hid (0 < j + 1 → isB 10 = true) := fun _ => hok.1
          have HP := Lib.hid hp
          have W := Lib.hid W0
          clear hm hall hd W0 hok hat h2 h5 hib hp
          go_wp2_with (go_at_call 91; refine (W.out _).mono ?_; rintro e w' ⟨rfl, rfl⟩)
          go_round
          case rel => exact ⟨j + 1, _, by have := HP.out; omega, by have := HP.out; congr 1; omega, rfl, hm', hall', hib'⟩
          case measure => simp [intOf]; omega
         ·have hno : bareS (s.data.toList.drop 1) 10 false = (0, false) := by
           by_cases hb : isB 10 = true
           ·refine HX.out (drop_all_no s 1 p (by omega) hlt ?_)
            simpa [hb] using hok
           ·exact bareS_nob _ _ _ (by simpa using hb)
          have hw : worthS (s[p].toNat : Int) 10 = (0, false) := by
           unfold worthS
           rw [if_neg]
           rintro ⟨h1, h2, h3⟩
           exact hok ⟨h1, (okD_iff 10 s[p]).2 ⟨h2, h3⟩⟩
          rw [hw] at W0
          have W := Lib.hid W0
          have EX := Lib.hid hno
          clear hm hall W0 hok hat hno hw hib hp
          go_wp2_with (go_at_call 91; refine (W.out _).mono ?_; rintro e w' ⟨rfl, rfl⟩)
          go_ret2
          exact ⟨by rw [E.out, EX.out]; rfl, rfl⟩
        ·have et : (s.data.toList.drop 1).take j = s.data.toList.drop 1 := List.take_of_length_le (by rw [List.length_drop, size_list]; omega)
         rw [et] at hm hall
         have hj0 : 0 < j := by omega
         have EX := Lib.hid (HE.out (hib.out hj0) HN.out hall.out)
         clear hall et hib hp
         go_wp2
         go_ret2
         exact ⟨by rw [E.out, EX.out, ← hm.out]; rfl, rfl⟩
     ·have hn0 : s.data.toList.drop 1 = [] := List.drop_eq_nil_of_le (by rw [size_list]; omega)
      have e := parseS_none N0.out (prefS_pair hp hk2) (cut_end s 1 hk)
      rw [hn0, bareS_nil] at e
      have E := Lib.hid e
      clear e hn0 hk2 hp
      go_wp2
      go_ret2
      exact ⟨by rw [E.out]; rfl, rfl⟩
    ·by_cases h36 : s[0] = 36
     ·have h37 : s[0] ≠ 37 := by rw [h36]; decide
      have hp : (prefS s.data.toList b).1 = 16 := by rw [prefB_list]; unfold prefB; rw [dif_pos h0]; rw [if_neg h35, if_pos h36]
      have hk2 : markN s = 1 := by unfold markN; rw [dif_pos h0]; rw [if_pos (.inr (.inl h36))]
      have c35 : ((s[0].toNat : Int) == 35) = false := byte_ne s[0] 35 (by omega) h35
      have c36 : ((s[0].toNat : Int) == 36) = true := byte_eq s[0] 36 (by omega) h36
      have c37 : ((s[0].toNat : Int) == 37) = false := byte_ne s[0] 37 (by omega) h37
      clear h35 h36 h37
      by_cases hk : 1 < s.size
      ·by_cases h45 : s[1] = 45
       ·have c4 : ((s[1].toNat : Int) == 45) = true := byte_eq s[1] 45 (by omega) h45
        have e := parseS_none N0.out (prefS_pair hp hk2) (cut_yes s 1 hk h45)
        clear hk2 hp h45
        by_cases hk1 : 2 < s.size
        ·have hne : s.data.toList.drop 2 ≠ [] := drop_ne s 2 (by omega)
         have hse : ¬ s = ByteArray.empty := not_empty s (by omega)
         have E := Lib.hid e
         have HX := Lib.hid (bareS_no (s.data.toList.drop 2) 16 true)
         have HE := Lib.hid (bareS_ok (s.data.toList.drop 2) 16 true)
         have HN := Lib.hid hne
         clear e hne
         go_wp2_with fail
         go_loop [8, 9] (fun n i => ∃ (j : Nat) (m : Int), j + 2 ≤ s.size ∧ i = .int .i64 ((j + 2 : Nat) : Int) ∧ n = .int .i64 m ∧ Hid (m = wrap64 (valD 16 0 ((s.data.toList.drop 2).take j))) ∧ Hid (((s.data.toList.drop 2).take j).all (okD 16) = true) ∧ Hid (0 < j → isB 16 = true)) (fun _ i => s.size - (intOf i).toNat)
         case atStart => exact ⟨0, 0, by omega, by simp, rfl, by show _ = _; simp [valD, wrap64], by show _ = _; simp, by show _ → _; intro h; omega⟩
         case round =>
          obtain ⟨j, m, hj, rfl, rfl, hm, hall, hib⟩ := hrel
          obtain ⟨p, hp⟩ : ∃ p, p = j + 2 := ⟨_, rfl⟩
          rw [← hp] at hj ⊢
          by_cases hlt : p < s.size
          ·have hc0 := UInt8.toNat_lt s[p]
           have W0 := fun w => ref_Worth (s[p].toNat : Int) 16 w (by omega) (by omega)
           have hat : (s.data.toList.drop 2).take (j + 1) = (s.data.toList.drop 2).take j ++ [s[p]] :=
            drop_take_snoc s 2 j p hp hlt
           by_cases hok : isB 16 = true ∧ okD 16 s[p] = true
           ·have h2 := (okD_iff 16 s[p]).1 hok.2
            have h5 := (isB_iff 16).1 hok.1
            rw [worthS_yes _ _ ⟨h5.1, h5.2, h2⟩] at W0
            obtain ⟨d, hd⟩ : ∃ d, wd (s[p].toNat : Int) = d := ⟨_, rfl⟩
            rw [hd] at W0
            have hm' : Hid (wrap64 (wrap64 (m * 16) + d) = wrap64 (valD 16 0 ((s.data.toList.drop 2).take (j + 1)))) := by
             show _ = _
             rw [hat, ← wrap_valD_snoc, ← hm.out, hd]
            have hall' : Hid (((s.data.toList.drop 2).take (j + 1)).all (okD 16) = true) := by
             show _ = _
             rw [hat, List.all_append, hall.out]
             simp [hok.2]
            have hib' : Hid (0 < j + 1 → isB 16 = true) := fun _ => hok.1
            have HP := Lib.hid hp
            have W := Lib.hid W0
            clear hm hall hd W0 hok hat h2 h5 hib hp
            go_wp2_with (go_at_call 91; refine (W.out _).mono ?_; rintro e w' ⟨rfl, rfl⟩)
            go_round
            case rel => exact ⟨j + 1, _, by have := HP.out; omega, by have := HP.out; congr 1; omega, rfl, hm', hall', hib'⟩
            case measure => simp [intOf]; omega
           ·have hno : bareS (s.data.toList.drop 2) 16 true = (0, false) := by
             by_cases hb : isB 16 = true
             ·refine HX.out (drop_all_no s 2 p (by omega) hlt ?_)
              simpa [hb] using hok
             ·exact bareS_nob _ _ _ (by simpa using hb)
            have hw : worthS (s[p].toNat : Int) 16 = (0, false) := by
             unfold worthS
             rw [if_neg]
             rintro ⟨h1, h2, h3⟩
             exact hok ⟨h1, (okD_iff 16 s[p]).2 ⟨h2, h3⟩⟩
            rw [hw] at W0
            have W := Lib.hid W0
            have EX := Lib.hid hno
            clear hm hall W0 hok hat hno hw hib hp
            go_wp2_with (go_at_call 91; refine (W.out _).mono ?_; rintro e w' ⟨rfl, rfl⟩)
            go_ret2
            exact ⟨by rw [E.out, EX.out]; rfl, rfl⟩
          ·have et : (s.data.toList.drop 2).take j = s.data.toList.drop 2 := List.take_of_length_le (by rw [List.length_drop, size_list]; omega)
           rw [et] at hm hall
           have hj0 : 0 < j := by omega
           have EX := Lib.hid (HE.out (hib.out hj0) HN.out hall.out)
           clear hall et hib hp
           go_wp2
           go_ret2
           exact ⟨by rw [E.out, EX.out, ← hm.out]; rfl, rfl⟩
        ·have hn0 : s.data.toList.drop 2 = [] := List.drop_eq_nil_of_le (by rw [size_list]; omega)
         rw [hn0, bareS_nil] at e
         have E := Lib.hid e
         clear e hn0
         go_wp2
         go_ret2
         exact ⟨by rw [E.out]; rfl, rfl⟩
       ·have c4 : ((s[1].toNat : Int) == 45) = false := byte_ne s[1] 45 (by omega) h45
        have e := parseS_none N0.out (prefS_pair hp hk2) (cut_no s 1 hk h45)
        clear hk2 hp h45
        have hne : s.data.toList.drop 1 ≠ [] := drop_ne s 1 (by omega)
        have hse : ¬ s = ByteArray.empty := not_empty s (by omega)
        have E := Lib.hid e
        have HX := Lib.hid (bareS_no (s.data.toList.drop 1) 16 false)
        have HE := Lib.hid (bareS_ok (s.data.toList.drop 1) 16 false)
        have HN := Lib.hid hne
        clear e hne
        go_wp2_with fail
        go_loop [8, 9] (fun n i => ∃ (j : Nat) (m : Int), j + 1 ≤ s.size ∧ i = .int .i64 ((j + 1 : Nat) : Int) ∧ n = .int .i64 m ∧ Hid (m = wrap64 (valD 16 0 ((s.data.toList.drop 1).take j))) ∧ Hid (((s.data.toList.drop 1).take j).all (okD 16) = true) ∧ Hid (0 < j → isB 16 = true)) (fun _ i => s.size - (intOf i).toNat)
        case atStart => exact ⟨0, 0, by omega, by simp, rfl, by show _ = _; simp [valD, wrap64], by show _ = _; simp, by show _ → _; intro h; omega⟩
        case round =>
         obtain ⟨j, m, hj, rfl, rfl, hm, hall, hib⟩ := hrel
         obtain ⟨p, hp⟩ : ∃ p, p = j + 1 := ⟨_, rfl⟩
         rw [← hp] at hj ⊢
         by_cases hlt : p < s.size
         ·have hc0 := UInt8.toNat_lt s[p]
          have W0 := fun w => ref_Worth (s[p].toNat : Int) 16 w (by omega) (by omega)
          have hat : (s.data.toList.drop 1).take (j + 1) = (s.data.toList.drop 1).take j ++ [s[p]] :=
           drop_take_snoc s 1 j p hp hlt
          by_cases hok : isB 16 = true ∧ okD 16 s[p] = true
          ·have h2 := (okD_iff 16 s[p]).1 hok.2
           have h5 := (isB_iff 16).1 hok.1
           rw [worthS_yes _ _ ⟨h5.1, h5.2, h2⟩] at W0
           obtain ⟨d, hd⟩ : ∃ d, wd (s[p].toNat : Int) = d := ⟨_, rfl⟩
           rw [hd] at W0
           have hm' : Hid (wrap64 (wrap64 (m * 16) + d) = wrap64 (valD 16 0 ((s.data.toList.drop 1).take (j + 1)))) := by
            show _ = _
            rw [hat, ← wrap_valD_snoc, ← hm.out, hd]
           have hall' : Hid (((s.data.toList.drop 1).take (j + 1)).all (okD 16) = true) := by
            show _ = _
            rw [hat, List.all_append, hall.out]
            simp [hok.2]
           have hib' : Hid (0 < j + 1 → isB 16 = true) := fun _ => hok.1
           have HP := Lib.hid hp
           have W := Lib.hid W0
           clear hm hall hd W0 hok hat h2 h5 hib hp
           go_wp2_with (go_at_call 91; refine (W.out _).mono ?_; rintro e w' ⟨rfl, rfl⟩)
           go_round
           case rel => exact ⟨j + 1, _, by have := HP.out; omega, by have := HP.out; congr 1; omega, rfl, hm', hall', hib'⟩
           case measure => simp [intOf]; omega
          ·have hno : bareS (s.data.toList.drop 1) 16 false = (0, false) := by
            by_cases hb : isB 16 = true
            ·refine HX.out (drop_all_no s 1 p (by omega) hlt ?_)
             simpa [hb] using hok
            ·exact bareS_nob _ _ _ (by simpa using hb)
           have hw : worthS (s[p].toNat : Int) 16 = (0, false) := by
            unfold worthS
            rw [if_neg]
            rintro ⟨h1, h2, h3⟩
            exact hok ⟨h1, (okD_iff 16 s[p]).2 ⟨h2, h3⟩⟩
           rw [hw] at W0
           have W := Lib.hid W0
           have EX := Lib.hid hno
           clear hm hall W0 hok hat hno hw hib hp
           go_wp2_with (go_at_call 91; refine (W.out _).mono ?_; rintro e w' ⟨rfl, rfl⟩)
           go_ret2
           exact ⟨by rw [E.out, EX.out]; rfl, rfl⟩
         ·have et : (s.data.toList.drop 1).take j = s.data.toList.drop 1 := List.take_of_length_le (by rw [List.length_drop, size_list]; omega)
          rw [et] at hm hall
          have hj0 : 0 < j := by omega
          have EX := Lib.hid (HE.out (hib.out hj0) HN.out hall.out)
          clear hall et hib hp
          go_wp2
          go_ret2
          exact ⟨by rw [E.out, EX.out, ← hm.out]; rfl, rfl⟩
      ·have hn0 : s.data.toList.drop 1 = [] := List.drop_eq_nil_of_le (by rw [size_list]; omega)
       have e := parseS_none N0.out (prefS_pair hp hk2) (cut_end s 1 hk)
       rw [hn0, bareS_nil] at e
       have E := Lib.hid e
       clear e hn0 hk2 hp
       go_wp2
       go_ret2
       exact ⟨by rw [E.out]; rfl, rfl⟩
     ·by_cases h37 : s[0] = 37
      ·have hp : (prefS s.data.toList b).1 = 2 := by rw [prefB_list]; unfold prefB; rw [dif_pos h0]; rw [if_neg h35, if_neg h36, if_pos h37]
       have hk2 : markN s = 1 := by unfold markN; rw [dif_pos h0]; rw [if_pos (.inr (.inr h37))]
       have c35 : ((s[0].toNat : Int) == 35) = false := byte_ne s[0] 35 (by omega) h35
       have c36 : ((s[0].toNat : Int) == 36) = false := byte_ne s[0] 36 (by omega) h36
       have c37 : ((s[0].toNat : Int) == 37) = true := byte_eq s[0] 37 (by omega) h37
       clear h35 h36 h37
       by_cases hk : 1 < s.size
       ·by_cases h45 : s[1] = 45
        ·have c4 : ((s[1].toNat : Int) == 45) = true := byte_eq s[1] 45 (by omega) h45
         have e := parseS_none N0.out (prefS_pair hp hk2) (cut_yes s 1 hk h45)
         clear hk2 hp h45
         by_cases hk1 : 2 < s.size
         ·have hne : s.data.toList.drop 2 ≠ [] := drop_ne s 2 (by omega)
          have hse : ¬ s = ByteArray.empty := not_empty s (by omega)
          have E := Lib.hid e
          have HX := Lib.hid (bareS_no (s.data.toList.drop 2) 2 true)
          have HE := Lib.hid (bareS_ok (s.data.toList.drop 2) 2 true)
          have HN := Lib.hid hne
          clear e hne
          go_wp2_with fail
          go_loop [8, 9] (fun n i => ∃ (j : Nat) (m : Int), j + 2 ≤ s.size ∧ i = .int .i64 ((j + 2 : Nat) : Int) ∧ n = .int .i64 m ∧ Hid (m = wrap64 (valD 2 0 ((s.data.toList.drop 2).take j))) ∧ Hid (((s.data.toList.drop 2).take j).all (okD 2) = true) ∧ Hid (0 < j → isB 2 = true)) (fun _ i => s.size - (intOf i).toNat)
          case atStart => exact ⟨0, 0, by omega, by simp, rfl, by show _ = _; simp [valD, wrap64], by show _ = _; simp, by show _ → _; intro h; omega⟩
          case round =>
           obtain ⟨j, m, hj, rfl, rfl, hm, hall, hib⟩ := hrel
           obtain ⟨p, hp⟩ : ∃ p, p = j + 2 := ⟨_, rfl⟩
           rw [← hp] at hj ⊢
           by_cases hlt : p < s.size
           ·have hc0 := UInt8.toNat_lt s[p]
            have W0 := fun w => ref_Worth (s[p].toNat : Int) 2 w (by omega) (by omega)
            have hat : (s.data.toList.drop 2).take (j + 1) = (s.data.toList.drop 2).take j ++ [s[p]] :=
             drop_take_snoc s 2 j p hp hlt
            by_cases hok : isB 2 = true ∧ okD 2 s[p] = true
            ·have h2 := (okD_iff 2 s[p]).1 hok.2
             have h5 := (isB_iff 2).1 hok.1
             rw [worthS_yes _ _ ⟨h5.1, h5.2, h2⟩] at W0
             obtain ⟨d, hd⟩ : ∃ d, wd (s[p].toNat : Int) = d := ⟨_, rfl⟩
             rw [hd] at W0
             have hm' : Hid (wrap64 (wrap64 (m * 2) + d) = wrap64 (valD 2 0 ((s.data.toList.drop 2).take (j + 1)))) := by
              show _ = _
              rw [hat, ← wrap_valD_snoc, ← hm.out, hd]
             have hall' : Hid (((s.data.toList.drop 2).take (j + 1)).all (okD 2) = true) := by
              show _ = _
              rw [hat, List.all_append, hall.out]
              simp [hok.2]
             have hib' : Hid (0 < j + 1 → isB 2 = true) := fun _ => hok.1
             have HP := Lib.hid hp
             have W := Lib.hid W0
             clear hm hall hd W0 hok hat h2 h5 hib hp
             go_wp2_with (go_at_call 91; refine (W.out _).mono ?_; rintro e w' ⟨rfl, rfl⟩)
             go_round
             case rel => exact ⟨j + 1, _, by have := HP.out; omega, by have := HP.out; congr 1; omega, rfl, hm', hall', hib'⟩
             case measure => simp [intOf]; omega
            ·have hno : bareS (s.data.toList.drop 2) 2 true = (0, false) := by
              by_cases hb : isB 2 = true
              ·refine HX.out (drop_all_no s 2 p (by omega) hlt ?_)
               simpa [hb] using hok
              ·exact bareS_nob _ _ _ (by simpa using hb)
             have hw : worthS (s[p].toNat : Int) 2 = (0, false) := by
              unfold worthS
              rw [if_neg]
              rintro ⟨h1, h2, h3⟩
              exact hok ⟨h1, (okD_iff 2 s[p]).2 ⟨h2, h3⟩⟩
             rw [hw] at W0
             have W := Lib.hid W0
             have EX := Lib.hid hno
             clear hm hall W0 hok hat hno hw hib hp
             go_wp2_with (go_at_call 91; refine (W.out _).mono ?_; rintro e w' ⟨rfl, rfl⟩)
             go_ret2
             exact ⟨by rw [E.out, EX.out]; rfl, rfl⟩
           ·have et : (s.data.toList.drop 2).take j = s.data.toList.drop 2 := List.take_of_length_le (by rw [List.length_drop, size_list]; omega)
            rw [et] at hm hall
            have hj0 : 0 < j := by omega
            have EX := Lib.hid (HE.out (hib.out hj0) HN.out hall.out)
            clear hall et hib hp
            go_wp2
            go_ret2
            exact ⟨by rw [E.out, EX.out, ← hm.out]; rfl, rfl⟩
         ·have hn0 : s.data.toList.drop 2 = [] := List.drop_eq_nil_of_le (by rw [size_list]; omega)
          rw [hn0, bareS_nil] at e
          have E := Lib.hid e
          clear e hn0
          go_wp2
          go_ret2
          exact ⟨by rw [E.out]; rfl, rfl⟩
        ·have c4 : ((s[1].toNat : Int) == 45) = false := byte_ne s[1] 45 (by omega) h45
         have e := parseS_none N0.out (prefS_pair hp hk2) (cut_no s 1 hk h45)
         clear hk2 hp h45
         have hne : s.data.toList.drop 1 ≠ [] := drop_ne s 1 (by omega)
         have hse : ¬ s = ByteArray.empty := not_empty s (by omega)
         have E := Lib.hid e
         have HX := Lib.hid (bareS_no (s.data.toList.drop 1) 2 false)
         have HE := Lib.hid (bareS_ok (s.data.toList.drop 1) 2 false)
         have HN := Lib.hid hne
         clear e hne
         go_wp2_with fail
         go_loop [8, 9] (fun n i => ∃ (j : Nat) (m : Int), j + 1 ≤ s.size ∧ i = .int .i64 ((j + 1 : Nat) : Int) ∧ n = .int .i64 m ∧ Hid (m = wrap64 (valD 2 0 ((s.data.toList.drop 1).take j))) ∧ Hid (((s.data.toList.drop 1).take j).all (okD 2) = true) ∧ Hid (0 < j → isB 2 = true)) (fun _ i => s.size - (intOf i).toNat)
         case atStart => exact ⟨0, 0, by omega, by simp, rfl, by show _ = _; simp [valD, wrap64], by show _ = _; simp, by show _ → _; intro h; omega⟩
         case round =>
          obtain ⟨j, m, hj, rfl, rfl, hm, hall, hib⟩ := hrel
          obtain ⟨p, hp⟩ : ∃ p, p = j + 1 := ⟨_, rfl⟩
          rw [← hp] at hj ⊢
          by_cases hlt : p < s.size
          ·have hc0 := UInt8.toNat_lt s[p]
           have W0 := fun w => ref_Worth (s[p].toNat : Int) 2 w (by omega) (by omega)
           have hat : (s.data.toList.drop 1).take (j + 1) = (s.data.toList.drop 1).take j ++ [s[p]] :=
            drop_take_snoc s 1 j p hp hlt
           by_cases hok : isB 2 = true ∧ okD 2 s[p] = true
           ·have h2 := (okD_iff 2 s[p]).1 hok.2
            have h5 := (isB_iff 2).1 hok.1
            rw [worthS_yes _ _ ⟨h5.1, h5.2, h2⟩] at W0
            obtain ⟨d, hd⟩ : ∃ d, wd (s[p].toNat : Int) = d := ⟨_, rfl⟩
            rw [hd] at W0
            have hm' : Hid (wrap64 (wrap64 (m * 2) + d) = wrap64 (valD 2 0 ((s.data.toList.drop 1).take (j + 1)))) := by
             show _ = _
             rw [hat, ← wrap_valD_snoc, ← hm.out, hd]
            have hall' : Hid (((s.data.toList.drop 1).take (j + 1)).all (okD 2) = true) := by
             show _ = _
             rw [hat, List.all_append, hall.out]
             simp [hok.2]
            have hib' : Hid (0 < j + 1 → isB 2 = true) := fun _ => hok.1
            have HP := Lib.hid hp
            have W := Lib.hid W0
            clear hm hall hd W0 hok hat h2 h5 hib hp
            go_wp2_with (go_at_call 91; refine (W.out _).mono ?_; rintro e w' ⟨rfl, rfl⟩)
            go_round
            case rel => exact ⟨j + 1, _, by have := HP.out; omega, by have := HP.out; congr 1; omega, rfl, hm', hall', hib'⟩
            case measure => simp [intOf]; omega
           ·have hno : bareS (s.data.toList.drop 1) 2 false = (0, false) := by
             by_cases hb : isB 2 = true
             ·refine HX.out (drop_all_no s 1 p (by omega) hlt ?_)
              simpa [hb] using hok
             ·exact bareS_nob _ _ _ (by simpa using hb)
            have hw : worthS (s[p].toNat : Int) 2 = (0, false) := by
             unfold worthS
             rw [if_neg]
             rintro ⟨h1, h2, h3⟩
             exact hok ⟨h1, (okD_iff 2 s[p]).2 ⟨h2, h3⟩⟩
            rw [hw] at W0
            have W := Lib.hid W0
            have EX := Lib.hid hno
            clear hm hall W0 hok hat hno hw hib hp
            go_wp2_with (go_at_call 91; refine (W.out _).mono ?_; rintro e w' ⟨rfl, rfl⟩)
            go_ret2
            exact ⟨by rw [E.out, EX.out]; rfl, rfl⟩
          ·have et : (s.data.toList.drop 1).take j = s.data.toList.drop 1 := List.take_of_length_le (by rw [List.length_drop, size_list]; omega)
           rw [et] at hm hall
           have hj0 : 0 < j := by omega
           have EX := Lib.hid (HE.out (hib.out hj0) HN.out hall.out)
           clear hall et hib hp
           go_wp2
           go_ret2
           exact ⟨by rw [E.out, EX.out, ← hm.out]; rfl, rfl⟩
       ·have hn0 : s.data.toList.drop 1 = [] := List.drop_eq_nil_of_le (by rw [size_list]; omega)
        have e := parseS_none N0.out (prefS_pair hp hk2) (cut_end s 1 hk)
        rw [hn0, bareS_nil] at e
        have E := Lib.hid e
        clear e hn0 hk2 hp
        go_wp2
        go_ret2
        exact ⟨by rw [E.out]; rfl, rfl⟩
      ·have hp : (prefS s.data.toList b).1 = b := by rw [prefB_list]; unfold prefB; rw [dif_pos h0]; rw [if_neg h35, if_neg h36, if_neg h37]
       have hk2 : markN s = 0 := by unfold markN; rw [dif_pos h0]; rw [if_neg (fun h => h.elim h35 (fun h => h.elim h36 h37))]
       have c35 : ((s[0].toNat : Int) == 35) = false := byte_ne s[0] 35 (by omega) h35
       have c36 : ((s[0].toNat : Int) == 36) = false := byte_ne s[0] 36 (by omega) h36
       have c37 : ((s[0].toNat : Int) == 37) = false := byte_ne s[0] 37 (by omega) h37
       clear h35 h36 h37
       by_cases hk : 0 < s.size
       rotate_left
       ·exact absurd h0 hk
       ·by_cases h45 : s[0] = 45
        ·have c4 : ((s[0].toNat : Int) == 45) = true := byte_eq s[0] 45 (by omega) h45
         have e := parseS_none N0.out (prefS_pair hp hk2) (cut_yes s 0 hk h45)
         clear hk2 hp h45
         by_cases hk1 : 1 < s.size
         ·have hne : s.data.toList.drop 1 ≠ [] := drop_ne s 1 (by omega)
          have hse : ¬ s = ByteArray.empty := not_empty s (by omega)
          have E := Lib.hid e
          have HX := Lib.hid (bareS_no (s.data.toList.drop 1) b true)
          have HE := Lib.hid (bareS_ok (s.data.toList.drop 1) b true)
          have HN := Lib.hid hne
          clear e hne
          go_wp2_with fail
          go_loop [8, 9] (fun n i => ∃ (j : Nat) (m : Int), j + 1 ≤ s.size ∧ i = .int .i64 ((j + 1 : Nat) : Int) ∧ n = .int .i64 m ∧ Hid (m = wrap64 (valD b 0 ((s.data.toList.drop 1).take j))) ∧ Hid (((s.data.toList.drop 1).take j).all (okD b) = true) ∧ Hid (0 < j → isB b = true)) (fun _ i => s.size - (intOf i).toNat)
          case atStart => exact ⟨0, 0, by omega, by simp, rfl, by show _ = _; simp [valD, wrap64], by show _ = _; simp, by show _ → _; intro h; omega⟩
          case round =>
           obtain ⟨j, m, hj, rfl, rfl, hm, hall, hib⟩ := hrel
           obtain ⟨p, hp⟩ : ∃ p, p = j + 1 := ⟨_, rfl⟩
           rw [← hp] at hj ⊢
           by_cases hlt : p < s.size
           ·have hc0 := UInt8.toNat_lt s[p]
            have W0 := fun w => ref_Worth (s[p].toNat : Int) b w (by omega) (by omega)
            have hat : (s.data.toList.drop 1).take (j + 1) = (s.data.toList.drop 1).take j ++ [s[p]] :=
             drop_take_snoc s 1 j p hp hlt
            by_cases hok : isB b = true ∧ okD b s[p] = true
            ·have h2 := (okD_iff b s[p]).1 hok.2
             have h5 := (isB_iff b).1 hok.1
             rw [worthS_yes _ _ ⟨h5.1, h5.2, h2⟩] at W0
             obtain ⟨d, hd⟩ : ∃ d, wd (s[p].toNat : Int) = d := ⟨_, rfl⟩
             rw [hd] at W0
             have hm' : Hid (wrap64 (wrap64 (m * b) + d) = wrap64 (valD b 0 ((s.data.toList.drop 1).take (j + 1)))) := by
              show _ = _
              rw [hat, ← wrap_valD_snoc, ← hm.out, hd]
             have hall' : Hid (((s.data.toList.drop 1).take (j + 1)).all (okD b) = true) := by
              show _ = _
              rw [hat, List.all_append, hall.out]
              simp [hok.2]
             have hib' : Hid (0 < j + 1 → isB b = true) := fun _ => hok.1
             have HP := Lib.hid hp
             have W := Lib.hid W0
             clear hm hall hd W0 hok hat h2 h5 hib hp
             go_wp2_with (go_at_call 91; refine (W.out _).mono ?_; rintro e w' ⟨rfl, rfl⟩)
             go_round
             case rel => exact ⟨j + 1, _, by have := HP.out; omega, by have := HP.out; congr 1; omega, rfl, hm', hall', hib'⟩
             case measure => simp [intOf]; omega
            ·have hno : bareS (s.data.toList.drop 1) b true = (0, false) := by
              by_cases hb : isB b = true
              ·refine HX.out (drop_all_no s 1 p (by omega) hlt ?_)
               simpa [hb] using hok
              ·exact bareS_nob _ _ _ (by simpa using hb)
             have hw : worthS (s[p].toNat : Int) b = (0, false) := by
              unfold worthS
              rw [if_neg]
              rintro ⟨h1, h2, h3⟩
              exact hok ⟨h1, (okD_iff b s[p]).2 ⟨h2, h3⟩⟩
             rw [hw] at W0
             have W := Lib.hid W0
             have EX := Lib.hid hno
             clear hm hall W0 hok hat hno hw hib hp
             go_wp2_with (go_at_call 91; refine (W.out _).mono ?_; rintro e w' ⟨rfl, rfl⟩)
             go_ret2
             exact ⟨by rw [E.out, EX.out]; rfl, rfl⟩
           ·have et : (s.data.toList.drop 1).take j = s.data.toList.drop 1 := List.take_of_length_le (by rw [List.length_drop, size_list]; omega)
            rw [et] at hm hall
            have hj0 : 0 < j := by omega
            have EX := Lib.hid (HE.out (hib.out hj0) HN.out hall.out)
            clear hall et hib hp
            go_wp2
            go_ret2
            exact ⟨by rw [E.out, EX.out, ← hm.out]; rfl, rfl⟩
         ·have hn0 : s.data.toList.drop 1 = [] := List.drop_eq_nil_of_le (by rw [size_list]; omega)
          rw [hn0, bareS_nil] at e
          have E := Lib.hid e
          clear e hn0
          go_wp2
          go_ret2
          exact ⟨by rw [E.out]; rfl, rfl⟩
        ·have c4 : ((s[0].toNat : Int) == 45) = false := byte_ne s[0] 45 (by omega) h45
         have e := parseS_none N0.out (prefS_pair hp hk2) (cut_no s 0 hk h45)
         clear hk2 hp h45
         have hne : s.data.toList.drop 0 ≠ [] := drop_ne s 0 (by omega)
         have hse : ¬ s = ByteArray.empty := not_empty s (by omega)
         have E := Lib.hid e
         have HX := Lib.hid (bareS_no (s.data.toList.drop 0) b false)
         have HE := Lib.hid (bareS_ok (s.data.toList.drop 0) b false)
         have HN := Lib.hid hne
         clear e hne
         go_wp2_with fail
         go_loop [8, 9] (fun n i => ∃ (j : Nat) (m : Int), j + 0 ≤ s.size ∧ i = .int .i64 ((j + 0 : Nat) : Int) ∧ n = .int .i64 m ∧ Hid (m = wrap64 (valD b 0 ((s.data.toList.drop 0).take j))) ∧ Hid (((s.data.toList.drop 0).take j).all (okD b) = true) ∧ Hid (0 < j → isB b = true)) (fun _ i => s.size - (intOf i).toNat)
         case atStart => exact ⟨0, 0, by omega, by simp, rfl, by show _ = _; simp [valD, wrap64], by show _ = _; simp, by show _ → _; intro h; omega⟩
         case round =>
          obtain ⟨j, m, hj, rfl, rfl, hm, hall, hib⟩ := hrel
          obtain ⟨p, hp⟩ : ∃ p, p = j + 0 := ⟨_, rfl⟩
          rw [← hp] at hj ⊢
          by_cases hlt : p < s.size
          ·have hc0 := UInt8.toNat_lt s[p]
           have W0 := fun w => ref_Worth (s[p].toNat : Int) b w (by omega) (by omega)
           have hat : (s.data.toList.drop 0).take (j + 1) = (s.data.toList.drop 0).take j ++ [s[p]] :=
            drop_take_snoc s 0 j p hp hlt
           by_cases hok : isB b = true ∧ okD b s[p] = true
           ·have h2 := (okD_iff b s[p]).1 hok.2
            have h5 := (isB_iff b).1 hok.1
            rw [worthS_yes _ _ ⟨h5.1, h5.2, h2⟩] at W0
            obtain ⟨d, hd⟩ : ∃ d, wd (s[p].toNat : Int) = d := ⟨_, rfl⟩
            rw [hd] at W0
            have hm' : Hid (wrap64 (wrap64 (m * b) + d) = wrap64 (valD b 0 ((s.data.toList.drop 0).take (j + 1)))) := by
             show _ = _
             rw [hat, ← wrap_valD_snoc, ← hm.out, hd]
            have hall' : Hid (((s.data.toList.drop 0).take (j + 1)).all (okD b) = true) := by
             show _ = _
             rw [hat, List.all_append, hall.out]
             simp [hok.2]
            have hib' : Hid (0 < j + 1 → isB b = true) := fun _ => hok.1
            have HP := Lib.hid hp
            have W := Lib.hid W0
            clear hm hall hd W0 hok hat h2 h5 hib hp
            go_wp2_with (go_at_call 91; refine (W.out _).mono ?_; rintro e w' ⟨rfl, rfl⟩)
            go_round
            case rel => exact ⟨j + 1, _, by have := HP.out; omega, by have := HP.out; congr 1; omega, rfl, hm', hall', hib'⟩
            case measure => simp [intOf]; omega
           ·have hno : bareS (s.data.toList.drop 0) b false = (0, false) := by
             by_cases hb : isB b = true
             ·refine HX.out (drop_all_no s 0 p (by omega) hlt ?_)
              simpa [hb] using hok
             ·exact bareS_nob _ _ _ (by simpa using hb)
            have hw : worthS (s[p].toNat : Int) b = (0, false) := by
             unfold worthS
             rw [if_neg]
             rintro ⟨h1, h2, h3⟩
             exact hok ⟨h1, (okD_iff b s[p]).2 ⟨h2, h3⟩⟩
            rw [hw] at W0
            have W := Lib.hid W0
            have EX := Lib.hid hno
            clear hm hall W0 hok hat hno hw hib hp
            go_wp2_with (go_at_call 91; refine (W.out _).mono ?_; rintro e w' ⟨rfl, rfl⟩)
            go_ret2
            exact ⟨by rw [E.out, EX.out]; rfl, rfl⟩
          ·have et : (s.data.toList.drop 0).take j = s.data.toList.drop 0 := List.take_of_length_le (by rw [List.length_drop, size_list]; omega)
           rw [et] at hm hall
           have hj0 : 0 < j := by omega
           have EX := Lib.hid (HE.out (hib.out hj0) HN.out hall.out)
           clear hall et hib hp
           go_wp2
           go_ret2
           exact ⟨by rw [E.out, EX.out, ← hm.out]; rfl, rfl⟩
   ·have hp : (prefS s.data.toList b).1 = b := by rw [prefB_list]; unfold prefB; rw [dif_neg h0]
    have hk2 : markN s = 0 := by unfold markN; rw [dif_neg h0]
    have hn0 : s.data.toList.drop 0 = [] := List.drop_eq_nil_of_le (by rw [size_list]; omega)
    have e := parseS_none N0.out (prefS_pair hp hk2) (cut_end s 0 h0)
    rw [hn0, bareS_nil] at e
    have E := Lib.hid e
    clear e hn0 hk2 hp
    have hse : s = ByteArray.empty := is_empty s h0
    have hz : (s.size : Int) = 0 := by omega
    go_wp2
    go_ret2
    exact ⟨by rw [E.out]; rfl, rfl⟩
end Go.Proofs.Ytlponhgbbfgkgaa
namespace Go.Proofs.Ytlponhgbbfgkgaa
open Go.RowKit
set_option maxRecDepth 100000
set_option maxHeartbeats 8000000
def atN (ws : List Str) (r : List Str) : Int := ((ws.length - r.length : Nat) : Int)
def cRd (v : VVm) (ws : List Str) (s : PSt) : List PV := cVm v ++ [sq cStr ws, i64 (atN ws s.rest), i64 s.opn, i64 s.loops, i64 s.bad]
@[simp] theorem flat_cRd (v : VVm) (ws : List Str) (s : PSt) : FlatL (cRd v ws s) := by simp [cRd, cVm]
theorem node_eq (k n : Int) (a b : List VNode) : PV.agg [i64 k, i64 n, sq cNode a, sq cNode b] = eNode (.mk k n a b) := by
 show _ = PV.agg [i64 k, i64 n, sqN a, sqN b]
 rw [sqN_eq, sqN_eq]
theorem rd_fail (v : VVm) (ws : List Str) (s : PSt) (e : Int) : ∀ (H : List Ob) (i : Nat), H[i]? = some (.cells (cRd v ws s) 66) → HC Try.prog 38 (.ptr i 0 :: [i64 e]) H (.tup []) (H.set i (.cells (cRd v ws (s.fail e)) 66)) := by
 refine mut_of_W tG (rs := []) Try.func38 rfl rfl rfl (by simp) (by simp) (by simp) (by simp) (fun B => ?_)
 refine zu5 ?_
 refine Wi rfl (fun hi1 => ?_) (fun hi1 => ?_)
 ·have h0 : s.bad = 0 := by simpa using hi1
  refine W_region rfl ?_
  refine zs5 ?_
  refine leafMn rfl rfl ?_ ?_
  ·rfl
  ·(rw [fail0 h0]; rfl)
 ·have h0 : s.bad ≠ 0 := by simpa using hi1
  refine Wj ?_
  refine leafMn rfl rfl ?_ ?_
  ·rfl
  ·(rw [fail1 h0]; rfl)
def nextP (s : PSt) : PSt × Str × Bool := match s.rest with
 | [] => (s, [], false)
 | w :: ws => ({ s with rest := ws }, w, true)
theorem next_nil {s : PSt} (h : s.rest = []) : nextP s = (s, [], false) := by unfold nextP; rw [h]
theorem next_cons {s : PSt} {w : Str} {r : List Str} (h : s.rest = w :: r) : nextP s = ({ s with rest := r }, w, true) := by unfold nextP; rw [h]
theorem suf_get {ws r : List Str} {w : Str} (h : (w :: r) <:+ ws) : ws.getD (ws.length - (r.length + 1)) [] = w := by
 obtain ⟨p, rfl⟩ := h
 have e : (p ++ w :: r).length - (r.length + 1) = p.length := by simp
 rw [e, List.getD_eq_getElem?_getD, List.getElem?_append_right (Nat.le_refl _), Nat.sub_self]; rfl
theorem suf_len {ws r : List Str} (h : r <:+ ws) : r.length ≤ ws.length := h.length_le
theorem rd_next0 (v : VVm) (ws : List Str) (s : PSt) (h : s.rest = []) (hw : ws.length ≤ 1000000) : ∀ (H : List Ob) (i : Nat), H[i]? = some (.cells (cRd v ws s) 66) → HC Try.prog 35 (.ptr i 0 :: []) H (tup2 (str []) (boo false)) (H.set i (.cells (cRd v ws s) 66)) := by
 refine mut_of_W tG (rs := [.tmp 2, .tmp 3]) Try.func35 rfl rfl rfl (by simp) (by simp) (by simp) (by simp) (fun B => ?_)
 refine zu2 ?_
 iterate 2 refine Ws ?_
 refine W_drawU [0, 0, 0, 1, 0, 0, 0, 1, 0, 0] [0, 1, 2, 3, 4, 5, 6, 7, 8, 9] mG rfl (by kernel_rfl) ?_
 iterate 3 refine z3 ?_
 refine z5 ?_
 iterate 3 refine z3 ?_
 refine z5 ?_
 iterate 2 refine z3 ?_
 refine WU_nil ?_
 refine Wt rfl (by rw [h]; simp [atN]) ?_
 refine zu2 ?_
 refine Wq ?_
 refine leafM rfl rfl ?_ ?_
 ·rfl
 ·rfl
theorem rd_next1 (v : VVm) (ws : List Str) (s : PSt) {w : Str} {r : List Str} (h : s.rest = w :: r) (hs : s.rest <:+ ws) (hw : ws.length ≤ 1000000) : ∀ (H : List Ob) (i : Nat), H[i]? = some (.cells (cRd v ws s) 66) → HC Try.prog 35 (.ptr i 0 :: []) H (tup2 (str w) (boo true)) (H.set i (.cells (cRd v ws { s with rest := r }) 66)) := by
 have hl : r.length + 1 ≤ ws.length := by have := suf_len hs; rw [h] at this; simpa using this
 have hg := suf_get (h ▸ hs)
 have w0 : atN ws s.rest = ((ws.length - (r.length + 1) : Nat) : Int) := by rw [h]; rfl
 have w1 : IntKind.i64.wrap (atN ws s.rest + 1) = atN ws r := by rw [w0, i64_ok2 (by omega) (by omega)]; unfold atN; omega
 have w2 : IntKind.i64.wrap (atN ws r - 1) = ((ws.length - (r.length + 1) : Nat) : Int) := by unfold atN; rw [i64_ok2 (by omega) (by omega)]; omega
 refine mut_of_W tG (rs := [.tmp 2, .tmp 3]) Try.func35 rfl rfl rfl (by simp) (by simp) (by simp) (by simp) (fun B => ?_)
 refine zu2 ?_
 iterate 2 refine Ws ?_
 refine W_drawU [0, 0, 0, 1, 0, 0, 0, 1, 0, 0] [0, 1, 2, 3, 4, 5, 6, 7, 8, 9] mG rfl (by kernel_rfl) ?_
 iterate 3 refine z3 ?_
 refine z5 ?_
 iterate 3 refine z3 ?_
 refine z5 ?_
 iterate 2 refine z3 ?_
 refine WU_nil ?_
 refine Wf rfl (by rw [w0]; exact decide_eq_false (by omega)) ?_
 refine Wj ?_
 refine zp5 ?_
 refine Wa 18 rfl (congrArg (fun z => PV.val (Value.int .i64 z)) w1) ?_
 refine zs3 ?_
 refine Ws ?_
 refine W_drawU [0, 0, 0, 1, 0, 0, 0, 1, 0, 0, 1, 0, 0] [0, 1, 2, 3, 4, 5, 6, 7, 8, 9, 10, 11, 12] mG rfl (by kernel_rfl) ?_
 iterate 3 refine z3 ?_
 refine z5 ?_
 iterate 3 refine z3 ?_
 refine z5 ?_
 refine z3 ?_
 refine Xa 29 rfl (congrArg (fun z => PV.val (Value.int .i64 z)) w2) ?_
 refine Xi tG rfl rfl rfl rfl (fun _ => rfl) (by omega) (iN cStr 1 (fun _ => rfl) [] (by omega)) ?_
 refine z5 ?_
 iterate 2 refine z3 ?_
 refine WU_nil ?_
 refine Wq ?_
 refine leafM rfl rfl ?_ ?_
 ·rw [hg]; rfl
 ·rfl
theorem rd_next (v : VVm) (ws : List Str) (s : PSt) (hs : s.rest <:+ ws) (hw : ws.length ≤ 1000000) : ∀ (H : List Ob) (i : Nat), H[i]? = some (.cells (cRd v ws s) 66) → HC Try.prog 35 (.ptr i 0 :: []) H (tup2 (str (nextP s).2.1) (boo (nextP s).2.2)) (H.set i (.cells (cRd v ws (nextP s).1) 66)) := by
 cases h : s.rest with
 | nil => rw [next_nil h]; exact rd_next0 v ws s h hw
 | cons w r => rw [next_cons h]; exact rd_next1 v ws s h hs hw
end Go.Proofs.Ytlponhgbbfgkgaa
namespace Go.Proofs.Ytlponhgbbfgkgaa
open Go.RowKit
set_option maxRecDepth 100000
set_option maxHeartbeats 8000000
theorem k_Parse (w : Str) (b : Int) (h : w.length ≤ 9223372036854775807) : PureC Try.prog 52 [str w, i64 b] (tup2 (i64 (parseS w b).1) (boo (parseS w b).2)) :=
 pure_of_calls (args := [.string ⟨w.toArray⟩, .int .i64 b]) (v := .tuple #[.int .i64 (parseS w b).1, .bool (parseS w b).2]) (fun c => by unfold tup2 Rep; exact ⟨[_, _], rfl, repL_cons.2 ⟨rep_val _ _, repL_cons.2 ⟨rep_val _ _, repL_nil.2 rfl⟩⟩⟩)
  fun W => Calls.mono (num_Parse ⟨w.toArray⟩ b W (by unfold ByteArray.size; simpa using h)) fun _ _ q => ⟨q.1, Grows.of_below q.2⟩
theorem r_Parse (w : Str) (b : Int) (h : w.length ≤ 9223372036854775807) : PureC Try.prog 65 [str w, i64 b] (tup2 (i64 (parseS w b).1) (boo (parseS w b).2)) :=
 pure_of_calls (args := [.string ⟨w.toArray⟩, .int .i64 b]) (v := .tuple #[.int .i64 (parseS w b).1, .bool (parseS w b).2]) (fun c => by unfold tup2 Rep; exact ⟨[_, _], rfl, repL_cons.2 ⟨rep_val _ _, repL_cons.2 ⟨rep_val _ _, repL_nil.2 rfl⟩⟩⟩)
  fun W => Calls.mono (ref_Parse ⟨w.toArray⟩ b W (by unfold ByteArray.size; simpa using h)) fun _ _ q => ⟨q.1, by rw [q.2]; exact Grows.refl _⟩
structure VRd (v : VVm) : Prop where
 dict : DictOk v.dict
 fit : ∀ w ∈ v.dict, Fit64 w.xt
 mem : v.mem.b.length ≤ 140737488355328
theorem VRd.xt {v : VVm} (h : VRd v) (w : Str) : Fit64 (findS v.dict w).1.xt := findK_fit h.fit w _ (Nat.le_refl _)
theorem VRd.fl {v : VVm} (h : VRd v) (w : Str) : 0 ≤ (findS v.dict w).1.flags ∧ (findS v.dict w).1.flags ≤ 7 := findK_flags (fun x hx => (h.dict.2 x hx).2) w _ (Nat.le_refl _)
theorem fit0 : Fit64 0 := by unfold Fit64; omega
theorem fail_0 (s : PSt) : s.fail 0 = s := by
 unfold PSt.fail
 split
 ·cases s; simp_all
 ·rfl
theorem land1 {f : Int} (h0 : 0 ≤ f) (h7 : f ≤ 7) : (IntKind.i64.wrap ↑(BitVec.ofInt IntKind.i64.bits f &&& BitVec.ofInt IntKind.i64.bits 1).toNat != 0) = !decide (f % 2 = 0) := by
 rcases flags8 h0 h7 with rfl | rfl | rfl | rfl | rfl | rfl | rfl | rfl <;> decide
def tokP (r : Int × Str × VNode) : PV := .agg (str r.2.1 :: cNode r.2.2)
@[simp] theorem flat_tokP (r : Int × Str × VNode) : Flat (tokP r) := by unfold tokP Flat FlatL; exact ⟨by simp, flat_cNode _⟩
def zTok : List PV := [str [], i64 0, i64 0, PV.seq 0 [] SK.clip, PV.seq 0 [] SK.clip]
@[simp] theorem flat_zTok : FlatL zTok := by simp [zTok, FlatL, Flat]
theorem rds_a {v : VVm} {w : Str} {l : Int} (h : (findS v.dict w).2.2 = false) (p : (parseS w (memFetch v.mem 0).1).2 = true) : rdS v w l = (0, [], .mk 1 (parseS w (memFetch v.mem 0).1).1 [] []) := by unfold rdS; rw [if_pos h, if_pos p]
theorem rds_b {v : VVm} {w : Str} {l : Int} (h : (findS v.dict w).2.2 = false) (p : ¬ (parseS w (memFetch v.mem 0).1).2 = true) : rdS v w l = (-13, [], .mk 1 (parseS w (memFetch v.mem 0).1).1 [] []) := by unfold rdS; rw [if_pos h, if_neg p]
theorem rds_c {v : VVm} {w : Str} {l : Int} (h : ¬ (findS v.dict w).2.2 = false) (k : (vmKind v (findS v.dict w).1.xt).2 ≠ 0) : rdS v w l = ((vmKind v (findS v.dict w).1.xt).2, [], .mk 0 0 [] []) := by unfold rdS; rw [if_neg h, if_pos k]
theorem rds_d {v : VVm} {w : Str} {l : Int} (h : ¬ (findS v.dict w).2.2 = false) (k : ¬ (vmKind v (findS v.dict w).1.xt).2 ≠ 0) (q : 300 ≤ (vmKind v (findS v.dict w).1.xt).1) : rdS v w l = (0, specials.getD ((vmKind v (findS v.dict w).1.xt).1 - 300).toNat [], .mk 0 0 [] []) := by unfold rdS; rw [if_neg h, if_neg k, if_pos q]
theorem rds_e {v : VVm} {w : Str} {l : Int} (h : ¬ (findS v.dict w).2.2 = false) (k : ¬ (vmKind v (findS v.dict w).1.xt).2 ≠ 0) (q : ¬ 300 ≤ (vmKind v (findS v.dict w).1.xt).1) (f : fitsK (vmKind v (findS v.dict w).1.xt).1 l = true ∧ (findS v.dict w).1.flags % 2 = 0) : rdS v w l = (0, [], .mk 2 (findS v.dict w).1.xt [] []) := by unfold rdS; rw [if_neg h, if_neg k, if_neg q, if_pos f]
theorem rds_f {v : VVm} {w : Str} {l : Int} (h : ¬ (findS v.dict w).2.2 = false) (k : ¬ (vmKind v (findS v.dict w).1.xt).2 ≠ 0) (q : ¬ 300 ≤ (vmKind v (findS v.dict w).1.xt).1) (f : ¬ (fitsK (vmKind v (findS v.dict w).1.xt).1 l = true ∧ (findS v.dict w).1.flags % 2 = 0)) : rdS v w l = (-32, [], .mk 2 (findS v.dict w).1.xt [] []) := by unfold rdS; rw [if_neg h, if_neg k, if_neg q, if_neg f]
theorem rd_read (v : VVm) (ws : List Str) (s : PSt) (hv : VRd v) (w : Str) (hw : w.length ≤ 9223372036854775807) : ∀ (H : List Ob) (i : Nat), H[i]? = some (.cells (cRd v ws s) 66) → HC Try.prog 36 (.ptr i 0 :: [str w]) H (tokP (rdS v w s.loops)) (H.set i (.cells (cRd v ws (s.fail (rdS v w s.loops).1)) 66)) := by
 have hfl := hv.fl w
 have hl1 := land1 hfl.1 hfl.2
 have hsl := specials_len
 refine mut_of_W tG (rs := [.cell 4 93]) Try.func36 rfl rfl rfl (by simp) (by simp) (by simp) (by simp) (fun B => ?_)
 refine zu1 ?_
 refine zp5 ?_
 refine z1 ?_
 refine zc rfl Try.func50 ((dict_Find v.dict w hv.dict hw) _) ?_
 refine zy5 ?_
 refine zs3 ?_
 refine Ws ?_
 refine zu2 ?_
 refine Wi rfl (fun hi1 => ?_) (fun hi1 => ?_)
 ·have q1 : (findS v.dict w).2.2 = false := by simpa using hi1
  refine zp5 ?_
  refine zc rfl Try.func51 ((mem_Fetch v.mem 0 hv.mem fit0) _) ?_
  refine zs5 ?_
  refine zp2 ?_
  refine zc rfl Try.func52 ((k_Parse w _ hw) _) ?_
  refine zs5 ?_
  refine Ws ?_
  refine zu2 ?_
  refine Wi rfl (fun hi2 => ?_) (fun hi2 => ?_)
  ·have q2 : ¬ (parseS w (memFetch v.mem 0).1).2 = true := by simpa using hi2
   refine W_region rfl ?_
   refine z1 ?_
   refine zc rfl Try.func38 ((rd_fail v ws s (-13)) _ _ rfl) ?_
   refine Wn ?_
   refine zu4 ?_
   refine Wq ?_
   refine leafM rfl rfl ?_ ?_
   ·(rw [rds_b q1 q2]; rfl)
   ·(rw [rds_b q1 q2]; rfl)
  ·have q2 : (parseS w (memFetch v.mem 0).1).2 = true := by simpa using hi2
   refine Wj ?_
   refine zu4 ?_
   refine Wq ?_
   refine leafM rfl rfl ?_ ?_
   ·(rw [rds_a q1 q2]; rfl)
   ·(rw [rds_a q1 q2, fail_0]; rfl)
 ·have q1 : ¬ (findS v.dict w).2.2 = false := by simpa using hi1
  refine Wj ?_
  refine Ws ?_
  refine W_drawU [0, 0, 0, 1, 0, 1, 0, 0, 0, 0, 0, 0] [0, 1, 2, 3, 4, 5, 6, 7, 8, 9, 10, 11] mG rfl (by kernel_rfl) ?_
  iterate 3 refine z3 ?_
  refine z5 ?_
  refine z3 ?_
  refine z5 ?_
  refine Xc rfl rfl rfl rfl (fun _ => dC rfl Try.func53 rfl rfl ((vm_Kind v _ hv.mem (hv.xt w)) _)) ?_
  iterate 5 refine z3 ?_
  refine WU_nil ?_
  refine Ws ?_
  refine zu2 ?_
  refine Wi rfl (fun hi3 => ?_) (fun hi3 => ?_)
  ·have q3 : (vmKind v (findS v.dict w).1.xt).2 ≠ 0 := by simpa using hi3
   refine zp2 ?_
   refine zc rfl Try.func38 ((rd_fail v ws s _) _ _ rfl) ?_
   refine Wn ?_
   refine zu2 ?_
   refine Wq ?_
   refine leafM rfl rfl ?_ ?_
   ·(rw [rds_c q1 q3]; rfl)
   ·(rw [rds_c q1 q3]; rfl)
  ·have q3 : ¬ (vmKind v (findS v.dict w).1.xt).2 ≠ 0 := by simpa using hi3
   have hk := kind_le (Decidable.not_not.1 q3)
   refine Wj ?_
   refine Ws ?_
   refine zu2 ?_
   refine Wi rfl (fun hi4 => ?_) (fun hi4 => ?_)
   ·have q4 : 300 ≤ (vmKind v (findS v.dict w).1.xt).1 := oT hi4
    have hk2 := hk
    unfold kindOk at hk2
    have w4 : IntKind.i64.wrap ((vmKind v (findS v.dict w).1.xt).1 - 300) = (((vmKind v (findS v.dict w).1.xt).1 - 300).toNat : Int) := by rw [i64_ok2 (by omega) (by omega)]; omega
    have hlt : ((vmKind v (findS v.dict w).1.xt).1 - 300).toNat < specials.length := by rw [hsl]; omega
    refine z8 ?_
    refine zc rfl Try.func54 ((vm_Specials) _) ?_
    refine zy2 ?_
    refine Wa 70 rfl (congrArg (fun z => PV.val (Value.int .i64 z)) w4) ?_
    refine Wv tG rfl rfl rfl (by omega) (iN cStr 1 (fun _ => rfl) [] (by omega)) ?_
    refine zs3 ?_
    refine Wq ?_
    refine leafM rfl rfl ?_ ?_
    ·(rw [rds_d q1 q3 q4]; rfl)
    ·(rw [rds_d q1 q3 q4, fail_0]; rfl)
   ·have q4 : ¬ 300 ≤ (vmKind v (findS v.dict w).1.xt).1 := oF hi4
    refine Wj ?_
    refine W_meet [(0, .ptr 0 0), (4, .ptr 1 0), (5, .ptr 2 0), (14, boo (fitsK (vmKind v (findS v.dict w).1.xt).1 s.loops))] [.cells (cRd v ws s) 66, .cells zTok 93, .cells (cWord (findS v.dict w).1) 111] [] ?_ ?_
    ·refine W_region rfl ?_
     refine zy3 ?_
     refine Wb 76 rfl (fun hg1 => ?_) (fun hg1 => ?_)
     ·refine z6 ?_
      iterate 8 refine z6 ?_
      refine zy2 ?_
      iterate 9 refine z6 ?_
      refine zy2 ?_
      iterate 2 refine z6 ?_
      refine zs2 ?_
      exact ⟨[], (fitT (sub := by repeat (first | exact subL_nil | refine subL_cons (by first | exact imp_of rfl | exact imp_of (congrArg boo (by unfold fitsK; rw [Bool.eq_iff_iff]; (try simp only [dnL] at *); omega))) ?_)))⟩
     ·refine zy3 ?_
      refine Wb 79 rfl (fun hg2 => ?_) (fun hg2 => ?_)
      ·refine zy5 ?_
       refine zy3 ?_
       refine Wb 87 rfl (fun hg3 => ?_) (fun hg3 => ?_)
       ·refine z6 ?_
        iterate 8 refine z6 ?_
        refine zy2 ?_
        iterate 2 refine z6 ?_
        refine zs2 ?_
        exact ⟨[], (fitT (sub := by repeat (first | exact subL_nil | refine subL_cons (by first | exact imp_of rfl | exact imp_of (congrArg boo (by unfold fitsK; rw [Bool.eq_iff_iff]; (try simp only [dnL] at *); omega))) ?_)))⟩
       ·refine zy3 ?_
        refine Wb 90 rfl (fun hg4 => ?_) (fun hg4 => ?_)
        ·refine zy5 ?_
         refine zy3 ?_
         refine Wb 98 rfl (fun hg5 => ?_) (fun hg5 => ?_)
         ·refine z6 ?_
          refine z6 ?_
          refine zs2 ?_
          exact ⟨[], (fitT (sub := by repeat (first | exact subL_nil | refine subL_cons (by first | exact imp_of rfl | exact imp_of (congrArg boo (by unfold fitsK; rw [Bool.eq_iff_iff]; (try simp only [dnL] at *); omega))) ?_)))⟩
         ·refine zs4 ?_
          exact ⟨[], (fitT (sub := by repeat (first | exact subL_nil | refine subL_cons (by first | exact imp_of rfl | exact imp_of (congrArg boo (by unfold fitsK; rw [Bool.eq_iff_iff]; (try simp only [dnL] at *); omega))) ?_)))⟩
        ·refine z6 ?_
         iterate 4 refine z6 ?_
         refine zy5 ?_
         refine zs2 ?_
         exact ⟨[], (fitT (sub := by repeat (first | exact subL_nil | refine subL_cons (by first | exact imp_of rfl | exact imp_of (congrArg boo (by unfold fitsK; rw [Bool.eq_iff_iff]; (try simp only [dnL] at *); omega))) ?_)))⟩
      ·refine z6 ?_
       iterate 4 refine z6 ?_
       refine zy5 ?_
       refine z1 ?_
       refine Wb 90 rfl (fun hg4 => ?_) (fun hg4 => ?_)
       ·refine zy5 ?_
        refine zy3 ?_
        refine Wb 98 rfl (fun hg5 => ?_) (fun hg5 => ?_)
        ·refine z6 ?_
         refine z6 ?_
         refine zs2 ?_
         exact ⟨[], (fitT (sub := by repeat (first | exact subL_nil | refine subL_cons (by first | exact imp_of rfl | exact imp_of (congrArg boo (by unfold fitsK; rw [Bool.eq_iff_iff]; (try simp only [dnL] at *); omega))) ?_)))⟩
        ·refine zs4 ?_
         exact ⟨[], (fitT (sub := by repeat (first | exact subL_nil | refine subL_cons (by first | exact imp_of rfl | exact imp_of (congrArg boo (by unfold fitsK; rw [Bool.eq_iff_iff]; (try simp only [dnL] at *); omega))) ?_)))⟩
       ·refine z6 ?_
        iterate 4 refine z6 ?_
        refine zy5 ?_
        refine zs2 ?_
        exact ⟨[], (fitT (sub := by repeat (first | exact subL_nil | refine subL_cons (by first | exact imp_of rfl | exact imp_of (congrArg boo (by unfold fitsK; rw [Bool.eq_iff_iff]; (try simp only [dnL] at *); omega))) ?_)))⟩
    ·refine Ws ?_
     refine zp3 ?_
     refine Wb 104 rfl (fun hg6 => ?_) (fun hg6 => ?_)
     ·have q5 : ¬ (fitsK (vmKind v (findS v.dict w).1.xt).1 s.loops = true ∧ (findS v.dict w).1.flags % 2 = 0) := fun h => by rw [h.1] at hg6; cases hg6
      iterate 4 refine z6 ?_
      refine zs1 ?_
      refine Wt rfl rfl ?_
      refine W_region rfl ?_
      refine z1 ?_
      refine zc rfl Try.func38 ((rd_fail v ws s (-32)) _ _ rfl) ?_
      refine Wn ?_
      refine zu5 ?_
      refine Wq ?_
      refine leafM rfl rfl ?_ ?_
      ·(rw [rds_f q1 q3 q4 q5]; rfl)
      ·(rw [rds_f q1 q3 q4 q5]; rfl)
     ·have q6 : fitsK (vmKind v (findS v.dict w).1.xt).1 s.loops = true := by simpa using hg6
      refine zs5 ?_
      refine Wi rfl (fun hi5 => ?_) (fun hi5 => ?_)
      ·have q5 : ¬ (fitsK (vmKind v (findS v.dict w).1.xt).1 s.loops = true ∧ (findS v.dict w).1.flags % 2 = 0) := fun h => by rw [hl1, decide_eq_true h.2] at hi5; cases hi5
       refine W_region rfl ?_
       refine z1 ?_
       refine zc rfl Try.func38 ((rd_fail v ws s (-32)) _ _ rfl) ?_
       refine Wn ?_
       refine zu5 ?_
       refine Wq ?_
       refine leafM rfl rfl ?_ ?_
       ·(rw [rds_f q1 q3 q4 q5]; rfl)
       ·(rw [rds_f q1 q3 q4 q5]; rfl)
      ·have q5 : fitsK (vmKind v (findS v.dict w).1.xt).1 s.loops = true ∧ (findS v.dict w).1.flags % 2 = 0 := ⟨q6, by rw [hl1] at hi5; simpa using hi5⟩
       refine Wj ?_
       refine zu5 ?_
       refine Wq ?_
       refine leafM rfl rfl ?_ ?_
       ·(rw [rds_e q1 q3 q4 q5]; rfl)
       ·(rw [rds_e q1 q3 q4 q5, fail_0]; rfl)
theorem ends_in {s : PSt} {e : Str} (h : e ∈ closers) : endsP s e = (s.fail (-22)).fail (-32) := by unfold endsP; rw [if_pos h]
theorem ends_out {s : PSt} {e : Str} (h : e ∉ closers) : endsP s e = s.fail (-32) := by unfold endsP; rw [if_neg h]
theorem rd_ends (v : VVm) (ws : List Str) (s : PSt) (e : Str) : ∀ (H : List Ob) (i : Nat), H[i]? = some (.cells (cRd v ws s) 66) → HC Try.prog 21 (.ptr i 0 :: [str e]) H (.tup []) (H.set i (.cells (cRd v ws (endsP s e)) 66)) := by
 refine mut_of_W tG (rs := []) Try.func21 rfl rfl rfl (by simp) (by simp) (by simp) (by simp) (fun B => ?_)
 refine Ws ?_
 refine zu1 ?_
 refine Wl ?_
 refine Ws ?_
 refine zp1 ?_
 refine zq 6 ?_
 refine zs1 ?_
 refine Wi rfl (fun hi1 => ?_) (fun hi1 => ?_)
 ·obtain rfl := oT hi1
  refine Wj ?_
  refine Wt rfl hi1 ?_
  refine W_region rfl ?_
  refine z1 ?_
  refine zc rfl Try.func38 ((rd_fail v ws s (-22)) _ _ rfl) ?_
  refine Wn ?_
  refine W_region rfl ?_
  refine z1 ?_
  refine zc rfl Try.func38 ((rd_fail v ws _ (-32)) _ _ rfl) ?_
  refine Wn ?_
  refine leafMn rfl rfl ?_ ?_
  ·rfl
  ·(rw [ends_in (by decide)]; rfl)
 ·have n1 := oF hi1
  refine zp1 ?_
  refine zq 7 ?_
  refine zs1 ?_
  refine Wi rfl (fun hi2 => ?_) (fun hi2 => ?_)
  ·obtain rfl := oT hi2
   refine Wj ?_
   refine Wt rfl hi2 ?_
   refine W_region rfl ?_
   refine z1 ?_
   refine zc rfl Try.func38 ((rd_fail v ws s (-22)) _ _ rfl) ?_
   refine Wn ?_
   refine W_region rfl ?_
   refine z1 ?_
   refine zc rfl Try.func38 ((rd_fail v ws _ (-32)) _ _ rfl) ?_
   refine Wn ?_
   refine leafMn rfl rfl ?_ ?_
   ·rfl
   ·(rw [ends_in (by decide)]; rfl)
  ·have n2 := oF hi2
   refine zp1 ?_
   refine zq 8 ?_
   refine zs1 ?_
   refine Wi rfl (fun hi3 => ?_) (fun hi3 => ?_)
   ·obtain rfl := oT hi3
    refine Wj ?_
    refine Wt rfl hi3 ?_
    refine W_region rfl ?_
    refine z1 ?_
    refine zc rfl Try.func38 ((rd_fail v ws s (-22)) _ _ rfl) ?_
    refine Wn ?_
    refine W_region rfl ?_
    refine z1 ?_
    refine zc rfl Try.func38 ((rd_fail v ws _ (-32)) _ _ rfl) ?_
    refine Wn ?_
    refine leafMn rfl rfl ?_ ?_
    ·rfl
    ·(rw [ends_in (by decide)]; rfl)
   ·have n3 := oF hi3
    refine zp1 ?_
    refine zq 9 ?_
    refine zs1 ?_
    refine Wi rfl (fun hi4 => ?_) (fun hi4 => ?_)
    ·obtain rfl := oT hi4
     refine Wj ?_
     refine Wt rfl hi4 ?_
     refine W_region rfl ?_
     refine z1 ?_
     refine zc rfl Try.func38 ((rd_fail v ws s (-22)) _ _ rfl) ?_
     refine Wn ?_
     refine W_region rfl ?_
     refine z1 ?_
     refine zc rfl Try.func38 ((rd_fail v ws _ (-32)) _ _ rfl) ?_
     refine Wn ?_
     refine leafMn rfl rfl ?_ ?_
     ·rfl
     ·(rw [ends_in (by decide)]; rfl)
    ·have n4 := oF hi4
     refine zp1 ?_
     refine zq 10 ?_
     refine zs1 ?_
     refine Wi rfl (fun hi5 => ?_) (fun hi5 => ?_)
     ·obtain rfl := oT hi5
      refine Wj ?_
      refine Wt rfl hi5 ?_
      refine W_region rfl ?_
      refine z1 ?_
      refine zc rfl Try.func38 ((rd_fail v ws s (-22)) _ _ rfl) ?_
      refine Wn ?_
      refine W_region rfl ?_
      refine z1 ?_
      refine zc rfl Try.func38 ((rd_fail v ws _ (-32)) _ _ rfl) ?_
      refine Wn ?_
      refine leafMn rfl rfl ?_ ?_
      ·rfl
      ·(rw [ends_in (by decide)]; rfl)
     ·have n5 := oF hi5
      refine zp1 ?_
      refine zq 11 ?_
      refine zs1 ?_
      refine Wi rfl (fun hi6 => ?_) (fun hi6 => ?_)
      ·obtain rfl := oT hi6
       refine Wj ?_
       refine Wt rfl hi6 ?_
       refine W_region rfl ?_
       refine z1 ?_
       refine zc rfl Try.func38 ((rd_fail v ws s (-22)) _ _ rfl) ?_
       refine Wn ?_
       refine W_region rfl ?_
       refine z1 ?_
       refine zc rfl Try.func38 ((rd_fail v ws _ (-32)) _ _ rfl) ?_
       refine Wn ?_
       refine leafMn rfl rfl ?_ ?_
       ·rfl
       ·(rw [ends_in (by decide)]; rfl)
      ·have n6 := oF hi6
       refine zp1 ?_
       refine zq 12 ?_
       refine zs1 ?_
       refine Wi rfl (fun hi7 => ?_) (fun hi7 => ?_)
       ·obtain rfl := oT hi7
        refine Wj ?_
        refine Wt rfl hi7 ?_
        refine W_region rfl ?_
        refine z1 ?_
        refine zc rfl Try.func38 ((rd_fail v ws s (-22)) _ _ rfl) ?_
        refine Wn ?_
        refine W_region rfl ?_
        refine z1 ?_
        refine zc rfl Try.func38 ((rd_fail v ws _ (-32)) _ _ rfl) ?_
        refine Wn ?_
        refine leafMn rfl rfl ?_ ?_
        ·rfl
        ·(rw [ends_in (by decide)]; rfl)
       ·have n7 := oF hi7
        refine zp1 ?_
        refine zq 13 ?_
        refine zs1 ?_
        refine Wi rfl (fun hi8 => ?_) (fun hi8 => ?_)
        ·obtain rfl := oT hi8
         refine Wj ?_
         refine Wt rfl hi8 ?_
         refine W_region rfl ?_
         refine z1 ?_
         refine zc rfl Try.func38 ((rd_fail v ws s (-22)) _ _ rfl) ?_
         refine Wn ?_
         refine W_region rfl ?_
         refine z1 ?_
         refine zc rfl Try.func38 ((rd_fail v ws _ (-32)) _ _ rfl) ?_
         refine Wn ?_
         refine leafMn rfl rfl ?_ ?_
         ·rfl
         ·(rw [ends_in (by decide)]; rfl)
        ·have n8 := oF hi8
         refine W_region rfl ?_
         refine z1 ?_
         refine zq 14 ?_
         refine zs1 ?_
         refine Wi rfl (fun hi9 => ?_) (fun hi9 => ?_)
         ·obtain rfl := oT hi9
          refine W_region rfl ?_
          refine z1 ?_
          refine zc rfl Try.func38 ((rd_fail v ws s (-22)) _ _ rfl) ?_
          refine Wn ?_
          refine W_region rfl ?_
          refine z1 ?_
          refine zc rfl Try.func38 ((rd_fail v ws _ (-32)) _ _ rfl) ?_
          refine Wn ?_
          refine leafMn rfl rfl ?_ ?_
          ·rfl
          ·(rw [ends_in (by decide)]; rfl)
         ·have n9 := oF hi9
          refine Wj ?_
          refine W_region rfl ?_
          refine z1 ?_
          refine zc rfl Try.func38 ((rd_fail v ws _ (-32)) _ _ rfl) ?_
          refine Wn ?_
          refine leafMn rfl rfl ?_ ?_
          ·rfl
          ·(rw [ends_out (by unfold closers; simp only [List.mem_cons, List.not_mem_nil, or_false, n1, n2, n3, n4, n5, n6, n7, n8, n9, not_false_eq_true])]; rfl)
theorem rd_opens (v : VVm) (ws : List Str) (s : PSt) (h0 : 0 ≤ s.opn) (h1 : s.opn ≤ 1000000) : ∀ (H : List Ob) (i : Nat), H[i]? = some (.cells (cRd v ws s) 66) → HC Try.prog 85 (.ptr i 0 :: []) H (.tup []) (H.set i (.cells (cRd v ws (opensP s)) 66)) := by
 have w1 : IntKind.i64.wrap (s.opn + 1) = s.opn + 1 := i64_ok2 (by omega) (by omega)
 refine mut_of_W tG (rs := []) Try.func85 rfl rfl rfl (by simp) (by simp) (by simp) (by simp) (fun B => ?_)
 refine Ws ?_
 refine zu5 ?_
 refine Wi rfl (fun hi1 => ?_) (fun hi1 => ?_)
 ·have q1 : 16 ≤ s.opn := oT hi1
  have e1 := (fail_o s (-22)).1
  refine W_region rfl ?_
  refine z1 ?_
  refine zc rfl Try.func38 ((rd_fail v ws s (-22)) _ _ rfl) ?_
  refine Wn ?_
  refine W_region rfl ?_
  refine zy5 ?_
  refine zs3 ?_
  refine leafMn rfl rfl ?_ ?_
  ·rfl
  ·(unfold opensP; rw [if_pos q1]; dsimp only; rw [e1, w1]; rfl)
 ·have q1 : ¬ 16 ≤ s.opn := oF hi1
  refine Wj ?_
  refine W_region rfl ?_
  refine zy5 ?_
  refine zs3 ?_
  refine leafMn rfl rfl ?_ ?_
  ·rfl
  ·(unfold opensP; rw [if_neg q1]; dsimp only; rw [w1]; rfl)
theorem name_nil {s : PSt} (h : s.rest = []) : nameP s = (s.fail (-16), []) := by unfold nameP; rw [h]
theorem name_0 {s : PSt} {w : Str} {r : List Str} (h : s.rest = w :: r) (q : w = []) : nameP s = (({ s with rest := r } : PSt).fail (-16), w) := by unfold nameP; rw [h]; dsimp only; rw [if_pos q]
theorem name_1 {s : PSt} {w : Str} {r : List Str} (h : s.rest = w :: r) (q : ¬ w = []) : nameP s = ({ s with rest := r }, w) := by unfold nameP; rw [h]; dsimp only; rw [if_neg q]
theorem rd_name0 (v : VVm) (ws : List Str) (s : PSt) (h : s.rest = []) (hw : ws.length ≤ 1000000) : ∀ (H : List Ob) (i : Nat), H[i]? = some (.cells (cRd v ws s) 66) → HC Try.prog 88 (.ptr i 0 :: []) H (str (nameP s).2) (H.set i (.cells (cRd v ws (nameP s).1) 66)) := by
 refine mut_of_W tG (rs := [.tmp 2]) Try.func88 rfl rfl rfl (by simp) (by simp) (by simp) (by simp) (fun B => ?_)
 refine zu1 ?_
 refine zp1 ?_
 refine zc rfl Try.func35 ((rd_next0 v ws s h hw) _ _ rfl) ?_
 refine zs5 ?_
 refine Ws ?_
 refine zp3 ?_
 refine WO_true 12 rfl (by rfl) ?_
 iterate 2 refine z6 ?_
 refine zs1 ?_
 refine Wt rfl rfl ?_
 refine W_region rfl ?_
 refine z1 ?_
 refine zc rfl Try.func38 ((rd_fail v ws s (-16)) _ _ rfl) ?_
 refine Wn ?_
 refine zu2 ?_
 refine Wq ?_
 refine leafM rfl rfl ?_ ?_
 ·rw [name_nil h]; rfl
 ·rw [name_nil h]; rfl
theorem rd_name1 (v : VVm) (ws : List Str) (s : PSt) {w : Str} {r : List Str} (h : s.rest = w :: r) (hs : s.rest <:+ ws) (hw : ws.length ≤ 1000000) : ∀ (H : List Ob) (i : Nat), H[i]? = some (.cells (cRd v ws s) 66) → HC Try.prog 88 (.ptr i 0 :: []) H (str (nameP s).2) (H.set i (.cells (cRd v ws (nameP s).1) 66)) := by
 refine mut_of_W tG (rs := [.tmp 2]) Try.func88 rfl rfl rfl (by simp) (by simp) (by simp) (by simp) (fun B => ?_)
 refine zu1 ?_
 refine zp1 ?_
 refine zc rfl Try.func35 ((rd_next1 v ws s h hs hw) _ _ rfl) ?_
 refine zs5 ?_
 refine Ws ?_
 refine zp3 ?_
 refine WO_false 12 rfl (by rfl) ?_
 refine zy2 ?_
 refine zq 14 ?_
 refine zs1 ?_
 refine Wi rfl (fun hi1 => ?_) (fun hi1 => ?_)
 ·have q := oT hi1
  refine W_region rfl ?_
  refine z1 ?_
  refine zc rfl Try.func38 ((rd_fail v ws { s with rest := r } (-16)) _ _ rfl) ?_
  refine Wn ?_
  refine zu2 ?_
  refine Wq ?_
  refine leafM rfl rfl ?_ ?_
  ·(rw [name_0 h q]; rfl)
  ·(rw [name_0 h q]; rfl)
 ·have q := oF hi1
  refine Wj ?_
  refine zu2 ?_
  refine Wq ?_
  refine leafM rfl rfl ?_ ?_
  ·(rw [name_1 h q]; rfl)
  ·(rw [name_1 h q]; rfl)
theorem rd_name (v : VVm) (ws : List Str) (s : PSt) (hs : s.rest <:+ ws) (hw : ws.length ≤ 1000000) : ∀ (H : List Ob) (i : Nat), H[i]? = some (.cells (cRd v ws s) 66) → HC Try.prog 88 (.ptr i 0 :: []) H (str (nameP s).2) (H.set i (.cells (cRd v ws (nameP s).1) 66)) := by
 cases h : s.rest with
 | nil => exact rd_name0 v ws s h hw
 | cons w r => exact rd_name1 v ws s h hs hw
theorem rd_leave (v : VVm) (ws : List Str) (s : PSt) : ∀ (H : List Ob) (i : Nat), H[i]? = some (.cells (cRd v ws s) 66) → HC Try.prog 59 (.ptr i 0 :: []) H (eNode (leaveP s).2) (H.set i (.cells (cRd v ws (leaveP s).1) 66)) := by
 refine mut_of_W tG (rs := [.cell 2 62]) Try.func59 rfl rfl rfl (by simp) (by simp) (by simp) (by simp) (fun B => ?_)
 refine zu1 ?_
 refine Ws ?_
 refine zu5 ?_
 refine Wi rfl (fun hi1 => ?_) (fun hi1 => ?_)
 ·have q : s.loops = 0 := by simpa using hi1
  refine W_region rfl ?_
  refine z1 ?_
  refine zc rfl Try.func38 ((rd_fail v ws s (-22)) _ _ rfl) ?_
  refine Wn ?_
  refine zu2 ?_
  refine Wq ?_
  refine leafM rfl rfl ?_ ?_
  ·rfl
  ·unfold leaveP; ((rw [if_pos q]; rfl))
 ·have q : ¬ s.loops = 0 := by simpa using hi1
  refine Wj ?_
  refine zu2 ?_
  refine Wq ?_
  refine leafM rfl rfl ?_ ?_
  ·rfl
  ·unfold leaveP; ((rw [if_neg q]; rfl))
theorem rd_exit (v : VVm) (ws : List Str) (s : PSt) : ∀ (H : List Ob) (i : Nat), H[i]? = some (.cells (cRd v ws s) 66) → HC Try.prog 60 (.ptr i 0 :: []) H (eNode (exitP s).2) (H.set i (.cells (cRd v ws (exitP s).1) 66)) := by
 refine mut_of_W tG (rs := [.cell 2 62]) Try.func60 rfl rfl rfl (by simp) (by simp) (by simp) (by simp) (fun B => ?_)
 refine zu1 ?_
 refine Ws ?_
 refine zu5 ?_
 refine Wi rfl (fun hi1 => ?_) (fun hi1 => ?_)
 ·have q : 0 < s.loops := oT hi1
  refine W_region rfl ?_
  refine z1 ?_
  refine zc rfl Try.func38 ((rd_fail v ws s (-32)) _ _ rfl) ?_
  refine Wn ?_
  refine zu2 ?_
  refine Wq ?_
  refine leafM rfl rfl ?_ ?_
  ·rfl
  ·unfold exitP; ((rw [if_pos q]; rfl))
 ·have q : ¬ 0 < s.loops := oF hi1
  refine Wj ?_
  refine zu2 ?_
  refine Wq ?_
  refine leafM rfl rfl ?_ ?_
  ·rfl
  ·unfold exitP; ((rw [if_neg q]; rfl))
theorem rd_self (v : VVm) (ws : List Str) (s : PSt) : ∀ (H : List Ob) (i : Nat), H[i]? = some (.cells (cRd v ws s) 66) → HC Try.prog 61 (.ptr i 0 :: []) H (eNode (.mk 11 0 [] [])) (H.set i (.cells (cRd v ws s) 66)) := by
 refine mut_of_W tG (rs := [.cell 2 62]) Try.func61 rfl rfl rfl (by simp) (by simp) (by simp) (by simp) (fun B => ?_)
 refine zu1 ?_
 refine zu2 ?_
 refine Wq ?_
 refine leafM rfl rfl ?_ ?_
 ·rfl
 ·rfl
theorem char_nil {s : PSt} (h : (nameP s).2 = []) : charP s = ((nameP s).1, .mk 1 0 [] []) := by unfold charP; dsimp only; rw [if_pos h]
theorem char_cons {s : PSt} (h : ¬ (nameP s).2 = []) : charP s = ((nameP s).1, .mk 1 (((nameP s).2.getD 0 0).toNat : Int) [] []) := by unfold charP; dsimp only; rw [if_neg h]
theorem rd_char (v : VVm) (ws : List Str) (s : PSt) (hs : s.rest <:+ ws) (hw : ws.length ≤ 1000000) : ∀ (H : List Ob) (i : Nat), H[i]? = some (.cells (cRd v ws s) 66) → HC Try.prog 62 (.ptr i 0 :: []) H (eNode (charP s).2) (H.set i (.cells (cRd v ws (charP s).1) 66)) := by
 refine mut_of_W tG (rs := [.cell 2 62]) Try.func62 rfl rfl rfl (by simp) (by simp) (by simp) (by simp) (fun B => ?_)
 refine zu1 ?_
 refine zp1 ?_
 refine zc rfl Try.func88 ((rd_name v ws s hs hw) _ _ rfl) ?_
 refine zs1 ?_
 refine zu3 ?_
 refine Ws ?_
 refine zp2 ?_
 refine Wa 9 rfl (str_neq _ _) ?_
 refine Wn ?_
 refine Wi rfl (fun hi1 => ?_) (fun hi1 => ?_)
 ·have q : ¬ (nameP s).2 = [] := by simpa using hi1
  have hp : 0 < (nameP s).2.length := List.length_pos_iff.2 q
  have wc : IntKind.i64.wrap (((nameP s).2.getD 0 0).toNat : Int) = (((nameP s).2.getD 0 0).toNat : Int) := i64_ok2 (by omega) (by have := ((nameP s).2.getD 0 0).toNat_lt; omega)
  refine W_region rfl ?_
  refine z1 ?_
  refine z2 ?_ (q := (by simp only [str_size]; omega))
  refine Wa 11 rfl (str_byteN _ _) ?_
  refine z1 ?_
  refine Wa 12 rfl (congrArg (fun z => PV.val (Value.int .i64 z)) wc) ?_
  refine zs2 ?_
  refine zu2 ?_
  refine Wq ?_
  refine leafM rfl rfl ?_ ?_
  ·(rw [char_cons q]; rfl)
  ·(rw [char_cons q]; rfl)
 ·have q : (nameP s).2 = [] := by simpa using hi1
  refine Wj ?_
  refine zu2 ?_
  refine Wq ?_
  refine leafM rfl rfl ?_ ?_
  ·(rw [char_nil q]; rfl)
  ·(rw [char_nil q]; rfl)
theorem rd_tick (v : VVm) (ws : List Str) (s : PSt) (hv : VRd v) (hs : s.rest <:+ ws) (hw : ws.length ≤ 1000000) (hn : (nameP s).2.length ≤ 9223372036854775807) : ∀ (H : List Ob) (i : Nat), H[i]? = some (.cells (cRd v ws s) 66) → HC Try.prog 63 (.ptr i 0 :: []) H (eNode (tickP (readerS v) s).2) (H.set i (.cells (cRd v ws (tickP (readerS v) s).1) 66)) := by
 refine mut_of_W tG (rs := [.cell 2 62]) Try.func63 rfl rfl rfl (by simp) (by simp) (by simp) (by simp) (fun B => ?_)
 refine zu1 ?_
 refine zp1 ?_
 refine zc rfl Try.func88 ((rd_name v ws s hs hw) _ _ rfl) ?_
 refine zs1 ?_
 refine zp5 ?_
 refine z1 ?_
 refine zc rfl Try.func50 ((dict_Find v.dict _ hv.dict hn) _) ?_
 refine zy5 ?_
 refine zs3 ?_
 refine Ws ?_
 refine zu2 ?_
 refine Wi rfl (fun hi1 => ?_) (fun hi1 => ?_)
 ·have q : ¬ (findS v.dict (nameP s).2).2.2 = true := by simpa using hi1
  refine W_region rfl ?_
  refine z1 ?_
  refine zc rfl Try.func38 ((rd_fail v ws (nameP s).1 (-13)) _ _ rfl) ?_
  refine Wn ?_
  refine zu4 ?_
  refine Wq ?_
  refine leafM rfl rfl ?_ ?_
  ·rfl
  ·unfold tickP; dsimp only; ((rw [if_neg (show ¬ ((readerS v).tk (nameP s).2).2 = true from q)]; rfl))
 ·have q : (findS v.dict (nameP s).2).2.2 = true := by simpa using hi1
  refine Wj ?_
  refine zu4 ?_
  refine Wq ?_
  refine leafM rfl rfl ?_ ?_
  ·rfl
  ·unfold tickP; dsimp only; ((rw [if_pos (show ((readerS v).tk (nameP s).2).2 = true from q)]; rfl))
end Go.Proofs.Ytlponhgbbfgkgaa
namespace Go.Proofs.Ytlponhgbbfgkgaa
open Go.RowKit
set_option maxRecDepth 100000
set_option maxHeartbeats 8000000
def idxF (l : List Str) (s : Str) : Nat → Nat → Int
 | 0, _ => -1
 | m + 1, k => if s = l.getD k [] then (k : Int) else idxF l s m (k + 1)
theorem idxF_ge (l : List Str) (s : Str) : ∀ m k, (0 ≤ idxF l s m k) ↔ ∃ j, j < m ∧ s = l.getD (k + j) []
 | 0, k => by
  unfold idxF
  constructor
  ·intro h; omega
  ·rintro ⟨j, h, _⟩; omega
 | m + 1, k => by
  unfold idxF
  by_cases h : s = l.getD k []
  ·rw [if_pos h]; exact ⟨fun _ => ⟨0, by omega, h⟩, fun _ => by omega⟩
  ·rw [if_neg h, idxF_ge l s m (k + 1)]
   constructor
   ·rintro ⟨j, h1, h2⟩; exact ⟨j + 1, by omega, by rw [h2]; congr 1; omega⟩
   ·rintro ⟨j, h1, h2⟩
    match j, h1, h2 with
    | 0, _, h2 => exact absurd h2 h
    | j + 1, h1, h2 => exact ⟨j, by omega, by rw [h2]; congr 1; omega⟩
theorem idxF_mem (l : List Str) (s : Str) : decide (idxF l s l.length 0 ≥ 0) = decide (s ∈ l) := by
 rw [Bool.eq_iff_iff, decide_eq_true_eq, decide_eq_true_eq]
 refine (idxF_ge l s l.length 0).trans ⟨?_, fun h => ?_⟩
 ·rintro ⟨j, h1, rfl⟩
  rw [Nat.zero_add, List.getD_eq_getElem?_getD, List.getElem?_eq_getElem h1]
  exact List.getElem_mem _
 ·obtain ⟨j, h1, h2⟩ := List.getElem_of_mem h
  exact ⟨j, h1, by rw [Nat.zero_add, List.getD_eq_getElem?_getD, List.getElem?_eq_getElem h1]; exact h2.symm⟩
theorem idxF_step {l : List Str} {s : Str} {k : Nat} (hk : k < l.length) (h : ¬ s = l.getD k []) : idxF l s (l.length - k) k = idxF l s (l.length - (k + 1)) (k + 1) := by
 rw [show l.length - k = (l.length - (k + 1)) + 1 by omega]
 show (if s = l.getD k [] then _ else _) = _
 rw [if_neg h]
theorem idxF_hit {l : List Str} {s : Str} {k : Nat} (hk : k < l.length) (h : s = l.getD k []) : idxF l s (l.length - k) k = (k : Int) := by
 rw [show l.length - k = (l.length - (k + 1)) + 1 by omega]
 show (if s = l.getD k [] then _ else _) = _
 rw [if_pos h]
theorem str_Index (l : List Str) (s : Str) (hl : l.length ≤ 1000000) : PureC Try.prog 104 [sq cStr l, str s] (i64 (idxF l s l.length 0)) := by
 refine pW tG (rs := [.tmp 4]) Try.func104 rfl rfl rfl (by simp) (by simp) (fun B => ?_)
 refine zu1 ?_
 refine Ws ?_
 refine zu3 ?_
 refine Wl ?_
 show W _ _ _ _ _ _ _
 refine W_loopS (fun (k : Nat) => [(0, sq cStr l), (1, str s), (4, i64 0), (7, i64 (l.length : Int)), (8, i64 (k : Int))]) (fun (k : Nat) => []) (fun (k : Nat) => []) (fun (k : Nat) => k ≤ l.length ∧ idxF l s l.length 0 = idxF l s (l.length - k) k) (fun (k : Nat) => l.length - k) (0) (by exact ⟨Nat.zero_le _, rfl⟩) [] ?_ ?_
 ·exact fitT
 ·intro k hk
  refine zu1 ?_
  refine Ws ?_
  refine Wi rfl (fun hi1 => ?_) (fun hi1 => ?_)
  ·have hlt : k < l.length := by have := oT hi1; omega
   refine Wj ?_
   refine Ws ?_
   refine Wl ?_
   refine zu2 ?_
   refine zp3 ?_
   refine Wv tG rfl rfl rfl (by omega) (iN cStr 1 (fun _ => rfl) [] (by omega)) ?_
   refine zy2 ?_
   refine zq 16 ?_
   refine Wn ?_
   refine Wi rfl (fun hi2 => ?_) (fun hi2 => ?_)
   ·have q : s = l.getD k [] := oT hi2
    refine zu2 ?_
    refine zR ?_
    rw [hk.2, idxF_hit hlt q]; rfl
   ·have q : ¬ s = l.getD k [] := oF hi2
    refine Wj ?_
    refine W_region rfl ?_
    refine zs2 ?_
    exact ⟨k + 1, [], (by exact ⟨by omega, hk.2.trans (idxF_step hlt q)⟩), (by omega), fitT⟩
  ·have hge : l.length - k = 0 := by have := oF hi1; omega
   refine W_exit ?_
   refine zu1 ?_
   refine zR ?_
   rw [hk.2, hge]; rfl
theorem str_Contains (l : List Str) (s : Str) (hl : l.length ≤ 1000000) : PureC Try.prog 97 [sq cStr l, str s] (boo (decide (s ∈ l))) := by
 refine pW tG (rs := [.tmp 4]) Try.func97 rfl rfl rfl (by simp) (by simp) (fun B => ?_)
 refine zu1 ?_
 refine zp2 ?_
 refine zc rfl Try.func104 ((str_Index l s hl) _) ?_
 refine zs2 ?_
 refine zR ?_
 exact congrArg boo (idxF_mem l s)
def rowR (R : Rdr) (s : PSt) : PRes := loopP R (s.rest.length + 1) s []
def RowWs (v : VVm) (ws : List Str) (s : PSt) : Prop := ∀ (H : List Ob) (i : Nat), H[i]? = some (.cells (cRd v ws s) 66) →
 HC Try.prog 20 [.ptr i 0] H (tup2 (sq cNode (rowR (readerS v) s).2.1) (str (rowR (readerS v) s).2.2)) (H.set i (.cells (cRd v ws (rowR (readerS v) s).1) 66))
theorem body_yes {row : PSt → PRes} {s : PSt} {ends : List Str} (h : (row s).1.bad = 0 ∧ (row s).2.2 ∉ ends) : bodyP row s ends = (endsP (row s).1 (row s).2.2, (row s).2.1, (row s).2.2) := by unfold bodyP; dsimp only; rw [if_pos h]
theorem body_no {row : PSt → PRes} {s : PSt} {ends : List Str} (h : ¬ ((row s).1.bad = 0 ∧ (row s).2.2 ∉ ends)) : bodyP row s ends = row s := by unfold bodyP; dsimp only; rw [if_neg h]
theorem rd_body (v : VVm) (ws : List Str) (s : PSt) (ends : List Str) (he : ends.length ≤ 10) (hrow : RowWs v ws s) : ∀ (H : List Ob) (i : Nat), H[i]? = some (.cells (cRd v ws s) 66) → HC Try.prog 86 (.ptr i 0 :: [sq cStr ends]) H (tup2 (sq cNode (bodyP (rowR (readerS v)) s ends).2.1) (str (bodyP (rowR (readerS v)) s ends).2.2)) (H.set i (.cells (cRd v ws (bodyP (rowR (readerS v)) s ends).1) 66)) := by
 refine mut_of_W tG (rs := [.tmp 4, .tmp 5]) Try.func86 rfl rfl rfl (by simp) (by simp) (by simp) (by simp) (fun B => ?_)
 refine zu2 ?_
 refine zp1 ?_
 refine zc rfl Try.func20 (hrow _ _ rfl) ?_
 refine zs5 ?_
 refine Ws ?_
 refine zp5 ?_
 refine z1 ?_
 refine Wb 18 rfl (fun hg1 => ?_) (fun hg1 => ?_)
 ·have q1 : (rowR (readerS v) s).1.bad = 0 := by simpa using hg1
  refine zy2 ?_
  refine zc rfl Try.func97 ((str_Contains ends _ (by omega)) _) ?_
  refine zs2 ?_
  refine Wi rfl (fun hi1 => ?_) (fun hi1 => ?_)
  ·have q2 : (rowR (readerS v) s).1.bad = 0 ∧ (rowR (readerS v) s).2.2 ∉ ends := ⟨q1, by simpa using hi1⟩
   refine W_region rfl ?_
   refine zy2 ?_
   refine zc rfl Try.func21 ((rd_ends v ws (rowR (readerS v) s).1 _) _ _ rfl) ?_
   refine Wn ?_
   refine zu4 ?_
   refine Wq ?_
   refine leafM rfl rfl ?_ ?_
   ·(rw [body_yes q2]; rfl)
   ·(rw [body_yes q2]; rfl)
  ·have q2 : ¬ ((rowR (readerS v) s).1.bad = 0 ∧ (rowR (readerS v) s).2.2 ∉ ends) := fun h => absurd h.2 (by simpa using hi1)
   refine Wj ?_
   refine zu4 ?_
   refine Wq ?_
   refine leafM rfl rfl ?_ ?_
   ·(rw [body_no q2]; rfl)
   ·(rw [body_no q2]; rfl)
 ·have q1 : ¬ (rowR (readerS v) s).1.bad = 0 := by simpa using hg1
  have q2 : ¬ ((rowR (readerS v) s).1.bad = 0 ∧ (rowR (readerS v) s).2.2 ∉ ends) := fun h => q1 h.1
  iterate 4 refine z6 ?_
  refine zs1 ?_
  refine Wf rfl rfl ?_
  refine Wj ?_
  refine zu4 ?_
  refine Wq ?_
  refine leafM rfl rfl ?_ ?_
  ·(rw [body_no q2]; rfl)
  ·(rw [body_no q2]; rfl)
structure Bd (k : Nat) (s : PSt) : Prop where
 o0 : 0 ≤ s.opn
 l0 : 0 ≤ s.loops
 o1 : s.opn + s.rest.length + k ≤ 1000000
 l1 : s.loops + s.rest.length + k ≤ 1000000
theorem rowR_keeps (v : VVm) (s : PSt) : (rowR (readerS v) s).1.opn = s.opn ∧ (rowR (readerS v) s).1.loops = s.loops := loop_keeps (readerS_ok v) _ s []
theorem rowR_suf (R : Rdr) (s : PSt) : (rowR R s).1.rest <:+ s.rest := loop_suf R _ s []
theorem body_keeps (v : VVm) (s : PSt) (ends : List Str) : (bodyP (rowR (readerS v)) s ends).1.opn = s.opn ∧ (bodyP (rowR (readerS v)) s ends).1.loops = s.loops := by
 have k := rowR_keeps v s
 unfold bodyP
 dsimp only
 split
 ·exact ⟨(ends_o _ _).1.trans k.1, (ends_o _ _).2.1.trans k.2⟩
 ·exact k
theorem opens_keeps (s : PSt) : (opensP s).opn = s.opn + 1 ∧ (opensP s).loops = s.loops ∧ (opensP s).rest = s.rest := by
 refine ⟨?_, ?_, opens_rest s⟩
 ·unfold opensP
  by_cases q : 16 ≤ s.opn
  ·rw [if_pos q]; show (s.fail (-22)).opn + 1 = _; rw [(fail_o s _).1]
  ·rw [if_neg q]
 ·unfold opensP
  by_cases q : 16 ≤ s.opn
  ·rw [if_pos q]; exact (fail_o s _).2.1
  ·rw [if_neg q]
theorem Bd.suf {k : Nat} {s t : PSt} (h : Bd k s) (h1 : t.opn = s.opn) (h2 : t.loops = s.loops) (h3 : t.rest <:+ s.rest) : Bd k t := by
 have := h3.length_le
 exact ⟨by rw [h1]; exact h.o0, by rw [h2]; exact h.l0, by have := h.o1; rw [h1]; omega, by have := h.l1; rw [h2]; omega⟩
theorem Bd.opens {s : PSt} (h : Bd 1 s) : Bd 0 (opensP s) := by
 obtain ⟨k1, k2, k3⟩ := opens_keeps s
 exact ⟨by have := h.o0; rw [k1]; omega, by rw [k2]; exact h.l0, by have := h.o1; rw [k1, k3]; omega, by have := h.l1; rw [k2, k3]; omega⟩
theorem if_y {row : PSt → PRes} {s : PSt} (e : (bodyP row (opensP s) [[69, 76, 83, 69], [84, 72, 69, 78]]).2.2 = [69, 76, 83, 69]) : ifP row s = (shutP (bodyP row (bodyP row (opensP s) [[69, 76, 83, 69], [84, 72, 69, 78]]).1 [[84, 72, 69, 78]]).1, .mk 3 1 (bodyP row (opensP s) [[69, 76, 83, 69], [84, 72, 69, 78]]).2.1 (bodyP row (bodyP row (opensP s) [[69, 76, 83, 69], [84, 72, 69, 78]]).1 [[84, 72, 69, 78]]).2.1) := by
 unfold ifP; dsimp only; rw [if_pos e]
theorem if_n {row : PSt → PRes} {s : PSt} (e : ¬ (bodyP row (opensP s) [[69, 76, 83, 69], [84, 72, 69, 78]]).2.2 = [69, 76, 83, 69]) : ifP row s = (shutP (bodyP row (opensP s) [[69, 76, 83, 69], [84, 72, 69, 78]]).1, .mk 3 0 (bodyP row (opensP s) [[69, 76, 83, 69], [84, 72, 69, 78]]).2.1 []) := by
 unfold ifP; dsimp only; rw [if_neg e]
theorem begin_a {row : PSt → PRes} {s : PSt} (e : (bodyP row (opensP s) [[85, 78, 84, 73, 76], [65, 71, 65, 73, 78], [87, 72, 73, 76, 69]]).2.2 = [65, 71, 65, 73, 78]) : beginP row s = (shutP (bodyP row (opensP s) [[85, 78, 84, 73, 76], [65, 71, 65, 73, 78], [87, 72, 73, 76, 69]]).1, .mk 5 0 (bodyP row (opensP s) [[85, 78, 84, 73, 76], [65, 71, 65, 73, 78], [87, 72, 73, 76, 69]]).2.1 []) := by
 unfold beginP; dsimp only; rw [if_pos e]
theorem begin_w {row : PSt → PRes} {s : PSt} (n : ¬ (bodyP row (opensP s) [[85, 78, 84, 73, 76], [65, 71, 65, 73, 78], [87, 72, 73, 76, 69]]).2.2 = [65, 71, 65, 73, 78]) (e : (bodyP row (opensP s) [[85, 78, 84, 73, 76], [65, 71, 65, 73, 78], [87, 72, 73, 76, 69]]).2.2 = [87, 72, 73, 76, 69]) : beginP row s = (shutP (bodyP row (bodyP row (opensP s) [[85, 78, 84, 73, 76], [65, 71, 65, 73, 78], [87, 72, 73, 76, 69]]).1 [[82, 69, 80, 69, 65, 84]]).1, .mk 6 0 (bodyP row (opensP s) [[85, 78, 84, 73, 76], [65, 71, 65, 73, 78], [87, 72, 73, 76, 69]]).2.1 (bodyP row (bodyP row (opensP s) [[85, 78, 84, 73, 76], [65, 71, 65, 73, 78], [87, 72, 73, 76, 69]]).1 [[82, 69, 80, 69, 65, 84]]).2.1) := by
 unfold beginP; dsimp only; rw [if_neg n, if_pos e]
theorem begin_u {row : PSt → PRes} {s : PSt} (n : ¬ (bodyP row (opensP s) [[85, 78, 84, 73, 76], [65, 71, 65, 73, 78], [87, 72, 73, 76, 69]]).2.2 = [65, 71, 65, 73, 78]) (e : ¬ (bodyP row (opensP s) [[85, 78, 84, 73, 76], [65, 71, 65, 73, 78], [87, 72, 73, 76, 69]]).2.2 = [87, 72, 73, 76, 69]) : beginP row s = (shutP (bodyP row (opensP s) [[85, 78, 84, 73, 76], [65, 71, 65, 73, 78], [87, 72, 73, 76, 69]]).1, .mk 4 0 (bodyP row (opensP s) [[85, 78, 84, 73, 76], [65, 71, 65, 73, 78], [87, 72, 73, 76, 69]]).2.1 []) := by
 unfold beginP; dsimp only; rw [if_neg n, if_neg e]
def inLp (s : PSt) : PSt := { opensP s with loops := (opensP s).loops + 1 }
theorem loopN_y {row : PSt → PRes} {s : PSt} {ask : Int} (e : (bodyP row (inLp s) [[76, 79, 79, 80], [43, 76, 79, 79, 80]]).2.2 = [43, 76, 79, 79, 80]) : (loopN row ask s).2 = .mk 8 ask (bodyP row (inLp s) [[76, 79, 79, 80], [43, 76, 79, 79, 80]]).2.1 [] := by
 show VNode.mk (if (bodyP row (inLp s) [[76, 79, 79, 80], [43, 76, 79, 79, 80]]).2.2 = [43, 76, 79, 79, 80] then 8 else 7) ask (bodyP row (inLp s) [[76, 79, 79, 80], [43, 76, 79, 79, 80]]).2.1 [] = _
 rw [if_pos e]
theorem loopN_n {row : PSt → PRes} {s : PSt} {ask : Int} (e : ¬ (bodyP row (inLp s) [[76, 79, 79, 80], [43, 76, 79, 79, 80]]).2.2 = [43, 76, 79, 79, 80]) : (loopN row ask s).2 = .mk 7 ask (bodyP row (inLp s) [[76, 79, 79, 80], [43, 76, 79, 79, 80]]).2.1 [] := by
 show VNode.mk (if (bodyP row (inLp s) [[76, 79, 79, 80], [43, 76, 79, 79, 80]]).2.2 = [43, 76, 79, 79, 80] then 8 else 7) ask (bodyP row (inLp s) [[76, 79, 79, 80], [43, 76, 79, 79, 80]]).2.1 [] = _
 rw [if_neg e]
section
variable (v : VVm) (ws : List Str) (s : PSt) (hb : Bd 1 s) (hrow : ∀ t : PSt, t.rest <:+ s.rest → Bd 0 t → RowWs v ws t)
include hb hrow
theorem rd_if : ∀ (H : List Ob) (i : Nat), H[i]? = some (.cells (cRd v ws s) 66) → HC Try.prog 55 (.ptr i 0 :: []) H (eNode (ifP (rowR (readerS v)) s).2) (H.set i (.cells (cRd v ws (ifP (rowR (readerS v)) s).1) 66)) := by
 have k0 := opens_keeps s
 have b0 := hb.opens
 have k1 := body_keeps v (opensP s) [[69, 76, 83, 69], [84, 72, 69, 78]]
 have s1 := opens_suf (rowR_suf (readerS v)) s [[69, 76, 83, 69], [84, 72, 69, 78]]
 have b1 : Bd 0 (bodyP (rowR (readerS v)) (opensP s) [[69, 76, 83, 69], [84, 72, 69, 78]]).1 := b0.suf k1.1 k1.2 (body_suf (rowR_suf (readerS v)) _ _)
 have k2 := body_keeps v (bodyP (rowR (readerS v)) (opensP s) [[69, 76, 83, 69], [84, 72, 69, 78]]).1 [[84, 72, 69, 78]]
 have ho := hb.o0
 have ho1 := hb.o1
 have w1 : IntKind.i64.wrap ((bodyP (rowR (readerS v)) (opensP s) [[69, 76, 83, 69], [84, 72, 69, 78]]).1.opn - 1) = (bodyP (rowR (readerS v)) (opensP s) [[69, 76, 83, 69], [84, 72, 69, 78]]).1.opn - 1 := i64_ok2 (by rw [k1.1, k0.1]; omega) (by rw [k1.1, k0.1]; omega)
 have w2 : IntKind.i64.wrap ((bodyP (rowR (readerS v)) (bodyP (rowR (readerS v)) (opensP s) [[69, 76, 83, 69], [84, 72, 69, 78]]).1 [[84, 72, 69, 78]]).1.opn - 1) = (bodyP (rowR (readerS v)) (bodyP (rowR (readerS v)) (opensP s) [[69, 76, 83, 69], [84, 72, 69, 78]]).1 [[84, 72, 69, 78]]).1.opn - 1 := i64_ok2 (by rw [k2.1, k1.1, k0.1]; omega) (by rw [k2.1, k1.1, k0.1]; omega)
 refine mut_of_W tG (rs := [.cell 2 62]) Try.func55 rfl rfl rfl (by simp) (by simp) (by simp) (by simp) (fun B => ?_)
 refine zu1 ?_
 refine zp1 ?_
 refine zc rfl Try.func85 ((rd_opens v ws s ho (by omega)) _ _ rfl) ?_
 refine Wn ?_
 refine zu3 ?_
 refine zp2 ?_
 refine Wa 11 rfl (bsL cStr [_, _] rfl rfl) ?_
 refine zc rfl Try.func86 ((rd_body v ws (opensP s) [[69, 76, 83, 69], [84, 72, 69, 78]] (by decide) (hrow _ (by rw [k0.2.2]; exact List.suffix_refl _) b0)) _ _ rfl) ?_
 refine zs5 ?_
 refine zu3 ?_
 refine Ws ?_
 refine zp2 ?_
 refine zq 18 ?_
 refine Wn ?_
 refine Wi rfl (fun hi1 => ?_) (fun hi1 => ?_)
 ·have q : (bodyP (rowR (readerS v)) (opensP s) [[69, 76, 83, 69], [84, 72, 69, 78]]).2.2 = [69, 76, 83, 69] := oT hi1
  refine zu2 ?_
  refine W_region rfl ?_
  refine zy2 ?_
  refine Wa 22 rfl (bsL cStr [_] rfl rfl) ?_
  refine zc rfl Try.func86 ((rd_body v ws _ [[84, 72, 69, 78]] (by decide) (hrow _ s1 b1)) _ _ rfl) ?_
  refine zs5 ?_
  refine zp5 ?_
  refine Wa 31 rfl (congrArg (fun z => PV.val (Value.int .i64 z)) (by exact w2)) ?_
  refine zs3 ?_
  refine zu2 ?_
  refine Wq ?_
  refine leafM rfl rfl ?_ ?_
  ·(rw [if_y q]; exact node_eq _ _ _ _)
  ·(rw [if_y q]; rfl)
 ·have q : ¬ (bodyP (rowR (readerS v)) (opensP s) [[69, 76, 83, 69], [84, 72, 69, 78]]).2.2 = [69, 76, 83, 69] := oF hi1
  refine Wj ?_
  refine zp5 ?_
  refine Wa 31 rfl (congrArg (fun z => PV.val (Value.int .i64 z)) (by exact w1)) ?_
  refine zs3 ?_
  refine zu2 ?_
  refine Wq ?_
  refine leafM rfl rfl ?_ ?_
  ·(rw [if_n q]; exact node_eq _ _ _ [])
  ·(rw [if_n q]; rfl)
theorem rd_begin : ∀ (H : List Ob) (i : Nat), H[i]? = some (.cells (cRd v ws s) 66) → HC Try.prog 56 (.ptr i 0 :: []) H (eNode (beginP (rowR (readerS v)) s).2) (H.set i (.cells (cRd v ws (beginP (rowR (readerS v)) s).1) 66)) := by
 have k0 := opens_keeps s
 have b0 := hb.opens
 have k1 := body_keeps v (opensP s) [[85, 78, 84, 73, 76], [65, 71, 65, 73, 78], [87, 72, 73, 76, 69]]
 have s1 := opens_suf (rowR_suf (readerS v)) s [[85, 78, 84, 73, 76], [65, 71, 65, 73, 78], [87, 72, 73, 76, 69]]
 have b1 : Bd 0 (bodyP (rowR (readerS v)) (opensP s) [[85, 78, 84, 73, 76], [65, 71, 65, 73, 78], [87, 72, 73, 76, 69]]).1 := b0.suf k1.1 k1.2 (body_suf (rowR_suf (readerS v)) _ _)
 have k2 := body_keeps v (bodyP (rowR (readerS v)) (opensP s) [[85, 78, 84, 73, 76], [65, 71, 65, 73, 78], [87, 72, 73, 76, 69]]).1 [[82, 69, 80, 69, 65, 84]]
 have ho := hb.o0
 have ho1 := hb.o1
 have w1 : IntKind.i64.wrap ((bodyP (rowR (readerS v)) (opensP s) [[85, 78, 84, 73, 76], [65, 71, 65, 73, 78], [87, 72, 73, 76, 69]]).1.opn - 1) = (bodyP (rowR (readerS v)) (opensP s) [[85, 78, 84, 73, 76], [65, 71, 65, 73, 78], [87, 72, 73, 76, 69]]).1.opn - 1 := i64_ok2 (by rw [k1.1, k0.1]; omega) (by rw [k1.1, k0.1]; omega)
 have w2 : IntKind.i64.wrap ((bodyP (rowR (readerS v)) (bodyP (rowR (readerS v)) (opensP s) [[85, 78, 84, 73, 76], [65, 71, 65, 73, 78], [87, 72, 73, 76, 69]]).1 [[82, 69, 80, 69, 65, 84]]).1.opn - 1) = (bodyP (rowR (readerS v)) (bodyP (rowR (readerS v)) (opensP s) [[85, 78, 84, 73, 76], [65, 71, 65, 73, 78], [87, 72, 73, 76, 69]]).1 [[82, 69, 80, 69, 65, 84]]).1.opn - 1 := i64_ok2 (by rw [k2.1, k1.1, k0.1]; omega) (by rw [k2.1, k1.1, k0.1]; omega)
 refine mut_of_W tG (rs := [.cell 2 62]) Try.func56 rfl rfl rfl (by simp) (by simp) (by simp) (by simp) (fun B => ?_)
 refine zu1 ?_
 refine zp1 ?_
 refine zc rfl Try.func85 ((rd_opens v ws s ho (by omega)) _ _ rfl) ?_
 refine Wn ?_
 refine zp2 ?_
 refine Wa 10 rfl (bsL cStr [_, _, _] rfl rfl) ?_
 refine zc rfl Try.func86 ((rd_body v ws (opensP s) [[85, 78, 84, 73, 76], [65, 71, 65, 73, 78], [87, 72, 73, 76, 69]] (by decide) (hrow _ (by rw [k0.2.2]; exact List.suffix_refl _) b0)) _ _ rfl) ?_
 refine zs5 ?_
 refine zu4 ?_
 refine Ws ?_
 refine zu1 ?_
 refine Wl ?_
 refine zp1 ?_
 refine zq 18 ?_
 refine zs1 ?_
 refine Wi rfl (fun hi1 => ?_) (fun hi1 => ?_)
 ·have q1 : (bodyP (rowR (readerS v)) (opensP s) [[85, 78, 84, 73, 76], [65, 71, 65, 73, 78], [87, 72, 73, 76, 69]]).2.2 = [65, 71, 65, 73, 78] := oT hi1
  refine W_region rfl ?_
  refine zs2 ?_
  refine zp5 ?_
  refine Wa 34 rfl (congrArg (fun z => PV.val (Value.int .i64 z)) (by exact w1)) ?_
  refine zs3 ?_
  refine zu2 ?_
  refine Wq ?_
  refine leafM rfl rfl ?_ ?_
  ·(rw [begin_a q1]; exact node_eq _ _ _ [])
  ·(rw [begin_a q1]; rfl)
 ·have q1 : ¬ (bodyP (rowR (readerS v)) (opensP s) [[85, 78, 84, 73, 76], [65, 71, 65, 73, 78], [87, 72, 73, 76, 69]]).2.2 = [65, 71, 65, 73, 78] := oF hi1
  refine zp1 ?_
  refine zq 21 ?_
  refine zs1 ?_
  refine Wi rfl (fun hi2 => ?_) (fun hi2 => ?_)
  ·have q2 : (bodyP (rowR (readerS v)) (opensP s) [[85, 78, 84, 73, 76], [65, 71, 65, 73, 78], [87, 72, 73, 76, 69]]).2.2 = [87, 72, 73, 76, 69] := oT hi2
   refine zu2 ?_
   refine W_region rfl ?_
   refine zy2 ?_
   refine Wa 25 rfl (bsL cStr [_] rfl rfl) ?_
   refine zc rfl Try.func86 ((rd_body v ws _ [[82, 69, 80, 69, 65, 84]] (by decide) (hrow _ s1 b1)) _ _ rfl) ?_
   refine zs5 ?_
   refine zp5 ?_
   refine Wa 34 rfl (congrArg (fun z => PV.val (Value.int .i64 z)) (by exact w2)) ?_
   refine zs3 ?_
   refine zu2 ?_
   refine Wq ?_
   refine leafM rfl rfl ?_ ?_
   ·(rw [begin_w q1 q2]; exact node_eq _ _ _ _)
   ·(rw [begin_w q1 q2]; rfl)
  ·have q2 : ¬ (bodyP (rowR (readerS v)) (opensP s) [[85, 78, 84, 73, 76], [65, 71, 65, 73, 78], [87, 72, 73, 76, 69]]).2.2 = [87, 72, 73, 76, 69] := oF hi2
   refine Wj ?_
   refine zp5 ?_
   refine Wa 34 rfl (congrArg (fun z => PV.val (Value.int .i64 z)) (by exact w1)) ?_
   refine zs3 ?_
   refine zu2 ?_
   refine Wq ?_
   refine leafM rfl rfl ?_ ?_
   ·(rw [begin_u q1 q2]; exact node_eq _ _ _ [])
   ·(rw [begin_u q1 q2]; rfl)
theorem rd_loop (ask : Int) : ∀ (H : List Ob) (i : Nat), H[i]? = some (.cells (cRd v ws s) 66) → HC Try.prog 87 (.ptr i 0 :: [i64 ask]) H (eNode (loopN (rowR (readerS v)) ask s).2) (H.set i (.cells (cRd v ws (loopN (rowR (readerS v)) ask s).1) 66)) := by
 have k0 := opens_keeps s
 have b0 := hb.opens
 have hl0 := hb.l0
 have hl1 := hb.l1
 have eI : (inLp s).rest.length = s.rest.length := by rw [show (inLp s).rest = s.rest from k0.2.2]
 have eL : (inLp s).loops = s.loops + 1 := by show (opensP s).loops + 1 = _; rw [k0.2.1]
 have bI : Bd 0 (inLp s) := ⟨b0.o0, by rw [eL]; omega, b0.o1, by rw [eL, eI]; omega⟩
 have k1 := body_keeps v (inLp s) [[76, 79, 79, 80], [43, 76, 79, 79, 80]]
 have ho := hb.o0
 have ho1 := hb.o1
 have e1 : (bodyP (rowR (readerS v)) (inLp s) [[76, 79, 79, 80], [43, 76, 79, 79, 80]]).1.opn = s.opn + 1 := by rw [k1.1]; exact k0.1
 have e2 : (bodyP (rowR (readerS v)) (inLp s) [[76, 79, 79, 80], [43, 76, 79, 79, 80]]).1.loops = s.loops + 1 := by rw [k1.2]; show (opensP s).loops + 1 = _; rw [k0.2.1]
 have w0 : IntKind.i64.wrap ((opensP s).loops + 1) = (opensP s).loops + 1 := i64_ok2 (by rw [k0.2.1]; omega) (by rw [k0.2.1]; omega)
 have w1 : IntKind.i64.wrap ((bodyP (rowR (readerS v)) (inLp s) [[76, 79, 79, 80], [43, 76, 79, 79, 80]]).1.opn - 1) = (bodyP (rowR (readerS v)) (inLp s) [[76, 79, 79, 80], [43, 76, 79, 79, 80]]).1.opn - 1 := i64_ok2 (by rw [e1]; omega) (by rw [e1]; omega)
 have w2 : IntKind.i64.wrap ((bodyP (rowR (readerS v)) (inLp s) [[76, 79, 79, 80], [43, 76, 79, 79, 80]]).1.loops - 1) = (bodyP (rowR (readerS v)) (inLp s) [[76, 79, 79, 80], [43, 76, 79, 79, 80]]).1.loops - 1 := i64_ok2 (by rw [e2]; omega) (by rw [e2]; omega)
 refine mut_of_W tG (rs := [.cell 4 62]) Try.func87 rfl rfl rfl (by simp) (by simp) (by simp) (by simp) (fun B => ?_)
 refine zu1 ?_
 refine zp1 ?_
 refine zc rfl Try.func85 ((rd_opens v ws s ho (by omega)) _ _ rfl) ?_
 refine Wn ?_
 refine zp5 ?_
 refine Wa 14 rfl (congrArg (fun z => PV.val (Value.int .i64 z)) w0) ?_
 refine zs3 ?_
 refine zp2 ?_
 refine Wa 19 rfl (bsL cStr [_, _] rfl rfl) ?_
 refine zc rfl Try.func86 ((rd_body v ws (inLp s) [[76, 79, 79, 80], [43, 76, 79, 79, 80]] (by decide) (hrow _ (by rw [show (inLp s).rest = s.rest from k0.2.2]; exact List.suffix_refl _) bI)) _ _ rfl) ?_
 refine zs5 ?_
 refine zu5 ?_
 refine Ws ?_
 refine zp2 ?_
 refine zq 27 ?_
 refine Wn ?_
 refine Wi rfl (fun hi1 => ?_) (fun hi1 => ?_)
 ·have q : (bodyP (rowR (readerS v)) (inLp s) [[76, 79, 79, 80], [43, 76, 79, 79, 80]]).2.2 = [43, 76, 79, 79, 80] := oT hi1
  refine W_region rfl ?_
  refine zs2 ?_
  refine zp5 ?_
  refine Wa 33 rfl (congrArg (fun z => PV.val (Value.int .i64 z)) w2) ?_
  refine zs3 ?_
  refine zp5 ?_
  refine Wa 40 rfl (congrArg (fun z => PV.val (Value.int .i64 z)) w1) ?_
  refine zs3 ?_
  refine zu2 ?_
  refine Wq ?_
  refine leafM rfl rfl ?_ ?_
  ·(rw [loopN_y q]; exact node_eq _ _ _ [])
  ·rfl
 ·have q : ¬ (bodyP (rowR (readerS v)) (inLp s) [[76, 79, 79, 80], [43, 76, 79, 79, 80]]).2.2 = [43, 76, 79, 79, 80] := oF hi1
  refine Wj ?_
  refine zp5 ?_
  refine Wa 33 rfl (congrArg (fun z => PV.val (Value.int .i64 z)) w2) ?_
  refine zs3 ?_
  refine zp5 ?_
  refine Wa 40 rfl (congrArg (fun z => PV.val (Value.int .i64 z)) w1) ?_
  refine zs3 ?_
  refine zu2 ?_
  refine Wq ?_
  refine leafM rfl rfl ?_ ?_
  ·(rw [loopN_n q]; exact node_eq _ _ _ [])
  ·rfl
theorem rd_do : ∀ (H : List Ob) (i : Nat), H[i]? = some (.cells (cRd v ws s) 66) → HC Try.prog 57 (.ptr i 0 :: []) H (eNode (loopN (rowR (readerS v)) 0 s).2) (H.set i (.cells (cRd v ws (loopN (rowR (readerS v)) 0 s).1) 66)) := by
 refine mut_of_W tG (rs := [.cell 2 62]) Try.func57 rfl rfl rfl (by simp) (by simp) (by simp) (by simp) (fun B => ?_)
 refine zu1 ?_
 refine zp1 ?_
 refine zc rfl Try.func87 ((rd_loop v ws s hb hrow 0) _ _ rfl) ?_
 refine zs1 ?_
 refine Wq ?_
 refine leafM rfl rfl ?_ ?_
 ·rfl
 ·rfl
theorem rd_ask : ∀ (H : List Ob) (i : Nat), H[i]? = some (.cells (cRd v ws s) 66) → HC Try.prog 58 (.ptr i 0 :: []) H (eNode (loopN (rowR (readerS v)) 1 s).2) (H.set i (.cells (cRd v ws (loopN (rowR (readerS v)) 1 s).1) 66)) := by
 refine mut_of_W tG (rs := [.cell 2 62]) Try.func58 rfl rfl rfl (by simp) (by simp) (by simp) (by simp) (fun B => ?_)
 refine zu1 ?_
 refine zp1 ?_
 refine zc rfl Try.func87 ((rd_loop v ws s hb hrow 1) _ _ rfl) ?_
 refine zs1 ?_
 refine Wq ?_
 refine leafM rfl rfl ?_ ?_
 ·rfl
 ·rfl
end
end Go.Proofs.Ytlponhgbbfgkgaa
namespace Go.Proofs.Ytlponhgbbfgkgaa
open Go.RowKit
set_option maxRecDepth 100000
set_option maxHeartbeats 8000000
def tabK : List MKey := [.s [73, 70], .s [66, 69, 71, 73, 78], .s [68, 79], .s [63, 68, 79], .s [76, 69, 65, 86, 69], .s [69, 88, 73, 84], .s [82, 69, 67, 85, 82, 83, 69], .s [91, 67, 72, 65, 82, 93], .s [91, 39, 93]]
def tabV (x : PV) : List PV := [.fn (.func 55) [x] [], .fn (.func 56) [x] [], .fn (.func 57) [x] [], .fn (.func 58) [x] [], .fn (.func 59) [x] [], .fn (.func 60) [x] [], .fn (.func 61) [x] [], .fn (.func 62) [x] [], .fn (.func 63) [x] []]
theorem flat_tab (p : Value) : Flat (.smap tabK (tabV (.val p))) := by
 unfold Flat tabV
 simp [FlatL, Flat]
theorem rd_table0 (p : Value) : PureC Try.prog 37 [.val p] (.smap tabK (tabV (.val p))) := by
 refine pW tG (rs := [.tmp 2]) Try.func37 rfl rfl rfl (by (simp [FlatL, Flat]; done)) (by exact flat_tab p) (fun B => ?_)
 refine zu1 ?_
 refine z8 ?_
 refine Wd rfl rfl (does_makeMap rfl) ?_
 refine zy2 ?_
 refine Wd rfl rfl (dI (e := 95) (key := .s [73, 70]) (by kernel_rfl) rfl rfl rfl rfl (by kernel_rfl)) ?_
 refine zy2 ?_
 refine Wd rfl rfl (dI (e := 95) (key := .s [66, 69, 71, 73, 78]) (by kernel_rfl) rfl rfl rfl rfl (by kernel_rfl)) ?_
 refine zy2 ?_
 refine Wd rfl rfl (dI (e := 95) (key := .s [68, 79]) (by kernel_rfl) rfl rfl rfl rfl (by kernel_rfl)) ?_
 refine zy2 ?_
 refine Wd rfl rfl (dI (e := 95) (key := .s [63, 68, 79]) (by kernel_rfl) rfl rfl rfl rfl (by kernel_rfl)) ?_
 refine zy2 ?_
 refine Wd rfl rfl (dI (e := 95) (key := .s [76, 69, 65, 86, 69]) (by kernel_rfl) rfl rfl rfl rfl (by kernel_rfl)) ?_
 refine zy2 ?_
 refine Wd rfl rfl (dI (e := 95) (key := .s [69, 88, 73, 84]) (by kernel_rfl) rfl rfl rfl rfl (by kernel_rfl)) ?_
 refine zy2 ?_
 refine Wd rfl rfl (dI (e := 95) (key := .s [82, 69, 67, 85, 82, 83, 69]) (by kernel_rfl) rfl rfl rfl rfl (by kernel_rfl)) ?_
 refine zy2 ?_
 refine Wd rfl rfl (dI (e := 95) (key := .s [91, 67, 72, 65, 82, 93]) (by kernel_rfl) rfl rfl rfl rfl (by kernel_rfl)) ?_
 refine zy2 ?_
 refine Wd rfl rfl (dI (e := 95) (key := .s [91, 39, 93]) (by kernel_rfl) rfl rfl rfl rfl (by kernel_rfl)) ?_
 refine z1 ?_
 refine WO_freezeM 22 _ rfl rfl rfl ?_
 refine zs1 ?_
 refine zR ?_
 rfl
theorem repL_tab {c : Cx} {p : Value} {x : PV} (hx : ∀ u, u = p → Rep c x u) : ∀ {l : List FuncId} {vs : List Value}, RepL c (l.map fun f => .fn (.func f) [.val p] []) vs → RepL c (l.map fun f => .fn (.func f) [x] []) vs
 | [], vs, h => h
 | f :: l, vs, h => by
  rw [List.map_cons] at h ⊢
  unfold RepL at h ⊢
  obtain ⟨u, us, rfl, h1, h2⟩ := h
  refine ⟨u, us, rfl, ?_, repL_tab hx h2⟩
  unfold Rep at h1 ⊢
  obtain ⟨fs, cs, rfl, h3, h4⟩ := h1
  unfold RepL at h3
  obtain ⟨a, ar, rfl, h5, h6⟩ := h3
  unfold Rep at h5
  exact ⟨a :: ar, cs, rfl, repL_cons.2 ⟨hx a h5, h6⟩, h4⟩
theorem rd_table (i : Nat) (H : List Ob) : HC Try.prog 37 [.ptr i 0] H (.smap tabK (tabV (.ptr i 0))) H := by
 intro B σ w vs s hr
 match vs, hr with
 | [v0], hr =>
  have h0 := (repL_cons.1 hr).1
  refine Calls.mono (rd_table0 v0 H B σ w [v0] s (repL_cons.2 ⟨rep_val _ _, repL_nil.2 rfl⟩)) ?_
  rintro e w' ⟨u, σ', rfl, h1, h2, h3⟩
  refine ⟨u, σ', rfl, ?_, h2, h3⟩
  unfold Rep at h0 h1 ⊢
  obtain ⟨b, es, clk, rfl, k1, k2, k3, k4⟩ := h1
  refine ⟨b, es, clk, rfl, k1, k2, k3, ?_⟩
  exact repL_tab (l := [55, 56, 57, 58, 59, 60, 61, 62, 63]) (x := .ptr i 0) (fun u hu => by
   obtain ⟨hi, b0, hσ, hv⟩ := h0
   unfold Rep
   refine ⟨hi, b0, ?_, by rw [hu, hv]⟩
   have := h3.le.σ i hi
   simp only [cx] at this ⊢
   rw [this]; exact hσ) k4
def loopF (R : Rdr) (s : PSt) (acc : List VNode) : PRes := loopP R (s.rest.length + 1) s acc
theorem lf_bad {R : Rdr} {s : PSt} {acc : List VNode} (h : s.bad ≠ 0) : loopF R s acc = (s, [], []) := loopP_bad R _ acc h
theorem lf_nil {R : Rdr} {s : PSt} {acc : List VNode} (h : s.bad = 0) (hr : s.rest = []) : loopF R s acc = (s, acc, []) := by
 unfold loopF; rw [loopP, if_neg (fun k => k h), hr]
theorem fail_rest (s : PSt) (e : Int) : (s.fail e).rest = s.rest := (fail_o s e).2.2
theorem lf_part {R : Rdr} {s : PSt} {acc : List VNode} {w : Str} {r : List Str} (h : s.bad = 0) (hr : s.rest = w :: r) (hp : (R.rd w s.loops).2.1 = []) :
  loopF R s acc = loopF R (({ s with rest := r } : PSt).fail (R.rd w s.loops).1) (acc ++ [(R.rd w s.loops).2.2]) := by
 unfold loopF
 rw [fail_rest, hr, loopP, if_neg (fun k => k h), hr]
 dsimp only
 rw [if_pos hp]; rfl
theorem row_same {R : Rdr} (hR : RdOk R) (m : Nat) {s1 : PSt} (h : s1.rest.length < m) : loopP R m s1 [] = rowR R s1 := loop_fuel hR m _ s1 [] h (Nat.lt_succ_self _)
theorem on_same {R : Rdr} (hR : RdOk R) (sp : Str) (s : PSt) (m : Nat) (h : s.rest.length < m) : onP R (fun s => loopP R m s []) sp s = onP R (rowR R) sp s :=
 on_fuel (fun s1 h1 => ⟨row_same hR m (by omega), (loop_suf R m s1 []).length_le⟩) sp
theorem lf_end {R : Rdr} (hR : RdOk R) {s : PSt} {acc : List VNode} {w : Str} {r : List Str} (h : s.bad = 0) (hr : s.rest = w :: r) (hp : (R.rd w s.loops).2.1 ≠ []) (ho : onP R (rowR R) (R.rd w s.loops).2.1 (({ s with rest := r } : PSt).fail (R.rd w s.loops).1) = none) :
  loopF R s acc = (({ s with rest := r } : PSt).fail (R.rd w s.loops).1, acc, (R.rd w s.loops).2.1) := by
 unfold loopF
 rw [hr, loopP, if_neg (fun k => k h), hr]
 dsimp only
 rw [if_neg hp, on_same hR _ _ _ (by rw [fail_rest]; show r.length < (w :: r).length; simp), ho]
theorem lf_on {R : Rdr} (hR : RdOk R) {s : PSt} {acc : List VNode} {w : Str} {r : List Str} (h : s.bad = 0) (hr : s.rest = w :: r) (hp : (R.rd w s.loops).2.1 ≠ []) {q : PSt × VNode} (ho : onP R (rowR R) (R.rd w s.loops).2.1 (({ s with rest := r } : PSt).fail (R.rd w s.loops).1) = some q) :
  loopF R s acc = loopF R q.1 (acc ++ [q.2]) := by
 have hs : q.1.rest.length ≤ r.length := by
  have := (on_suf (rowR_suf R) ho).length_le
  rw [fail_rest] at this; exact this
 have e : loopF R s acc = loopP R (w :: r).length q.1 (acc ++ [q.2]) := by
  unfold loopF
  rw [hr, loopP, if_neg (fun k => k h), hr]
  dsimp only
  rw [if_neg hp, on_same hR _ _ _ (by rw [fail_rest]; show r.length < (w :: r).length; simp), ho]
 rw [e]
 exact loop_fuel hR _ _ _ _ (by rw [List.length_cons]; omega) (Nat.lt_succ_self _)
theorem lk_s {a k : Str} {ks : List MKey} {x : PV} {xs : List PV} {z : PV} : lkPV (.s a :: ks) (x :: xs) (.s k) z = if k = a then (x, true) else lkPV ks xs (.s k) z := by
 rw [lkPV]
 by_cases h : k = a
 ·subst h; rw [if_pos rfl, if_pos rfl]
 ·rw [if_neg (fun e => h (MKey.s.inj e).symm), if_neg h]
theorem lk_nil {k : MKey} {z : PV} : lkPV [] [] k z = (z, false) := by unfold lkPV; rfl
def OnAt (v : VVm) (ws : List Str) (s : PSt) (f : FuncId) (q : PSt × VNode) : Prop := ∀ (H : List Ob) (i : Nat), H[i]? = some (.cells (cRd v ws s) 66) →
 Callable Try.prog f [.ptr i 0] H (eNode q.2) (H.set i (.cells (cRd v ws q.1) 66))
theorem on_keeps {v : VVm} {sp : Str} {s : PSt} {q : PSt × VNode} (b : s.bad = 0) (h : onP (readerS v) (rowR (readerS v)) sp s = some q) : q.1.opn = s.opn ∧ q.1.loops = s.loops := by
 have e := on_same (readerS_ok v) sp s (s.rest.length + 1) (Nat.lt_succ_self _)
 rw [← e] at h
 have hrow : RowT (fun t => loopP (readerS v) (s.rest.length + 1) t []) (fun e o l t => rowD (readerS v) (s.rest.length + 1) e o l t []) := ⟨fun t ends he => loop_twin _ (readerS_ok v).bad _ t [] ends he, fun t h => loopP_bad _ _ [] h, fun ends o l t h => rowD_bad _ _ ends o l [] h⟩
 have t := part_twin (readerS v) hrow b sp h
 exact ⟨t.o, t.l⟩
structure WsOk (ws : List Str) : Prop where
 len : ws.length ≤ 1000000
 each : ∀ w ∈ ws, w.length ≤ 9223372036854775807
theorem WsOk.name {ws : List Str} (h : WsOk ws) {s : PSt} (hs : s.rest <:+ ws) : (nameP s).2.length ≤ 9223372036854775807 := by
 unfold nameP
 cases hr : s.rest with
 | nil => show (0 : Nat) ≤ _; omega
 | cons w r => exact h.each w (hs.subset (by rw [hr]; simp))
theorem tab_cases (v : VVm) (ws : List Str) (s : PSt) (hv : VRd v) (hw : WsOk ws) (hs : s.rest <:+ ws) (hb : Bd 1 s) (hrow : ∀ t : PSt, t.rest <:+ s.rest → Bd 0 t → RowWs v ws t) (sp : Str) :
  (∃ f p, lkPV tabK (tabV (.ptr 0 0)) (.s sp) (.val .nilFunc) = (.fn (.func f) [.ptr 0 0] [], true) ∧ onP (readerS v) (rowR (readerS v)) sp s = some p ∧ OnAt v ws s f p) ∨
  (lkPV tabK (tabV (.ptr 0 0)) (.s sp) (.val .nilFunc) = (.val .nilFunc, false) ∧ onP (readerS v) (rowR (readerS v)) sp s = none) := by
 by_cases c0 : sp = [73, 70]
 ·exact .inl ⟨55, _, by unfold tabK tabV; rw [lk_s, if_pos c0], by unfold onP; rw [if_pos c0], fun H i hi => ⟨⟨_, Try.func55, rfl, rfl⟩, rd_if v ws s hb hrow H i hi⟩⟩
 by_cases c1 : sp = [66, 69, 71, 73, 78]
 ·exact .inl ⟨56, _, by unfold tabK tabV; rw [lk_s, if_neg c0, lk_s, if_pos c1], by unfold onP; rw [if_neg c0, if_pos c1], fun H i hi => ⟨⟨_, Try.func56, rfl, rfl⟩, rd_begin v ws s hb hrow H i hi⟩⟩
 by_cases c2 : sp = [68, 79]
 ·exact .inl ⟨57, _, by unfold tabK tabV; rw [lk_s, if_neg c0, lk_s, if_neg c1, lk_s, if_pos c2], by unfold onP; rw [if_neg c0, if_neg c1, if_pos c2], fun H i hi => ⟨⟨_, Try.func57, rfl, rfl⟩, rd_do v ws s hb hrow H i hi⟩⟩
 by_cases c3 : sp = [63, 68, 79]
 ·exact .inl ⟨58, _, by unfold tabK tabV; rw [lk_s, if_neg c0, lk_s, if_neg c1, lk_s, if_neg c2, lk_s, if_pos c3], by unfold onP; rw [if_neg c0, if_neg c1, if_neg c2, if_pos c3], fun H i hi => ⟨⟨_, Try.func58, rfl, rfl⟩, rd_ask v ws s hb hrow H i hi⟩⟩
 by_cases c4 : sp = [76, 69, 65, 86, 69]
 ·exact .inl ⟨59, _, by unfold tabK tabV; rw [lk_s, if_neg c0, lk_s, if_neg c1, lk_s, if_neg c2, lk_s, if_neg c3, lk_s, if_pos c4], by unfold onP; rw [if_neg c0, if_neg c1, if_neg c2, if_neg c3, if_pos c4], fun H i hi => ⟨⟨_, Try.func59, rfl, rfl⟩, rd_leave v ws s H i hi⟩⟩
 by_cases c5 : sp = [69, 88, 73, 84]
 ·exact .inl ⟨60, _, by unfold tabK tabV; rw [lk_s, if_neg c0, lk_s, if_neg c1, lk_s, if_neg c2, lk_s, if_neg c3, lk_s, if_neg c4, lk_s, if_pos c5], by unfold onP; rw [if_neg c0, if_neg c1, if_neg c2, if_neg c3, if_neg c4, if_pos c5], fun H i hi => ⟨⟨_, Try.func60, rfl, rfl⟩, rd_exit v ws s H i hi⟩⟩
 by_cases c6 : sp = [82, 69, 67, 85, 82, 83, 69]
 ·exact .inl ⟨61, _, by unfold tabK tabV; rw [lk_s, if_neg c0, lk_s, if_neg c1, lk_s, if_neg c2, lk_s, if_neg c3, lk_s, if_neg c4, lk_s, if_neg c5, lk_s, if_pos c6], by unfold onP; rw [if_neg c0, if_neg c1, if_neg c2, if_neg c3, if_neg c4, if_neg c5, if_pos c6], fun H i hi => ⟨⟨_, Try.func61, rfl, rfl⟩, rd_self v ws s H i hi⟩⟩
 by_cases c7 : sp = [91, 67, 72, 65, 82, 93]
 ·exact .inl ⟨62, _, by unfold tabK tabV; rw [lk_s, if_neg c0, lk_s, if_neg c1, lk_s, if_neg c2, lk_s, if_neg c3, lk_s, if_neg c4, lk_s, if_neg c5, lk_s, if_neg c6, lk_s, if_pos c7], by unfold onP; rw [if_neg c0, if_neg c1, if_neg c2, if_neg c3, if_neg c4, if_neg c5, if_neg c6, if_pos c7], fun H i hi => ⟨⟨_, Try.func62, rfl, rfl⟩, rd_char v ws s hs hw.len H i hi⟩⟩
 by_cases c8 : sp = [91, 39, 93]
 ·exact .inl ⟨63, _, by unfold tabK tabV; rw [lk_s, if_neg c0, lk_s, if_neg c1, lk_s, if_neg c2, lk_s, if_neg c3, lk_s, if_neg c4, lk_s, if_neg c5, lk_s, if_neg c6, lk_s, if_neg c7, lk_s, if_pos c8], by unfold onP; rw [if_neg c0, if_neg c1, if_neg c2, if_neg c3, if_neg c4, if_neg c5, if_neg c6, if_neg c7, if_pos c8], fun H i hi => ⟨⟨_, Try.func63, rfl, rfl⟩, rd_tick v ws s hv hs hw.len (hw.name hs) H i hi⟩⟩
 exact .inr ⟨by unfold tabK tabV; rw [lk_s, if_neg c0, lk_s, if_neg c1, lk_s, if_neg c2, lk_s, if_neg c3, lk_s, if_neg c4, lk_s, if_neg c5, lk_s, if_neg c6, lk_s, if_neg c7, lk_s, if_neg c8, lk_nil], by unfold onP; rw [if_neg c0, if_neg c1, if_neg c2, if_neg c3, if_neg c4, if_neg c5, if_neg c6, if_neg c7, if_neg c8]⟩
theorem Bd.down {s : PSt} (h : Bd 1 s) : Bd 0 s := ⟨h.o0, h.l0, by have := h.o1; omega, by have := h.l1; omega⟩
theorem row_c (v : VVm) (ws : List Str) (hv : VRd v) (hw : WsOk ws) : ∀ (n : Nat) (s : PSt), s.rest.length < n → s.rest <:+ ws → Bd 0 s → RowWs v ws s := by
 intro n
 induction n with
 | zero => intro s h; omega
 | succ n ih =>
  intro s hn hs hB
  have hR := readerS_ok v
  unfold RowWs
  obtain ⟨RES, hRES⟩ : ∃ RES, rowR (readerS v) s = RES := ⟨_, rfl⟩
  have h0 : loopF (readerS v) s [] = RES := hRES
  rw [hRES]
  refine mut_of_W tG (rs := [.tmp 2, .tmp 3]) Try.func20 rfl rfl rfl (by simp [FlatL]) (by simp) (by simp) (by simp) (fun B => ?_)
  refine zu2 ?_
  refine zp1 ?_
  (refine WO_own 4 0 4 rfl rfl ?_)
  refine Wn ?_
  refine Ws ?_
  refine Wl ?_
  show W _ _ _ _ _ _ _
  refine W_loopS (fun (x : (PSt × List VNode)) => [(0, .ptr 0 0), (4, .seq x.2.length (x.2.flatMap cNode) (.own 2 4))]) (fun (x : (PSt × List VNode)) => [.cells (cRd v ws x.1) 66, .dead]) (fun (x : (PSt × List VNode)) => [.free (x.2.length * 4)]) (fun (x : (PSt × List VNode)) => loopF (readerS v) x.1 x.2 = RES ∧ x.1.rest <:+ s.rest ∧ Bd 0 x.1 ∧ x.2.length + x.1.rest.length ≤ 1000000) (fun (x : (PSt × List VNode)) => x.1.rest.length) ((s, [])) (by exact ⟨h0, List.suffix_refl _, hB, by have := hB.o1; have := hB.o0; simp only [List.length_nil]; omega⟩) [1] ?_ ?_
  ·exact fitT
  ·intro x hx
   refine Ws ?_
   refine zu5 ?_
   refine Wi rfl (fun hi1 => ?_) (fun hi1 => ?_)
   ·have q1 : x.1.bad = 0 := by simpa using hi1
    refine Wj ?_
    refine Wl ?_
    refine zp1 ?_
    refine zc rfl Try.func35 ((rd_next v ws x.1 (hx.2.1.trans hs) hw.len) _ _ rfl) ?_
    refine zs5 ?_
    refine Ws ?_
    refine zu2 ?_
    refine Wi rfl (fun hi2 => ?_) (fun hi2 => ?_)
    ·have hr : x.1.rest = [] := by
      cases hr : x.1.rest with
      | nil => rfl
      | cons w r => rw [next_cons hr] at hi2; cases hi2
     have en := next_nil hr
     have eE : RES = (x.1, x.2, []) := by rw [← hx.1]; exact lf_nil q1 hr
     refine zu3 ?_
     refine Wq ?_
     refine leafM rfl rfl ?_ ?_
     ·(rw [eE]; rfl)
     ·(rw [eE, en]; rfl)
    ·obtain ⟨w, r, hr⟩ : ∃ w r, x.1.rest = w :: r := by
      cases hr : x.1.rest with
      | nil => rw [next_nil hr] at hi2; cases hi2
      | cons w r => exact ⟨w, r, rfl⟩
     have en := next_cons hr
     have hsw : (w :: r) <:+ ws := hr ▸ (hx.2.1.trans hs)
     have hwl : w.length ≤ 9223372036854775807 := hw.each w (hsw.subset (by simp))
     have hsr : r <:+ ws := (List.suffix_cons w r).trans hsw
     have hrl : x.1.rest.length = r.length + 1 := by rw [hr]; rfl
     have hsr2 : r <:+ s.rest := (List.suffix_cons w r).trans (hr ▸ hx.2.1)
     have hnl : r.length < n := by have := hx.2.1.length_le; omega
     obtain ⟨s1, hs1⟩ : ∃ s1 : PSt, ({ x.1 with rest := r } : PSt) = s1 := ⟨_, rfl⟩
     have e1r : s1.rest = r := by rw [← hs1]
     have e1o : s1.opn = x.1.opn := by rw [← hs1]
     have e1l : s1.loops = x.1.loops := by rw [← hs1]
     have e1b : s1.bad = 0 := by rw [← hs1]; exact q1
     obtain ⟨rr, hrr⟩ : ∃ rr, rdS v w s1.loops = rr := ⟨_, rfl⟩
     have p2 := rd_read v ws s1 hv w hwl
     rw [hrr] at p2
     have hrd : (readerS v).rd w x.1.loops = rr := by rw [← e1l]; exact hrr
     have hb2 := hR.bad w x.1.loops
     rw [hrd] at hb2
     have bF : Bd 1 (s1.fail rr.1) := ⟨by rw [(fail_o _ _).1, e1o]; exact hx.2.2.1.o0, by rw [(fail_o _ _).2.1, e1l]; exact hx.2.2.1.l0, by rw [(fail_o _ _).1, (fail_o _ _).2.2, e1o, e1r]; have := hx.2.2.1.o1; omega, by rw [(fail_o _ _).2.1, (fail_o _ _).2.2, e1l, e1r]; have := hx.2.2.1.l1; omega⟩
     have eF : (s1.fail rr.1).rest = r := by rw [(fail_o _ _).2.2, e1r]
     have lp := lf_part (R := readerS v) (acc := x.2) q1 hr
     have le := lf_end (acc := x.2) hR q1 hr
     have lo := fun q => lf_on (acc := x.2) hR q1 hr (q := q)
     rw [hrd, hs1] at lp le lo
     refine W_ob (H' := [.cells (cRd v ws s1) 66, .dead, .free (x.2.length * 4)]) (by rw [en, ← hs1]) ?_
     refine W_as 5 rfl (congrArg (fun z : PSt × Str × Bool => str z.2.1) en) ?_
     refine Wj ?_
     refine zp2 ?_
     refine zc rfl Try.func36 ((p2) _ _ rfl) ?_
     refine zs2 ?_
     refine Ws ?_
     refine zp3 ?_
     refine zq 28 ?_
     refine Wn ?_
     refine Wi rfl (fun hi3 => ?_) (fun hi3 => ?_)
     ·have q3 : rr.2.1 = [] := oT hi3
      refine zp4 ?_
      refine Wa 32 rfl ((show _ = PV.seq (List.length [rr.2.2]) (List.flatMap cNode [rr.2.2]) .clip from rfl)) ?_
      refine Wd rfl rfl (does_append_own (lO tG rfl) rfl (lO tG rfl) (lO tG rfl) rfl rfl rfl rfl (by simp) (by exact ⟨_, rfl⟩) (by exact ⟨rfl, rfl, flatMap_len _ 4 (fun _ => rfl) _, okC_flat _ (fun _ => rfl) _⟩) (by ((simp_all; omega))) (by ((simp_all; omega)))) ?_
      refine Wa 33 rfl (sq_append cNode) ?_
      refine z1 ?_
      skip
      refine Wn ?_
      refine W_exit ?_
      exact ⟨(s1.fail rr.1, x.2 ++ [rr.2.2]), [4], (by exact ⟨(lp q3).symm.trans hx.1, by rw [eF]; exact hsr2, bF.down, by rw [eF, List.length_append]; have := hx.2.2.2; rw [hrl] at this; simp; omega⟩), (by show (s1.fail rr.1).rest.length < _; rw [eF, hrl]; omega), fitT⟩
     ·have q3 : ¬ rr.2.1 = [] := oF hi3
      have b3 : (s1.fail rr.1).bad = 0 := by rw [fail0 e1b]; exact Decidable.byContradiction fun k => q3 (hb2 k)
      have hT := tab_cases v ws (s1.fail rr.1) hv hw (by rw [eF]; exact hsr) bF (fun t h1 h2 => ih t (by have := h1.length_le; rw [eF] at this; omega) (h1.trans (by rw [eF]; exact hsr)) h2) rr.2.1
      refine Wj ?_
      refine Ws ?_
      refine W_drawU [0, 0, 0, 1, 0, 0, 0, 0, 0, 0] [0, 1, 2, 3, 4, 5, 6, 7, 8, 9] mG rfl (by kernel_rfl) ?_
      refine z3 ?_
      refine Xc rfl rfl rfl rfl (fun _ => dC rfl Try.func37 rfl rfl ((rd_table 0) _)) ?_
      refine z3 ?_
      refine z5 ?_
      rcases hT with ⟨f, p, hlk, hon, hc⟩ | ⟨hlk, hno⟩
      ·refine WU_does0 rfl rfl rfl rfl (fun _ => does_lookup (b := true) (e := 95) (key := .s rr.2.1) (by kernel_rfl) (lO tG rfl) (by kernel_rfl) rfl rfl rfl rfl (by kernel_rfl) (hlk)) ?_
       iterate 5 refine z3 ?_
       refine WU_nil ?_
       refine Ws ?_
       refine zu2 ?_
       refine Wf rfl (by rfl) ?_
       refine Wj ?_
       refine W_region rfl ?_
       refine z1 ?_
       have ok := on_keeps b3 hon
       have os0 := on_suf (rowR_suf (readerS v)) hon
       have os := os0
       rw [eF] at os
       refine z1 ?_
       refine Wc rfl rfl (doesCWs rfl rfl (hc _ 0 rfl)) ?_
       refine z1 ?_
       refine Wa 50 rfl ((show _ = PV.seq (List.length [p.2]) (List.flatMap cNode [p.2]) .clip from rfl)) ?_
       refine Wd rfl rfl (does_append_own (lO tG rfl) rfl (lO tG rfl) (lO tG rfl) rfl rfl rfl rfl (by simp) (by exact ⟨_, rfl⟩) (by exact ⟨rfl, rfl, flatMap_len _ 4 (fun _ => rfl) _, okC_flat _ (fun _ => rfl) _⟩) (by ((simp_all; omega))) (by ((simp_all; omega)))) ?_
       refine Wa 51 rfl (sq_append cNode) ?_
       refine z1 ?_
       skip
       refine Wn ?_
       exact ⟨(p.1, x.2 ++ [p.2]), [4], (by exact ⟨(lo p q3 hon).symm.trans hx.1, os.trans hsr2, bF.down.suf ok.1 ok.2 os0, by rw [List.length_append]; have := hx.2.2.2; rw [hrl] at this; have := os.length_le; simp; omega⟩), (by show p.1.rest.length < _; rw [hrl]; have := os.length_le; omega), fitT⟩
      ·refine WU_does0 rfl rfl rfl rfl (fun _ => does_lookup (b := true) (e := 95) (key := .s rr.2.1) (by kernel_rfl) (lO tG rfl) (by kernel_rfl) rfl rfl rfl rfl (by kernel_rfl) (hlk)) ?_
       iterate 5 refine z3 ?_
       refine WU_nil ?_
       refine Ws ?_
       refine zu2 ?_
       refine Wt rfl (by rfl) ?_
       refine Ws ?_
       refine W_drawU [0, 0, 1, 0, 0] [0, 1, 2, 3, 4] mG rfl (by kernel_rfl) ?_
       iterate 2 refine z3 ?_
       refine z5 ?_
       iterate 2 refine z3 ?_
       refine WU_nil ?_
       refine Wq ?_
       refine leafM rfl rfl ?_ ?_
       ·(rw [show RES = (s1.fail rr.1, x.2, rr.2.1) by rw [← hx.1]; exact le q3 hno]; rfl)
       ·(rw [show RES = (s1.fail rr.1, x.2, rr.2.1) by rw [← hx.1]; exact le q3 hno]; rfl)
   ·have q1 : x.1.bad ≠ 0 := by simpa using hi1
    have eE : RES = (x.1, [], []) := by rw [← hx.1]; exact lf_bad q1
    refine W_exit ?_
    refine zu2 ?_
    refine Wq ?_
    refine leafM rfl rfl ?_ ?_
    ·(rw [eE]; rfl)
    ·(rw [eE]; rfl)
end Go.Proofs.Ytlponhgbbfgkgaa
namespace Go.Proofs.Ytlponhgbbfgkgaa
open Go.RowKit
set_option maxRecDepth 100000
set_option maxHeartbeats 8000000
theorem parse_def (R : Rdr) (ws : List Str) : parseP R ws = (let r := rowR R ⟨ws, 0, 0, 0⟩; let s := if r.1.bad = 0 ∧ r.2.2 ≠ [] then endsP r.1 r.2.2 else r.1; if s.bad ≠ 0 then ([], s.bad) else (r.2.1, 0)) := rfl
theorem parse_a {R : Rdr} {ws : List Str} (h : (rowR R ⟨ws, 0, 0, 0⟩).1.bad = 0 ∧ (rowR R ⟨ws, 0, 0, 0⟩).2.2 ≠ []) : parseP R ws = ([], (endsP (rowR R ⟨ws, 0, 0, 0⟩).1 (rowR R ⟨ws, 0, 0, 0⟩).2.2).bad) := by
 rw [parse_def]
 generalize rowR R ⟨ws, 0, 0, 0⟩ = r at h ⊢
 dsimp only
 rw [if_pos h, if_pos (show (endsP r.1 r.2.2).bad ≠ 0 by rw [ends_bad h.1]; exact endCode_ne _)]
theorem parse_b {R : Rdr} {ws : List Str} (h : ¬ ((rowR R ⟨ws, 0, 0, 0⟩).1.bad = 0 ∧ (rowR R ⟨ws, 0, 0, 0⟩).2.2 ≠ [])) (k : (rowR R ⟨ws, 0, 0, 0⟩).1.bad = 0) : parseP R ws = ((rowR R ⟨ws, 0, 0, 0⟩).2.1, 0) := by
 rw [parse_def]
 generalize rowR R ⟨ws, 0, 0, 0⟩ = r at h k ⊢
 dsimp only
 rw [if_neg h, if_neg (show ¬ r.1.bad ≠ 0 from fun q => q k)]
theorem parse_c {R : Rdr} {ws : List Str} (k : (rowR R ⟨ws, 0, 0, 0⟩).1.bad ≠ 0) : parseP R ws = ([], (rowR R ⟨ws, 0, 0, 0⟩).1.bad) := by
 rw [parse_def]
 generalize rowR R ⟨ws, 0, 0, 0⟩ = r at k ⊢
 dsimp only
 rw [if_neg (show ¬ (r.1.bad = 0 ∧ r.2.2 ≠ []) from fun q => k q.1), if_pos k]
theorem ast_Parse (v : VVm) (ws : List Str) (hv : VRd v) (hw : WsOk ws) (hl : ws.length ≤ 100000) : PureC Try.prog 9 [eVm v, sq cStr ws] (tup2 (sq cNode (parseP (readerS v) ws).1) (i64 (parseP (readerS v) ws).2)) := by
 have hrow := row_c v ws hv hw (ws.length + 1) ⟨ws, 0, 0, 0⟩ (Nat.lt_succ_self _) (List.suffix_refl _) ⟨Int.le_refl _, Int.le_refl _, by show (0 : Int) + (ws.length : Int) + _ ≤ _; omega, by show (0 : Int) + (ws.length : Int) + _ ≤ _; omega⟩
 refine pW tG (rs := [.tmp 4, .tmp 5]) Try.func9 rfl rfl rfl (by simp) (by simp) (fun B => ?_)
 refine zu3 ?_
 refine zp4 ?_
 refine WO_ob (H' := [.cells (cVm v) 36, .cells (cRd v ws ⟨ws, 0, 0, 0⟩) 66]) (by unfold cRd atN; rw [Nat.sub_self]; rfl) ?_
 refine zs1 ?_
 refine zp1 ?_
 refine zc rfl Try.func20 (hrow _ _ rfl) ?_
 refine zs5 ?_
 refine Ws ?_
 refine zp5 ?_
 refine z1 ?_
 refine Wb 23 rfl (fun hg1 => ?_) (fun hg1 => ?_)
 ·have q1 : (rowR (readerS v) ⟨ws, 0, 0, 0⟩).1.bad = 0 := by simpa using hg1
  refine zy2 ?_
  refine Wa 25 rfl (str_neq _ _) ?_
  refine zs1 ?_
  refine Wi rfl (fun hi1 => ?_) (fun hi1 => ?_)
  ·have q2 : (rowR (readerS v) ⟨ws, 0, 0, 0⟩).1.bad = 0 ∧ (rowR (readerS v) ⟨ws, 0, 0, 0⟩).2.2 ≠ [] := ⟨q1, by simpa using hi1⟩
   have q3 : (endsP (rowR (readerS v) ⟨ws, 0, 0, 0⟩).1 (rowR (readerS v) ⟨ws, 0, 0, 0⟩).2.2).bad ≠ 0 := by rw [ends_bad q2.1]; exact endCode_ne _
   refine W_region rfl ?_
   refine zy2 ?_
   refine zc rfl Try.func21 ((rd_ends v ws (rowR (readerS v) ⟨ws, 0, 0, 0⟩).1 _) _ _ rfl) ?_
   refine Wn ?_
   refine Ws ?_
   refine zu5 ?_
   refine Wi rfl (fun hi2 => ?_) (fun hi2 => ?_)
   ·refine Ws ?_
    refine W_drawU [0, 0, 0, 1, 0, 0] [0, 1, 2, 3, 4, 5] mG rfl (by kernel_rfl) ?_
    iterate 3 refine z3 ?_
    refine z5 ?_
    iterate 2 refine z3 ?_
    refine WU_nil ?_
    refine zR ?_
    (rw [parse_a q2]; rfl)
   ·refine Wj ?_
    refine zu3 ?_
    refine zR ?_
    (exfalso; simp_all; done)
  ·have q2 : ¬ ((rowR (readerS v) ⟨ws, 0, 0, 0⟩).1.bad = 0 ∧ (rowR (readerS v) ⟨ws, 0, 0, 0⟩).2.2 ≠ []) := fun h => absurd h.2 (by simpa using hi1)
   refine Wj ?_
   refine Ws ?_
   refine zu5 ?_
   refine Wi rfl (fun hi2 => ?_) (fun hi2 => ?_)
   ·refine Ws ?_
    refine W_drawU [0, 0, 0, 1, 0, 0] [0, 1, 2, 3, 4, 5] mG rfl (by kernel_rfl) ?_
    iterate 3 refine z3 ?_
    refine z5 ?_
    iterate 2 refine z3 ?_
    refine WU_nil ?_
    refine zR ?_
    (exfalso; simp_all; done)
   ·refine Wj ?_
    refine zu3 ?_
    refine zR ?_
    (rw [parse_b q2 q1]; rfl)
 ·have q1 : ¬ (rowR (readerS v) ⟨ws, 0, 0, 0⟩).1.bad = 0 := by simpa using hg1
  iterate 2 refine z6 ?_
  refine zs1 ?_
  refine Wf rfl rfl ?_
  refine Wj ?_
  refine Ws ?_
  refine zu5 ?_
  refine Wi rfl (fun hi2 => ?_) (fun hi2 => ?_)
  ·refine Ws ?_
   refine W_drawU [0, 0, 0, 1, 0, 0] [0, 1, 2, 3, 4, 5] mG rfl (by kernel_rfl) ?_
   iterate 3 refine z3 ?_
   refine z5 ?_
   iterate 2 refine z3 ?_
   refine WU_nil ?_
   refine zR ?_
   (rw [parse_c q1]; rfl)
  ·refine Wj ?_
   refine zu3 ?_
   refine zR ?_
   (exfalso; simp_all; done)
end Go.Proofs.Ytlponhgbbfgkgaa
