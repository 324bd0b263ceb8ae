/- The walks of layer 6 (num), part B: the cell that a text tells, by the program and by the document's answer. -/
import Derived.Test.YtpjhgokdkgnbdaaNumA
import Derived.Laws.RangeAny
import Derived.Below
namespace Go.Proofs.Ytpjhgokdkgnbdaa
open Go.RowKit

theorem parseS_none {l l' m : List UInt8} {b b' : Int} {below : Bool} (h : signS l = none) (hp : prefS l b = (b', l')) (hc : cutS l' = (m, below)) : parseS l b = bareS m b' below := by
  unfold parseS; rw [h, hp]; simp only [hc]
theorem parseS_some {l : List UInt8} {b n : Int} (h : signS l = some n) : parseS l b = (n, true) := by
  unfold parseS; rw [h]
theorem bareS_nil (b : Int) (below : Bool) : bareS [] b below = (0, false) := by unfold bareS; rw [if_pos (.inl rfl)]
theorem bareS_nob (l : List UInt8) (b : Int) (below : Bool) (h : isB b = false) : bareS l b below = (0, false) := by unfold bareS; rw [if_pos (.inr (.inl h))]
theorem take_snoc (s : ByteArray) (k : Nat) (h : k < s.size) : s.data.toList.take (k + 1) = s.data.toList.take k ++ [s[k]] := by
  rw [List.take_succ_eq_append_getElem (by simpa using h)]; rfl
theorem all_take (p : UInt8 → Bool) (s : ByteArray) (k : Nat) (h : k < s.size) (hb : p s[k] = false) : s.data.toList.all p = false := by
  rw [List.all_eq_false]
  exact ⟨s[k], List.getElem_mem (by simpa using h), by simp [hb]⟩

theorem below_iter {w w1 : World} (hb : Below w.heap.size w w1) (s : ByteArray) (p : Nat) : Below w.heap.size w (w1.iter s p) := hb.alloc hb.size _

/-- The round over a text's runes, and what stands behind it: by the sign that stands at the place. -/
theorem num_Parse (s : ByteArray) (b : Int) (w : World) (hs : s.size ≤ 9223372036854775807) : Calls Try.prog 47 #[.string s, .int .i64 b] w fun e w' => e = .returned (.tuple #[.int .i64 (parseS s.data.toList b).1, .bool (parseS s.data.toList b).2]) ∧ Below w.heap.size w w' := by
  have S0 := fun w => num_sign s w hs
  match hsg : signS s.data.toList with
  | some n =>
    rw [hsg] at S0
    have S := Lib.hid S0
    have E := Lib.hid (parseS_some (b := b) hsg)
    clear S0 hsg
    go_enter Try.func47, Try.ntmps47
    go_wp2_with (go_at_call 76; refine (S.out _).mono ?_; rintro e w' ⟨rfl, rfl⟩)
    go_ret2
    exact ⟨by rw [E.out]; rfl, Below.refl _ _⟩
  | none =>
    rw [hsg] at S0
    obtain ⟨b', s', hp⟩ : ∃ b' s', prefB s b = (b', s') := ⟨_, _, rfl⟩
    have P0 := fun w => num_prefix s b w hs
    rw [hp] at P0
    have hpl := prefB_list s b
    rw [hp] at hpl
    obtain ⟨t, below, hc⟩ : ∃ t below, cutB s' = (t, below) := ⟨_, _, rfl⟩
    have C0 := fun w => num_cut s' w
    rw [hc] at C0
    have hcl : cutS s'.data.toList = (t.data.toList, below) := by
      unfold cutB at hc
      obtain ⟨rfl, rfl⟩ := Prod.mk.inj hc
      simp
    have e := parseS_none hsg hpl hcl
    have htl : t.size ≤ 9223372036854775807 := by
      have h1 : t.data.toList.length ≤ s'.data.toList.length := by
        have : t.data.toList = (cutS s'.data.toList).1 := by rw [hcl]
        rw [this]
        cases s'.data.toList with
        | nil => simp [cutS]
        | cons c l => simp only [cutS]; split <;> simp
      have h2 : s'.data.toList.length ≤ s.data.toList.length := by
        have : s'.data.toList = (prefS s.data.toList b).2 := by rw [hpl]
        rw [this]
        cases s.data.toList with
        | nil => simp [prefS]
        | cons c l => simp only [prefS]; repeat' split
                      all_goals simp
      simp only [size_list] at h1 h2
      omega
    have S := Lib.hid S0
    have P := Lib.hid P0
    have C := Lib.hid C0
    clear S0 hsg hp hpl hc hcl P0 C0 hs
    by_cases h0 : 0 < t.size
    · have te := empty_no t h0
      have htn : t.data.toList ≠ [] := fun h => by have := size_list t; rw [h] at this; simp at this; omega
      by_cases hb : isB b' = true
      · have E := Lib.hid e
        have HB := Lib.hid ((isB_iff b').1 hb)
        have HN := Lib.hid htn
        have HE := Lib.hid (bareS_ok t.data.toList b' below hb htn)
        have HX := Lib.hid (bareS_no t.data.toList b' below)
        clear e htn
        go_enter Try.func47, Try.ntmps47
        go_wp2_with (first
          | (go_at_call 76; refine (S.out _).mono ?_; rintro e w' ⟨rfl, rfl⟩)
          | (go_at_call 77; refine (P.out _).mono ?_; rintro e w1 ⟨rfl, n1, hw1⟩; have HW := Lib.hid hw1; clear hw1)
          | (go_at_call 78; refine (C.out _).mono ?_; rintro e w' ⟨rfl, rfl⟩)
          | (go_at_call 75; refine (num_is b' _).mono ?_; rintro e w' ⟨rfl, rfl⟩))
        have hbel : Below w.heap.size w w1 := by rw [HW.out]; exact below_drewN (Below.refl _ _) n1
        go_loopw [9] (fun n wr => ∃ (pos : Nat) (m : Int), wr = w1.iter t pos ∧ pos ≤ t.size ∧ n = .int .i64 m ∧ Hid (m = wrap64 (valD b' 0 (t.data.toList.take pos))) ∧ Hid ((t.data.toList.take pos).all (okD b') = true)) (fun _ wr => t.size - wr.iterPos w1.heap.size)
        case atStart => exact ⟨0, 0, rfl, by omega, rfl, by show _ = _; simp [valD, wrap64], by show _ = _; simp⟩
        case round =>
          obtain ⟨pos, m, rfl, hpos, rfl, hm, hall⟩ := hrel
          by_cases hlt : pos < t.size
          · by_cases ha : t[pos].toNat < 128
            · have hnx : ∀ ty, (Instr.next (.pointer (some ⟨w1.heap.size, 0, none⟩)) true ty).run Try.prog (w1.iter t pos) = _ := fun ty => run_next_ascii w1 t pos ty hlt ha
              obtain ⟨d, hd⟩ : ∃ d, wd (t[pos].toNat : Int) = d := ⟨_, rfl⟩
              have hr := wd_rng (t[pos].toNat : Int)
              have W0 := fun w => num_worth (t[pos].toNat : Int) w (by omega) (by omega)
              rw [hd] at W0 hr
              have W := Lib.hid W0
              by_cases hok : okD b' t[pos] = true
              · have h2 := (okD_iff b' t[pos]).1 hok
                rw [hd] at h2
                obtain ⟨h3, h4⟩ := h2
                have t1 : decide (d < 0) = false := by simp; omega
                have t2 : decide (b' ≤ d) = false := by simp; omega
                have hm' : Hid (wrap64 (wrap64 (m * b') + d) = wrap64 (valD b' 0 (t.data.toList.take (pos + 1)))) := by
                  show _ = _
                  rw [take_snoc t pos hlt, ← wrap_valD_snoc, ← hm.out, hd]
                have hall' : Hid ((t.data.toList.take (pos + 1)).all (okD b') = true) := by
                  show _ = _
                  rw [take_snoc t pos hlt, List.all_append, hall.out]
                  simp [hok]
                clear hm hall hd W0 hok
                go_wp2_with (go_at_call 79; refine (W.out _).mono ?_; rintro e w' ⟨rfl, rfl⟩)
                go_roundw
                case rel => exact ⟨pos + 1, _, rfl, by omega, rfl, hm', hall'⟩
                case measure => simp; omega
              · have hno : t.data.toList.all (okD b') = false := all_take _ t pos hlt (by simpa using hok)
                have hdd : d < 0 ∨ b' ≤ d := by
                  have h2 : ¬ (0 ≤ d ∧ d < b') := by rw [← hd, ← okD_iff]; exact hok
                  omega
                have EX := Lib.hid (HX.out hno)
                clear hm hall hd W0 hok hno
                by_cases hd0 : d < 0
                · have t1 : decide (d < 0) = true := by simp; omega
                  go_wp2_with (go_at_call 79; refine (W.out _).mono ?_; rintro e w' ⟨rfl, rfl⟩)
                  go_ret2
                  exact ⟨by rw [E.out, EX.out]; rfl, below_iter hbel _ _⟩
                · have t1 : decide (d < 0) = false := by simp; omega
                  have t2 : decide (b' ≤ d) = true := by simp; omega
                  go_wp2_with (go_at_call 79; refine (W.out _).mono ?_; rintro e w' ⟨rfl, rfl⟩)
                  go_ret2
                  exact ⟨by rw [E.out, EX.out]; rfl, below_iter hbel _ _⟩
            · have hnx : ∀ ty, (Instr.next (.pointer (some ⟨w1.heap.size, 0, none⟩)) true ty).run Try.prog (w1.iter t pos) = _ := fun ty => run_next_any w1 t pos ty hlt
              have hdh := decode_high t pos hlt (by omega)
              have hdl := decode_le t pos
              have hr : wd ((Utf8.decode t pos).1 : Int) = -1 := by unfold wd; rw [if_neg (by omega), if_neg (by omega), if_neg (by omega)]
              have W0 := fun w => num_worth ((Utf8.decode t pos).1 : Int) w (by omega) (by omega)
              rw [hr] at W0
              have W := Lib.hid W0
              have hno : t.data.toList.all (okD b') = false := all_take _ t pos hlt (by
                have : ¬ okD b' t[pos] = true := by
                  rw [okD_iff]
                  have : wd (t[pos].toNat : Int) = -1 := by unfold wd; rw [if_neg (by omega), if_neg (by omega), if_neg (by omega)]
                  omega
                simpa using this)
              have EX := Lib.hid (HX.out hno)
              clear hm hall hr W0 hno hdh hdl
              generalize Utf8.decode t pos = q at *
              go_wp2_with (go_at_call 79; refine (W.out _).mono ?_; rintro e w' ⟨rfl, rfl⟩)
              go_ret2
              exact ⟨by rw [E.out, EX.out]; rfl, below_iter hbel _ _⟩
          · have hnx : ∀ ty, (Instr.next (.pointer (some ⟨w1.heap.size, 0, none⟩)) true ty).run Try.prog (w1.iter t pos) = _ := fun ty => run_next_end w1 t pos ty hlt
            have et : t.data.toList.take pos = t.data.toList := List.take_of_length_le (by rw [size_list]; omega)
            rw [et] at hm hall
            have EX := Lib.hid (HE.out hall.out)
            clear hall et
            cases below with
            | true =>
              go_wp2
              go_ret2
              exact ⟨by rw [E.out, EX.out, ← hm.out]; rfl, below_iter hbel _ _⟩
            | false =>
              go_wp2
              go_ret2
              exact ⟨by rw [E.out, EX.out, ← hm.out]; rfl, below_iter hbel _ _⟩
      · simp only [Bool.not_eq_true] at hb
        rw [bareS_nob _ _ _ hb] at e
        have E := Lib.hid e
        clear e htn
        go_enter Try.func47, Try.ntmps47
        go_wp2_with (first
          | (go_at_call 76; refine (S.out _).mono ?_; rintro e w' ⟨rfl, rfl⟩)
          | (go_at_call 77; refine (P.out _).mono ?_; rintro e w1 ⟨rfl, n1, hw1⟩; have HW := Lib.hid hw1; clear hw1)
          | (go_at_call 78; refine (C.out _).mono ?_; rintro e w' ⟨rfl, rfl⟩)
          | (go_at_call 75; refine (num_is b' _).mono ?_; rintro e w' ⟨rfl, rfl⟩))
        go_ret2
        exact ⟨by rw [E.out]; rfl, by rw [HW.out]; exact below_drewN (Below.refl _ _) n1⟩
    · have te := empty_yes t (by omega)
      have htn : t.data.toList = [] := List.eq_nil_of_length_eq_zero (by rw [size_list]; omega)
      rw [htn, bareS_nil] at e
      have E := Lib.hid e
      clear e htn
      go_enter Try.func47, Try.ntmps47
      go_wp2_with (first
        | (go_at_call 76; refine (S.out _).mono ?_; rintro e w' ⟨rfl, rfl⟩)
        | (go_at_call 77; refine (P.out _).mono ?_; rintro e w1 ⟨rfl, n1, hw1⟩; have HW := Lib.hid hw1; clear hw1)
        | (go_at_call 78; refine (C.out _).mono ?_; rintro e w' ⟨rfl, rfl⟩))
      go_ret2
      exact ⟨by rw [E.out]; rfl, by rw [HW.out]; exact below_drewN (Below.refl _ _) n1⟩
end Go.Proofs.Ytpjhgokdkgnbdaa
