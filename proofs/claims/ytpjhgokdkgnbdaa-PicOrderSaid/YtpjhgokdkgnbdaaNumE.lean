/- The walks of layer 6 (num), part E: cells as texts, with a sign, and by the document's answer. -/
import Derived.Test.YtpjhgokdkgnbdaaNumD
namespace Go.Proofs.Ytpjhgokdkgnbdaa
open Go.RowKit

/-- A byte that stands alone in a new row, as a text. -/
theorem text_one (w : World) (x : Int) : (convert 22 9 (.slice (some ⟨w.heap.size, 0, none⟩) 1 1)).run Try.prog (w.alloc (.cells #[.int .u8 x] 5)) = .ok (.string (strOfNums [x])) (w.alloc (.cells #[.int .u8 x] 5)) := by
  refine run_convert_bytes_arg _ 22 5 Try.underlying22 Try.underlying5 w.heap.size 0 1 1 [x] rfl (fun i hi => ?_) 9 Try.underlying9
  obtain rfl : i = 0 := by omega
  have := cell_one_new w (.int .u8 x) 5 0 (.int .u8 x) rfl
  exact this
theorem str_eq {a b : ByteArray} (h : a.data.toList = b.data.toList) : a = b := by
  apply ByteArray.ext; exact Array.toList_inj.1 h
theorem cat_list (a b : ByteArray) : (a ++ b).data.toList = a.data.toList ++ b.data.toList := by simp
theorem one_list (d : Nat) : (strOfNums [digS (d : Int)]).data.toList = [chr d] := by rw [strOfNums_data]; rfl

theorem ret_si {a b : ByteArray} {x y : Int} (h : a = b) (g : x = y) : Ending.returned (.tuple #[.string a, .int .i64 x]) = .returned (.tuple #[.string b, .int .i64 y]) := by rw [h, g]

theorem digL_le (B : Nat) : ∀ k u, (digL B k u).length ≤ k := by
  intro k
  induction k with
  | zero => intro u; simp [digL]
  | succ k ih => intro u; simp only [digL, List.length_cons]; split
                 · simp
                 · have := ih (u / B); omega
theorem ushowL_len (u B : Nat) : (ushowL u B).length ≤ 64 := by unfold ushowL; simpa using digL_le B 64 u

theorem num_Show (n b : Int) (w : World) (hn : Fit n) : Calls Try.prog 45 #[.int .i64 n, .int .i64 b] w fun e w' => e = .returned (.tuple #[.string ⟨(showS n b).1.toArray⟩, .int .i64 (showS n b).2]) ∧ Below w.heap.size w w' := by
  by_cases h0 : 0 ≤ n
  · have e : showS n b = ushowS n b := by unfold showS ushowS; simp only [h0, if_true]
    rw [e]
    have H := Lib.hid (num_UShow n b w hn)
    go_enter Try.func45, Try.ntmps45
    go_wp2_with (go_at_call 46; refine H.out.mono ?_; rintro e w1 ⟨rfl, hb⟩)
    go_ret2
    exact ⟨rfl, hb⟩
  · have h1 : decide (0 ≤ n) = false := by simp; omega
    by_cases hb : isB b = true
    · have e : ushowS (wrap64 (-n)) b = (ushowL (U (wrap64 (-n))) b.toNat, 0) := by unfold ushowS; rw [if_pos hb]
      have e2 : showS n b = (45 :: ushowL (U (wrap64 (-n))) b.toNat, 0) := by unfold showS; rw [if_pos hb]; simp only [h0, if_false]
      have H0 := num_UShow (wrap64 (-n)) b w (wrap64_rng _)
      rw [e] at H0
      clear e
      have hl := ushowL_len (U (wrap64 (-n))) b.toNat
      generalize ushowL (U (wrap64 (-n))) b.toNat = l at H0 e2 hl
      have H := Lib.hid H0
      have E2 := Lib.hid e2
      clear e2 H0
      go_enter Try.func45, Try.ntmps45
      go_wp2_with (go_at_call 46; refine H.out.mono ?_; rintro e w1 ⟨rfl, hb⟩)
      go_ret2
      exact ⟨by rw [E2.out]; exact ret_si (str_eq (by simp)) rfl, hb⟩
    · have e : ushowS (wrap64 (-n)) b = ([], -24) := by unfold ushowS; rw [if_neg hb]
      have e2 : showS n b = ([], -24) := by unfold showS; rw [if_neg hb]
      have H0 := num_UShow (wrap64 (-n)) b w (wrap64_rng _)
      rw [e] at H0
      have H := Lib.hid H0
      have E2 := Lib.hid e2
      clear e e2 H0
      go_enter Try.func45, Try.ntmps45
      go_wp2_with (go_at_call 46; refine H.out.mono ?_; rintro e w1 ⟨rfl, hb⟩)
      go_ret2
      exact ⟨by rw [E2.out]; rfl, hb⟩

theorem mod_cast_eq {u B m : Nat} (h : u % B = m) : (u : Int) % (B : Int) = (m : Int) := by rw [← h]; simp
theorem div_cast_eq {u B m : Nat} (h : u / B = m) : (u : Int) / (B : Int) = (m : Int) := by rw [← h]; simp
theorem u64_base (B : Nat) (h : B ≤ 36) : IntKind.u64.wrap (B : Int) = B := IntWalk.u64_in _ (by omega)

set_option maxRecDepth 100000 in
set_option maxHeartbeats 1000000 in
theorem ref_UShow (n b : Int) (w : World) : Calls Try.prog 40 #[.int .i64 n, .int .i64 b] w fun e w' => e = .returned (.tuple #[.string ⟨(ushowS n b).1.toArray⟩, .int .i64 (ushowS n b).2]) ∧ Below w.heap.size w w' := by
  by_cases hb : isB b = true
  · obtain ⟨B, rfl, h2, h3⟩ := base_nat hb
    have e : ushowS n (B : Int) = (ushowL (U n) B, 0) := by unfold ushowS; rw [if_pos hb, Int.toNat_natCast]
    have E := Lib.hid e
    have u1 := U_wrap n
    have u2 := u64_base B h3
    have HU := Lib.hid (U_lt n)
    clear e
    obtain ⟨u, hu⟩ : ∃ u, U n = u := ⟨_, rfl⟩
    rw [hu] at E HU u1
    clear hu
    obtain ⟨m, hm⟩ : ∃ m, u % B = m := ⟨_, rfl⟩
    have hmI := mod_cast_eq hm
    have hmB : m ≤ 35 := by have := Nat.mod_lt u (show 0 < B by omega); omega
    have hm36 : (m : Int) ≤ 35 := by omega
    have tx := fun w => text_one w (digS (m : Int))
    have HM := Lib.hid hm
    clear hm hmB
    go_enter Try.func40, Try.ntmps40
    go_wp2_with (go_at_call 51; refine (ref_Digit _ _).mono ?_; rintro e w' ⟨rfl, rfl⟩)
    clear hmI hm36 tx
    go_loopw [6, 8] (fun x t wr => ∃ (r v : Nat) (ds : List Nat) (z : ByteArray), x = .int .u64 (v : Int) ∧ t = .string z ∧ Hid (v < 18446744073709551616) ∧ Hid (v < 2 ^ (r + 1)) ∧ Hid (ds.length + r = 63) ∧ Hid (ds ++ digL B (r + 1) v = dig0 B u) ∧
      Hid (z.data.toList = ((ds ++ [v % B]).map chr).reverse) ∧ Below w.heap.size w wr) (fun x _ _ => (intOf x).toNat)
    case atStart => exact ⟨63, u, [], _, rfl, rfl, HU, two64 HU.out, Lib.hid rfl, dig0_start _ _, by show _ = _; rw [HM.out, one_list]; rfl, (Below.refl _ _).alloc (Nat.le_refl _) _⟩
    case round =>
      obtain ⟨r, v, ds, z, rfl, rfl, hv, hvr, hlen, hds, hz, hbel⟩ := hrel
      by_cases hlt : v / B = 0
      · have hlt2 : (v : Int) < (B : Int) := by have := (Nat.div_eq_zero_iff_lt (show 0 < B by omega)).1 hlt; omega
        have he := Lib.hid (digL_end hds.out hlt)
        clear hlt
        go_wp2
        go_ret2
        exact ⟨by rw [E.out]; exact ret_si (str_eq (by rw [hz.out, he.out]; rfl)) rfl, hbel⟩
      · have hge : ¬ (v : Int) < (B : Int) := fun h => hlt (Nat.div_eq_of_lt (by omega))
        have hge2 : (B : Int) ≤ (v : Int) := by omega
        obtain ⟨q, hq⟩ : ∃ q, v / B = q := ⟨_, rfl⟩
        have hqI := div_cast_eq hq
        obtain ⟨m, hm⟩ : ∃ m, q % B = m := ⟨_, rfl⟩
        have hmI := mod_cast_eq hm
        have hmB : m ≤ 35 := by have := Nat.mod_lt q (show 0 < B by omega); omega
        have hm36 : (m : Int) ≤ 35 := by omega
        have tx := fun w => text_one w (digS (m : Int))
        have hzl : z.size ≤ 64 := by
          have := hlen.out
          rw [← size_list, hz.out]; simp; omega
        have hs1 : (strOfNums [digS (m : Int)]).size ≤ 1 := by rw [strOfNums_size]; simp
        have hr1 := r_pos hlt hvr.out h2
        obtain ⟨r, rfl⟩ : ∃ r', r = r' + 1 := ⟨r - 1, by omega⟩
        have hd' := digL_more hds.out hlt
        have hv' : v / B < 18446744073709551616 := Nat.lt_of_le_of_lt (Nat.div_le_self _ _) hv.out
        have hvr' := pow_half hvr.out h2
        rw [hq] at hd' hv' hvr'
        have hqw : IntKind.u64.wrap (q : Int) = (q : Int) := IntWalk.u64_in _ (by omega)
        have hz' : (strOfNums [digS (m : Int)] ++ z).data.toList = ((ds ++ [v % B] ++ [q % B]).map chr).reverse := by
          rw [cat_list, one_list, hz.out, hm]; simp
        have hmeas : q < v := by rw [← hq]; exact Nat.div_lt_self (Nat.pos_of_ne_zero (fun e => hlt (by rw [e]; exact Nat.zero_div B))) h2
        have HD := Lib.hid hd'
        have HV := Lib.hid hv'
        have HR := Lib.hid hvr'
        have HZ := Lib.hid hz'
        have HS := Lib.hid hmeas
        clear hlt hq hm hmB hr1 hd' hv' hvr' hz' hmeas hge hz hds hv hvr
        go_wp2_with (go_at_call 51; refine (ref_Digit _ _).mono ?_; rintro e w' ⟨rfl, rfl⟩)
        go_roundw
        case rel => exact ⟨r, q, ds ++ [v % B], _, rfl, rfl, HV, HR, by have := hlen.out; show _ = _; simp; omega, HD, HZ, hbel.alloc hbel.size _⟩
        case measure => have := HS.out; simp [intOf]; omega
  · have e : ushowS n b = ([], -24) := by unfold ushowS; rw [if_neg hb]
    have E := Lib.hid e
    have hb2 : ¬ (2 ≤ b ∧ b ≤ 36) := fun h => hb ((isB_iff b).2 h)
    clear hb e
    by_cases h2 : b < 2
    · have t : decide (b < 2) = true := by simp [h2]
      go_enter Try.func40, Try.ntmps40
      go_wp2
      go_ret2
      exact ⟨by rw [E.out]; rfl, Below.refl _ _⟩
    · have t : decide (b < 2) = false := by simp; omega
      have t2 : decide (36 < b) = true := by simp; omega
      go_enter Try.func40, Try.ntmps40
      go_wp2
      go_ret2
      exact ⟨by rw [E.out]; rfl, Below.refl _ _⟩
end Go.Proofs.Ytpjhgokdkgnbdaa
