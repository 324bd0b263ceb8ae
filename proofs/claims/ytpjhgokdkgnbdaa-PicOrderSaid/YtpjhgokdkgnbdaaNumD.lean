/- The walks of layer 6 (num), part D: cells as texts, by the program and by the document's answer. -/
import Derived.Test.YtpjhgokdkgnbdaaNumC
import Derived.Test.YtpjhgokdkgnbdaaCellC
import Derived.Test.YtpjhgokdkgnbdaaOwnB
namespace Go.Proofs.Ytpjhgokdkgnbdaa
open Go.RowKit

/-- The signs of digits, as numbers. -/
def digI (ds : List Nat) : List Int := ds.map fun d : Nat => digS (d : Int)
theorem digI_snoc (ds : List Nat) (d : Nat) : digI (ds ++ [d]) = digI ds ++ [digS (d : Int)] := by simp [digI]
theorem digI_len (ds : List Nat) : (digI ds).length = ds.length := by simp [digI]
theorem r_pos {u r B : Nat} (hz : ¬ u / B = 0) (h : u < 2 ^ (r + 1)) (hB : 2 ≤ B) : 1 ≤ r := by
  rcases Nat.eq_zero_or_pos r with rfl | h1
  · exact absurd (Nat.div_eq_of_lt (by simp at h; omega)) hz
  · exact h1
theorem U_less {u B : Nat} (hu : u < 18446744073709551616) (hz : ¬ u / B = 0) (hB : 2 ≤ B) : U (S (u / B)) < U (S u) := by
  have h0 : 0 < u := Nat.pos_of_ne_zero (fun e => hz (by rw [e]; exact Nat.zero_div B))
  rw [U_S u hu, U_S (u / B) (Nat.lt_of_le_of_lt (Nat.div_le_self u B) hu)]
  exact Nat.div_lt_self h0 hB
/-- How great a cell is, without a sign. -/
def measU (v : Value) : Nat := U (intOf v)
theorem measU_is (x : Int) : measU (.int .i64 x) = U x := by unfold measU; simp [intOf]
theorem measU_less {u B : Nat} (hu : Hid (u < 18446744073709551616)) (hz : Hid (¬ u / B = 0)) (hB : 2 ≤ B) : measU (.int .i64 (S (u / B))) < measU (.int .i64 (S u)) := by
  rw [measU_is, measU_is]; exact U_less hu.out hz.out hB
/-- All digits of a number. -/
def dig0 (B u : Nat) : List Nat := digL B 64 u
theorem dig0_start (B u : Nat) : Hid ([] ++ digL B 64 u = dig0 B u) := Lib.hid rfl
theorem len_start : Hid (([] : List Nat).length + 64 = 64) := Lib.hid rfl
theorem own_start (w : World) (e : TypeId) : w.ownsRow w.heap.size e 1 (.slice none 0 0) ([] : List Nat).length ((digI []).map (Value.int .u8)) := ⟨rfl, .inl ⟨rfl, rfl⟩⟩
theorem two64 {u : Nat} (h : u < 18446744073709551616) : Hid (u < 2 ^ 64) := Lib.hid (by rw [show (2:Nat)^64 = 18446744073709551616 from by decide]; exact h)

/-- Digits laid behind one another, and those that are left. -/
theorem digL_more {B r u : Nat} {ds all : List Nat} (h : ds ++ digL B (r + 1) u = all) (hz : ¬ u / B = 0) : (ds ++ [u % B]) ++ digL B r (u / B) = all := by
  rw [← h]; simp only [digL, hz, if_false, List.append_assoc, List.singleton_append]
theorem digL_end {B r u : Nat} {ds all : List Nat} (h : ds ++ digL B (r + 1) u = all) (hz : u / B = 0) : ds ++ [u % B] = all := by
  rw [← h]; simp only [digL, hz, if_true]
theorem udivS_small (u B : Nat) (hu : u < 18446744073709551616) (h2 : 2 ≤ B) (h3 : B ≤ 36) : udivS (S u) 0 (B : Int) = (S (u / B), ((u % B : Nat) : Int), 0) := by
  have e1 : U (B : Int) = B := by unfold U; omega
  have e2 : U (0 : Int) = 0 := by decide
  have e3 : PU (S u) 0 = u := by unfold PU; rw [U_S u hu, e2]; omega
  unfold udivS
  rw [if_neg (by omega), e1, e2, if_neg (by omega), e3]
  have hm := Nat.mod_lt u (show 0 < B by omega)
  have : S (u % B) = ((u % B : Nat) : Int) := by unfold S; exact wrap64_fit _ (by omega)
  rw [this]
theorem S_zero {u : Nat} (h : u < 18446744073709551616) : S u = 0 ↔ u = 0 := by unfold S wrap64; omega
theorem pow_half {u r B : Nat} (h : u < 2 ^ (r + 1)) (hB : 2 ≤ B) : u / B < 2 ^ r := by
  rw [Nat.pow_succ] at h
  have := Nat.div_le_div_left hB (show 0 < 2 by omega) (a := u)
  omega
theorem chr_text (ds : List Nat) : strOfNums (digI ds).reverse = ⟨((ds.map chr).reverse).toArray⟩ := by
  unfold strOfNums chr digI
  congr 1
  rw [← List.map_reverse, List.map_map, ← List.map_reverse]
  rfl

set_option maxRecDepth 100000 in
set_option maxHeartbeats 1000000 in
theorem num_UShow (n b : Int) (w : World) (hn : Fit n) : Calls Try.prog 46 #[.int .i64 n, .int .i64 b] w fun e w' => e = .returned (.tuple #[.string ⟨(ushowS n b).1.toArray⟩, .int .i64 (ushowS n b).2]) ∧ Below w.heap.size w w' := by
  by_cases hb : isB b = true
  · obtain ⟨B, rfl, h2, h3⟩ := base_nat hb
    have e : ushowS n (B : Int) = (ushowL (U n) B, 0) := by unfold ushowS; rw [if_pos hb, Int.toNat_natCast]
    have E := Lib.hid e
    have EN := Lib.hid (S_U n hn)
    obtain ⟨i0, hi, hz0, hz1, hz2⟩ := info_parts info8
    clear e
    go_enter Try.func46, Try.ntmps46
    go_wp2_with (go_at_call 75; refine (num_is _ _).mono ?_; rintro e w' ⟨rfl, rfl⟩)
    go_loopw [0, 6] (fun n0 v wr => ∃ (r u : Nat) (ds : List Nat), n0 = .int .i64 (S u) ∧ Hid (u < 18446744073709551616) ∧ Hid (u < 2 ^ r) ∧ 1 ≤ r ∧ Hid (ds.length + r = 64) ∧ Hid (ds ++ digL B r u = dig0 B (U n)) ∧
      wr.ownsRow w.heap.size 5 1 v ds.length ((digI ds).map (Value.int .u8)) ∧ Below w.heap.size w wr) (fun n0 _ _ => measU n0)
    case atStart => exact ⟨64, U n, [], by rw [EN.out], U_lt n, two64 (U_lt n), by omega, len_start, dig0_start _ _, own_start _ _, Below.refl _ _⟩
    case round =>
      obtain ⟨r, u, ds, rfl, hu, hur, hr1, hlen, hds, hown, hbel⟩ := hrel
      obtain ⟨r, rfl⟩ : ∃ r', r = r' + 1 := ⟨r - 1, by omega⟩
      have D0 := fun w => cell_UDiv (S u) 0 (B : Int) w
      rw [udivS_small u B hu.out h2 h3] at D0
      have D := Lib.hid D0
      clear D0
      have hm := Nat.mod_lt u (show 0 < B by omega)
      have hq : u / B < 18446744073709551616 := Nat.lt_of_le_of_lt (Nat.div_le_self _ _) hu.out
      have hds64 : ds.length ≤ 63 := by have := hlen.out; omega
      by_cases hz : u / B = 0
      · have t : (S (u / B) == 0) = true := by rw [hz]; decide +kernel
        have hds' := Lib.hid (digL_end hds.out hz)
        have HZ := Lib.hid hz
        clear hq hz hds
        go_wp2_with (first
          | (go_at_call 64; refine (D.out _).mono ?_; rintro e w1 ⟨rfl, n1, hw1⟩; have hown1 := own_drewN hown hw1; have hbel1 := bel_drewN hbel hw1; clear hw1)
          | (go_at_call 50; refine (num_Digit _ _).mono ?_; rintro e w' ⟨rfl, rfl⟩)
          | (at_builtin; refine wpList_append_own _ rfl _ _ 22 rfl w.heap.size 5 i0 (.int .u8 0) 1 1 Try.underlying22 hi hz0 hz1 hz2 rfl (by decide) _ _ _ rfl (hown1.alloc _) ⟨w1.heap.size, 0, none⟩ 1 1 [.int .u8 (digS ((u : Int) % (B : Int)))] rfl rfl ?c1 ?c2 ?c3 ?c4 ?c5 ?_))
        case c1 => exact cell_one_new _ _ _
        case c2 => simp [Value.oneCell']
        case c3 => unfold maxLen; omega
        case c4 => omega
        case c5 => have := hbel1.size; simp; omega
        intro v' w2 hown2 hgrow _
        have hown3 : w2.ownsRow w.heap.size 5 1 v' (ds ++ [u % B]).length ((digI (ds ++ [u % B])).map (Value.int .u8)) := by
          rw [digI_snoc, List.map_append, List.length_append]; exact hown2
        have hbel2 : Below w.heap.size w w2 := (hbel1.alloc hbel1.size _).grown hgrow (by have := hbel1.size; simp; omega) (own_low hown1)
        have RV := Lib.hid (rev_own w2 w.heap.size v' _ _ hown3 (by simp; omega))
        clear hown hown1 hown2 hgrow hown3
        go_wp2_with fail
        refine RV.out.mono ?_
        rintro e w3 ⟨rfl, hown5, hb5⟩
        have hbel5 := hb5 w hbel2
        have hcv := text_own hown5
        rw [hds'.out, chr_text] at hcv
        clear hown5 hb5
        go_wp2
        go_ret2
        exact ⟨by rw [E.out]; rfl, hbel5⟩
      · have t : (S (u / B) == 0) = false := by simp only [beq_eq_false_iff_ne]; intro h; exact hz ((S_zero hq).1 h)
        have HQ := Lib.hid hq
        have hds' := Lib.hid (digL_more hds.out hz)
        have HZ := Lib.hid hz
        clear hq hz hds
        go_wp2_with (first
          | (go_at_call 64; refine (D.out _).mono ?_; rintro e w1 ⟨rfl, n1, hw1⟩; have hown1 := own_drewN hown hw1; have hbel1 := bel_drewN hbel hw1; clear hw1)
          | (go_at_call 50; refine (num_Digit _ _).mono ?_; rintro e w' ⟨rfl, rfl⟩)
          | (at_builtin; refine wpList_append_own _ rfl _ _ 22 rfl w.heap.size 5 i0 (.int .u8 0) 1 1 Try.underlying22 hi hz0 hz1 hz2 rfl (by decide) _ _ _ rfl (hown1.alloc _) ⟨w1.heap.size, 0, none⟩ 1 1 [.int .u8 (digS ((u : Int) % (B : Int)))] rfl rfl ?c1 ?c2 ?c3 ?c4 ?c5 ?_))
        case c1 => exact cell_one_new _ _ _
        case c2 => simp [Value.oneCell']
        case c3 => unfold maxLen; omega
        case c4 => omega
        case c5 => have := hbel1.size; simp; omega
        intro v' w2 hown2 hgrow _
        have hown3 : w2.ownsRow w.heap.size 5 1 v' (ds ++ [u % B]).length ((digI (ds ++ [u % B])).map (Value.int .u8)) := by
          rw [digI_snoc, List.map_append, List.length_append]; exact hown2
        have hbel2 : Below w.heap.size w w2 := (hbel1.alloc hbel1.size _).grown hgrow (by have := hbel1.size; simp; omega) (own_low hown1)
        clear hown hown1 hown2 hgrow
        go_wp2_with fail
        go_roundw
        case rel => exact ⟨r, u / B, ds ++ [u % B], rfl, HQ.out, pow_half hur.out h2, r_pos HZ.out hur.out h2, by have := hlen.out; show _ = _; simp; omega, hds', hown3, hbel2⟩
        case measure => exact measU_less hu HZ h2
  · have e : ushowS n b = ([], -24) := by unfold ushowS; rw [if_neg hb]
    have E := Lib.hid e
    simp only [Bool.not_eq_true] at hb
    clear e
    go_enter Try.func46, Try.ntmps46
    go_wp2_with (go_at_call 75; refine (num_is _ _).mono ?_; rintro e w' ⟨rfl, rfl⟩)
    go_ret2
    exact ⟨by rw [E.out]; rfl, Below.refl _ _⟩
end Go.Proofs.Ytpjhgokdkgnbdaa
