import Derived.Laws.RangeAny
import Derived.Lib.IndexBytes
import Derived.Lib.OwnBridge
import Derived.Maps.AppendAt
import Derived.RegionTactic
import Derived.Shelf.SlGeneric
import Derived.Shelf.SlicesE.Reverse
import Derived.Test.YtobhnjnffnbbkaaGreatDoorPk3
set_option linter.unusedVariables false
set_option linter.unusedSimpArgs false
namespace Go.Proofs.YtobhnjnffnbbkaaGreatDoor
open Go.RowKit (wrap64)
def digS (n : Int) : Int := if 0 ≤ n ∧ n ≤ 9 then 48 + n else if 10 ≤ n ∧ n ≤ 35 then 55 + n else 63
def isB (b : Int) : Bool := decide (2 ≤ b) && decide (b ≤ 36)
theorem isB_iff (b : Int) : isB b = true ↔ 2 ≤ b ∧ b ≤ 36 := by unfold isB; simp
def chr (n : Nat) : UInt8 := UInt8.ofNat (digS n).toNat
def digL (b : Nat) : Nat → Nat → List Nat
 | 0, _ => []
 | k + 1, u => u % b :: (if u / b = 0 then [] else digL b k (u / b))
def ushowL (u b : Nat) : List UInt8 := ((digL b 64 u).map chr).reverse
def ushowS (n b : Int) : List UInt8 × Int := if isB b then (ushowL (U n) b.toNat, 0) else ([], -24)
def showS (n b : Int) : List UInt8 × Int := if isB b then (if 0 ≤ n then ushowL (U n) b.toNat else 45 :: ushowL (U (wrap64 (-n))) b.toNat, 0) else ([], -24)
theorem base_nat {b : Int} (h : isB b = true) : ∃ B : Nat, b = (B : Int) ∧ 2 ≤ B ∧ B ≤ 36 := by
 rw [isB_iff] at h; exact ⟨b.toNat, by omega, by omega, by omega⟩
end Go.Proofs.YtobhnjnffnbbkaaGreatDoor
namespace Go.Proofs.YtobhnjnffnbbkaaGreatDoor
open Go.RowKit
theorem ret_k {k : IntKind} {a b : Int} (h : a = b) : Ending.returned (.int k a) = .returned (.int k b) := by rw [h]
theorem ret_b {a b : Bool} (h : a = b) : Ending.returned (.bool a) = .returned (.bool b) := by rw [h]
theorem digits_at : ∀ k : Nat, (h : k < 36) → (((ByteArray.mk #[48, 49, 50, 51, 52, 53, 54, 55, 56, 57, 65, 66, 67, 68, 69, 70, 71, 72, 73, 74, 75, 76, 77, 78, 79, 80, 81, 82, 83, 84, 85, 86, 87, 88, 89, 90])[k]'(by exact h)).toNat : Int) = digS k := by decide
theorem num_Digit (n : Int) (w : World) : Calls Tryz.prog 329 #[.int .i64 n] w fun e w' => e = .returned (.int .u8 (digS n)) ∧ w = w' := by
 by_cases h0 : n < 0
 ·have d : decide (n < 0) = true := by simp [h0]
  go_enter Tryz.func329, Tryz.ntmps329
  go_wp2
  go_ret
  exact ⟨ret_k (by unfold digS; rw [if_neg (by omega), if_neg (by omega)]), rfl⟩
 ·by_cases h1 : 36 ≤ n
  ·have d : decide (n < 0) = false := by simp; omega
   have d1 : decide (36 ≤ n) = true := by simp [h1]
   go_enter Tryz.func329, Tryz.ntmps329
   go_wp2
   go_ret
   exact ⟨ret_k (by unfold digS; rw [if_neg (by omega), if_neg (by omega)]), rfl⟩
  ·have d : decide (n < 0) = false := by simp; omega
   have d1 : decide (36 ≤ n) = false := by simp; omega
   obtain ⟨k, rfl⟩ := Int.eq_ofNat_of_zero_le (by omega : 0 ≤ n)
   go_enter Tryz.func329, Tryz.ntmps329
   go_wp2
   go_ret
   exact ⟨ret_k (digits_at k (by omega)), rfl⟩
theorem num_is (b : Int) (w : World) : Calls Tryz.prog 328 #[.int .i64 b] w fun e w' => e = .returned (.bool (isB b)) ∧ w = w' := by
 go_enter Tryz.func328, Tryz.ntmps328
 go_wp2
 all_goals go_ret
 all_goals exact ⟨ret_b (by unfold isB; simp <;> omega), rfl⟩
end Go.Proofs.YtobhnjnffnbbkaaGreatDoor
namespace Go.Proofs
open Go.Shelf
def Tryz.lReverse_ren : Go.Shelf.Ren := ⟨fun | 35 => 330 | n => n, fun | 22 => 24 | 23 => 5 | 3 => 3 | 4 => 4 | 0 => 0 | n => n, fun | n => n⟩
theorem Tryz.lReverse : Go.Proofs.SlLaysE.n35 Tryz.prog Tryz.lReverse_ren := {
 mixed := by kernel_rfl
 f35 := ⟨Tryz.f330.name, by decide, Tryz.func330.trans (congrArg some (by kernel_rfl))⟩
 t0 := Tryz.underlying0
 a0 := Tryz.isAgg0
 z0 := Tryz.sizeOf0
 v0 := Tryz.zeroValue0
 t3 := Tryz.underlying3
 a3 := Tryz.isAgg3
 z3 := Tryz.sizeOf3
 v3 := Tryz.zeroValue3
 t4 := Tryz.underlying4
 a4 := Tryz.isAgg4
 z4 := Tryz.sizeOf4
 v4 := Tryz.zeroValue4
 t22 := Tryz.underlying24
 a22 := Tryz.isAgg24
 z22 := Tryz.sizeOf24
 v22 := Tryz.zeroValue24
 a23 := Tryz.isAgg5
 z23 := Tryz.sizeOf5 }
def Tryz.lClone_ren : Go.Shelf.Ren := ⟨fun | 41 => 332 | n => n, fun | 22 => 24 | 23 => 5 | 4 => 4 | n => n, fun | n => n⟩
theorem Tryz.lClone : Go.Proofs.SlLaysE0.n41 Tryz.prog Tryz.lClone_ren := {
 mixed := by kernel_rfl
 f41 := ⟨Tryz.f332.name, by decide, Tryz.func332.trans (congrArg some (by kernel_rfl))⟩
 t4 := Tryz.underlying4
 a4 := Tryz.isAgg4
 z4 := Tryz.sizeOf4
 v4 := Tryz.zeroValue4
 t22 := Tryz.underlying24
 a22 := Tryz.isAgg24
 z22 := Tryz.sizeOf24
 v22 := Tryz.zeroValue24 }
end Go.Proofs
namespace Go.Proofs.YtobhnjnffnbbkaaGreatDoor
open Go.RowKit
theorem info8 : (Tryz.prog.info? 5).map (fun i => (i.zero, i.size, i.bytes)) = some (some (.int .u8 0), 1, 1) := by kernel_rfl
theorem own_drewN {w w1 : World} {B e s n : Nat} {v : Value} {xs : List Value} {q : Nat} (h : w.ownsRow B e s v n xs) (hw : w1 = w.drewN q) : w1.ownsRow B e s v n xs := by rw [hw]; exact h
theorem bel_drewN {w0 w w1 : World} {B q : Nat} (h : Below B w0 w) (hw : w1 = w.drewN q) : Below B w0 w1 := by rw [hw]; exact below_drewN h q
theorem own_low {w : World} {B e s n : Nat} {v : Value} {xs : List Value} (h : w.ownsRow B e s v n xs) : ∀ k, v.ownBlock = some k → B ≤ k := by
 intro k hk
 rcases h.2 with ⟨rfl, _⟩ | ⟨g, cap, cur, rfl, hb, _⟩
 ·simp [Value.ownBlock] at hk
 ·simp [Value.ownBlock] at hk; omega
theorem own_base {w : World} {B B' e s n : Nat} {v : Value} {xs : List Value} (h : w.ownsRow B e s v n xs) (hB : B' ≤ B) : w.ownsRow B' e s v n xs := by
 refine ⟨h.1, ?_⟩
 rcases h.2 with h1 | ⟨g, cap, cur, e1, hb, h2⟩
 ·exact .inl h1
 ·exact .inr ⟨g, cap, cur, e1, by omega, h2⟩
theorem rev_own (w : World) (B : Nat) (v : Value) (n : Nat) (zs : List Int) (h : w.ownsRow B 5 1 v n (zs.map (Value.int .u8))) (hn : n ≤ 9223372036854775807) :
  Calls Tryz.prog 330 #[v] w fun e w' => e = .returned (.tuple #[]) ∧ w'.ownsRow B 5 1 v n (zs.reverse.map (Value.int .u8)) ∧ ∀ w0, Below B w0 w → Below B w0 w' := by
 by_cases hv : v = .slice none 0 0
 ·have h0 : n = 0 := by
   rcases h.2 with ⟨_, h⟩ | ⟨g, cap, cur, h, _⟩
   ·exact h
   ·rw [h] at hv; cases hv
  have hz : zs = [] := List.eq_nil_of_length_eq_zero (by have := h.1; simp at this; omega)
  subst hz hv
  refine (AnyE.slices_Reverse_empty Tryz.lReverse none 0 w).mono ?_
  rintro e w' ⟨rfl, rfl⟩
  exact ⟨rfl, h, fun _ hb => hb⟩
 ·obtain ⟨g, cap, rfl, hb, _, _, _, hl, hH⟩ := Lib.holds_of_ownsRow h hv
  subst hl
  refine (AnyE.slices_Reverse Tryz.lReverse (Value.int .u8) (fun _ => rfl) g 0 cap zs w hH hn).mono ?_
  rintro e w' ⟨rfl, q, rfl⟩
  refine ⟨rfl, ?_, fun w0 hw => Lib.below_putRow hw hb⟩
  have := Lib.ownsRow_putRow (q := q) h (ys := zs.reverse) (by simp) (Nat.le_refl _)
  rw [List.take_of_length_le (by simp)] at this
  exact this
theorem text_own {w : World} {B n : Nat} {v : Value} {zs : List Int} (h : w.ownsRow B 5 1 v n (zs.map (Value.int .u8))) :
  (convert 24 9 v).run Tryz.prog w = .ok (.string (strOfNums zs)) w := by
 by_cases hv : v = .slice none 0 0
 ·have h0 : n = 0 := by
   rcases h.2 with ⟨_, h⟩ | ⟨g, cap, cur, h, _⟩
   ·exact h
   ·rw [h] at hv; cases hv
  have hz : zs = [] := List.eq_nil_of_length_eq_zero (by have := h.1; simp at this; omega)
  subst hz hv
  exact run_convert_bytes_nil (w := w) 24 5 Tryz.underlying24 Tryz.underlying5 0 0 9 Tryz.underlying9
 ·obtain ⟨g, cap, rfl, hb, _, _, _, hl, hH⟩ := Lib.holds_of_ownsRow h hv
  subst hl
  refine run_convert_bytes_arg w 24 5 Tryz.underlying24 Tryz.underlying5 g 0 zs.length cap zs rfl (fun i hi => ?_) 9 Tryz.underlying9
  rw [(hH i (by simpa using hi)).1]
  simp [List.getD, hi]
end Go.Proofs.YtobhnjnffnbbkaaGreatDoor
namespace Go.Proofs.YtobhnjnffnbbkaaGreatDoor
open Go.RowKit
def digI (ds : List Nat) : List Int := ds.map fun d : Nat => digS (d : Int)
theorem digI_snoc (ds : List Nat) (d : Nat) : digI (ds ++ [d]) = digI ds ++ [digS (d : Int)] := by simp [digI]
theorem r_pos {u r B : Nat} (hz : ¬ u / B = 0) (h : u < 2 ^ (r + 1)) (hB : 2 ≤ B) : 1 ≤ r := by
 rcases Nat.eq_zero_or_pos r with rfl | h1
 ·exact absurd (Nat.div_eq_of_lt (by simp at h; omega)) hz
 ·exact h1
theorem U_less {u B : Nat} (hu : u < 18446744073709551616) (hz : ¬ u / B = 0) (hB : 2 ≤ B) : U (S (u / B)) < U (S u) := by
 have h0 : 0 < u := Nat.pos_of_ne_zero (fun e => hz (by rw [e]; exact Nat.zero_div B))
 rw [U_S u hu, U_S (u / B) (Nat.lt_of_le_of_lt (Nat.div_le_self u B) hu)]
 exact Nat.div_lt_self h0 hB
def measU (v : Value) : Nat := U (intOf v)
theorem measU_is (x : Int) : measU (.int .i64 x) = U x := by unfold measU; simp [intOf]
theorem measU_less {u B : Nat} (hu : Hid (u < 18446744073709551616)) (hz : Hid (¬ u / B = 0)) (hB : 2 ≤ B) : measU (.int .i64 (S (u / B))) < measU (.int .i64 (S u)) := by
 rw [measU_is, measU_is]; exact U_less hu.out hz.out hB
def dig0 (B u : Nat) : List Nat := digL B 64 u
theorem dig0_start (B u : Nat) : Hid ([] ++ digL B 64 u = dig0 B u) := Lib.hid rfl
theorem len_start : Hid (([] : List Nat).length + 64 = 64) := Lib.hid rfl
theorem own_start (w : World) (e : TypeId) : w.ownsRow w.heap.size e 1 (.slice none 0 0) ([] : List Nat).length ((digI []).map (Value.int .u8)) := ⟨rfl, .inl ⟨rfl, rfl⟩⟩
theorem two64 {u : Nat} (h : u < 18446744073709551616) : Hid (u < 2 ^ 64) := Lib.hid (by rw [show (2:Nat)^64 = 18446744073709551616 from by decide]; exact h)
theorem digL_more {B r u : Nat} {ds all : List Nat} (h : ds ++ digL B (r + 1) u = all) (hz : ¬ u / B = 0) : (ds ++ [u % B]) ++ digL B r (u / B) = all := by
 rw [← h]; simp only [digL, hz, if_false, List.append_assoc, List.singleton_append]
theorem digL_end {B r u : Nat} {ds all : List Nat} (h : ds ++ digL B (r + 1) u = all) (hz : u / B = 0) : ds ++ [u % B] = all := by
 rw [← h]; simp only [digL, hz, if_true]
theorem udivS_small (u B : Nat) (hu : u < 18446744073709551616) (h2 : 2 ≤ B) (h3 : B ≤ 36) : udivS (S u) 0 (B : Int) = (S (u / B), ((u % B : Nat) : Int), 0) := by
 have e1 : U (B : Int) = B := by unfold U; omega
 have e2 : U (0 : Int) = 0 := by decide
 have e3 : PU (S u) 0 = u := by unfold PU; rw [U_S u hu, e2]; omega
 unfold udivS
 rw [if_neg (by omega), e1, e2, if_neg (by omega), e3]
 have hm := Nat.mod_lt u (show 0 < B by omega)
 have : S (u % B) = ((u % B : Nat) : Int) := by unfold S; exact wrap64_fit _ (by omega)
 rw [this]
theorem S_zero {u : Nat} (h : u < 18446744073709551616) : S u = 0 ↔ u = 0 := by unfold S wrap64; omega
theorem pow_half {u r B : Nat} (h : u < 2 ^ (r + 1)) (hB : 2 ≤ B) : u / B < 2 ^ r := by
 rw [Nat.pow_succ] at h
 have := Nat.div_le_div_left hB (show 0 < 2 by omega) (a := u)
 omega
theorem chr_text (ds : List Nat) : strOfNums (digI ds).reverse = ⟨((ds.map chr).reverse).toArray⟩ := by
 unfold strOfNums chr digI
 congr 1
 rw [← List.map_reverse, List.map_map, ← List.map_reverse]
 rfl
set_option maxRecDepth 100000 in
set_option maxHeartbeats 1000000 in
theorem num_UShow (n b : Int) (w : World) (hn : Fit n) : Calls Tryz.prog 253 #[.int .i64 n, .int .i64 b] w fun e w' => e = .returned (.tuple #[.string ⟨(ushowS n b).1.toArray⟩, .int .i64 (ushowS n b).2]) ∧ Below w.heap.size w w' := by
 by_cases hb : isB b = true
 ·obtain ⟨B, rfl, h2, h3⟩ := base_nat hb
  have e : ushowS n (B : Int) = (ushowL (U n) B, 0) := by unfold ushowS; rw [if_pos hb, Int.toNat_natCast]
  have E := Lib.hid e
  have EN := Lib.hid (S_U n hn)
  obtain ⟨i0, hi, hz0, hz1, hz2⟩ := info_parts info8
  clear e
  go_enter Tryz.func253, Tryz.ntmps253
  go_wp2_with (go_at_call 328; refine (num_is _ _).mono ?_; rintro e w' ⟨rfl, rfl⟩)
  go_loopw [0, 6] (fun n0 v wr => ∃ (r u : Nat) (ds : List Nat), n0 = .int .i64 (S u) ∧ Hid (u < 18446744073709551616) ∧ Hid (u < 2 ^ r) ∧ 1 ≤ r ∧ Hid (ds.length + r = 64) ∧ Hid (ds ++ digL B r u = dig0 B (U n)) ∧
   wr.ownsRow w.heap.size 5 1 v ds.length ((digI ds).map (Value.int .u8)) ∧ Below w.heap.size w wr) (fun n0 _ _ => measU n0)
  case atStart => exact ⟨64, U n, [], by rw [EN.out], U_lt n, two64 (U_lt n), by omega, len_start, dig0_start _ _, own_start _ _, Below.refl _ _⟩
  case round =>
   obtain ⟨r, u, ds, rfl, hu, hur, hr1, hlen, hds, hown, hbel⟩ := hrel
   obtain ⟨r, rfl⟩ : ∃ r', r = r' + 1 := ⟨r - 1, by omega⟩
   have D0 := fun w => cell_UDiv (S u) 0 (B : Int) w
   rw [udivS_small u B hu.out h2 h3] at D0
   have D := Lib.hid D0
   clear D0
   have hm := Nat.mod_lt u (show 0 < B by omega)
   have hq : u / B < 18446744073709551616 := Nat.lt_of_le_of_lt (Nat.div_le_self _ _) hu.out
   have hds64 : ds.length ≤ 63 := by have := hlen.out; omega
   by_cases hz : u / B = 0
   ·have t : (S (u / B) == 0) = true := by rw [hz]; decide +kernel
    have hds' := Lib.hid (digL_end hds.out hz)
    have HZ := Lib.hid hz
    clear hq hz hds
    go_wp2_with (first
     | (go_at_call 202; refine (D.out _).mono ?_; rintro e w1 ⟨rfl, n1, hw1⟩; have hown1 := own_drewN hown hw1; have hbel1 := bel_drewN hbel hw1; clear hw1)
     | (go_at_call 329; refine (num_Digit _ _).mono ?_; rintro e w' ⟨rfl, rfl⟩)
     | (at_builtin; refine wpList_append_own _ rfl _ _ 24 rfl w.heap.size 5 i0 (.int .u8 0) 1 1 Tryz.underlying24 hi hz0 hz1 hz2 rfl (by decide) _ _ _ rfl (hown1.alloc _) ⟨w1.heap.size, 0, none⟩ 1 1 [.int .u8 (digS ((u : Int) % (B : Int)))] rfl rfl ?c1 ?c2 ?c3 ?c4 ?c5 ?_))
    case c1 => exact cell_one_new _ _ _
    case c2 => simp [Value.oneCell']
    case c3 => unfold maxLen; omega
    case c4 => omega
    case c5 => have := hbel1.size; simp; omega
    intro v' w2 hown2 hgrow _
    have hown3 : w2.ownsRow w.heap.size 5 1 v' (ds ++ [u % B]).length ((digI (ds ++ [u % B])).map (Value.int .u8)) := by
     rw [digI_snoc, List.map_append, List.length_append]; exact hown2
    have hbel2 : Below w.heap.size w w2 := (hbel1.alloc hbel1.size _).grown hgrow (by have := hbel1.size; simp; omega) (own_low hown1)
    have RV := Lib.hid (rev_own w2 w.heap.size v' _ _ hown3 (by simp; omega))
    clear hown hown1 hown2 hgrow hown3
    go_wp2_with fail
    refine RV.out.mono ?_
    rintro e w3 ⟨rfl, hown5, hb5⟩
    have hbel5 := hb5 w hbel2
    have hcv := text_own hown5
    rw [hds'.out, chr_text] at hcv
    clear hown5 hb5
    go_wp2
    go_ret2
    exact ⟨by rw [E.out]; rfl, hbel5⟩
   ·have t : (S (u / B) == 0) = false := by simp only [beq_eq_false_iff_ne]; intro h; exact hz ((S_zero hq).1 h)
    have HQ := Lib.hid hq
    have hds' := Lib.hid (digL_more hds.out hz)
    have HZ := Lib.hid hz
    clear hq hz hds
    go_wp2_with (first
     | (go_at_call 202; refine (D.out _).mono ?_; rintro e w1 ⟨rfl, n1, hw1⟩; have hown1 := own_drewN hown hw1; have hbel1 := bel_drewN hbel hw1; clear hw1)
     | (go_at_call 329; refine (num_Digit _ _).mono ?_; rintro e w' ⟨rfl, rfl⟩)
     | (at_builtin; refine wpList_append_own _ rfl _ _ 24 rfl w.heap.size 5 i0 (.int .u8 0) 1 1 Tryz.underlying24 hi hz0 hz1 hz2 rfl (by decide) _ _ _ rfl (hown1.alloc _) ⟨w1.heap.size, 0, none⟩ 1 1 [.int .u8 (digS ((u : Int) % (B : Int)))] rfl rfl ?c1 ?c2 ?c3 ?c4 ?c5 ?_))
    case c1 => exact cell_one_new _ _ _
    case c2 => simp [Value.oneCell']
    case c3 => unfold maxLen; omega
    case c4 => omega
    case c5 => have := hbel1.size; simp; omega
    intro v' w2 hown2 hgrow _
    have hown3 : w2.ownsRow w.heap.size 5 1 v' (ds ++ [u % B]).length ((digI (ds ++ [u % B])).map (Value.int .u8)) := by
     rw [digI_snoc, List.map_append, List.length_append]; exact hown2
    have hbel2 : Below w.heap.size w w2 := (hbel1.alloc hbel1.size _).grown hgrow (by have := hbel1.size; simp; omega) (own_low hown1)
    clear hown hown1 hown2 hgrow
    go_wp2_with fail
    go_roundw
    case rel => exact ⟨r, u / B, ds ++ [u % B], rfl, HQ.out, pow_half hur.out h2, r_pos HZ.out hur.out h2, by have := hlen.out; show _ = _; simp; omega, hds', hown3, hbel2⟩
    case measure => exact measU_less hu HZ h2
 ·have e : ushowS n b = ([], -24) := by unfold ushowS; rw [if_neg hb]
  have E := Lib.hid e
  simp only [Bool.not_eq_true] at hb
  clear e
  go_enter Tryz.func253, Tryz.ntmps253
  go_wp2_with (go_at_call 328; refine (num_is _ _).mono ?_; rintro e w' ⟨rfl, rfl⟩)
  go_ret2
  exact ⟨by rw [E.out]; rfl, Below.refl _ _⟩
end Go.Proofs.YtobhnjnffnbbkaaGreatDoor
namespace Go.Proofs.YtobhnjnffnbbkaaGreatDoor
open Go.RowKit
theorem str_eq {a b : ByteArray} (h : a.data.toList = b.data.toList) : a = b := by
 apply ByteArray.ext; exact Array.toList_inj.1 h
theorem ret_si {a b : ByteArray} {x y : Int} (h : a = b) (g : x = y) : Ending.returned (.tuple #[.string a, .int .i64 x]) = .returned (.tuple #[.string b, .int .i64 y]) := by rw [h, g]
theorem digL_le (B : Nat) : ∀ k u, (digL B k u).length ≤ k := by
  intro k
  induction k with
  | zero => intro u; simp [digL]
  | succ k ih => intro u; simp only [digL, List.length_cons]; split
                 · simp
                 · have := ih (u / B); omega
theorem ushowL_len (u B : Nat) : (ushowL u B).length ≤ 64 := by unfold ushowL; simpa using digL_le B 64 u
theorem num_Show (n b : Int) (w : World) (hn : Fit n) : Calls Tryz.prog 252 #[.int .i64 n, .int .i64 b] w fun e w' => e = .returned (.tuple #[.string ⟨(showS n b).1.toArray⟩, .int .i64 (showS n b).2]) ∧ Below w.heap.size w w' := by
 by_cases h0 : 0 ≤ n
 ·have e : showS n b = ushowS n b := by unfold showS ushowS; simp only [h0, if_true]
  rw [e]
  have H := Lib.hid (num_UShow n b w hn)
  go_enter Tryz.func252, Tryz.ntmps252
  go_wp2_with (go_at_call 253; refine H.out.mono ?_; rintro e w1 ⟨rfl, hb⟩)
  go_ret2
  exact ⟨rfl, hb⟩
 ·have h1 : decide (0 ≤ n) = false := by simp; omega
  by_cases hb : isB b = true
  ·have e : ushowS (wrap64 (-n)) b = (ushowL (U (wrap64 (-n))) b.toNat, 0) := by unfold ushowS; rw [if_pos hb]
   have e2 : showS n b = (45 :: ushowL (U (wrap64 (-n))) b.toNat, 0) := by unfold showS; rw [if_pos hb]; simp only [h0, if_false]
   have H0 := num_UShow (wrap64 (-n)) b w (wrap64_rng _)
   rw [e] at H0
   clear e
   have hl := ushowL_len (U (wrap64 (-n))) b.toNat
   generalize ushowL (U (wrap64 (-n))) b.toNat = l at H0 e2 hl
   have H := Lib.hid H0
   have E2 := Lib.hid e2
   clear e2 H0
   go_enter Tryz.func252, Tryz.ntmps252
   go_wp2_with (go_at_call 253; refine H.out.mono ?_; rintro e w1 ⟨rfl, hb⟩)
   go_ret2
   exact ⟨by rw [E2.out]; exact ret_si (str_eq (by simp)) rfl, hb⟩
  ·have e : ushowS (wrap64 (-n)) b = ([], -24) := by unfold ushowS; rw [if_neg hb]
   have e2 : showS n b = ([], -24) := by unfold showS; rw [if_neg hb]
   have H0 := num_UShow (wrap64 (-n)) b w (wrap64_rng _)
   rw [e] at H0
   have H := Lib.hid H0
   have E2 := Lib.hid e2
   clear e e2 H0
   go_enter Tryz.func252, Tryz.ntmps252
   go_wp2_with (go_at_call 253; refine H.out.mono ?_; rintro e w1 ⟨rfl, hb⟩)
   go_ret2
   exact ⟨by rw [E2.out]; rfl, hb⟩
end Go.Proofs.YtobhnjnffnbbkaaGreatDoor
namespace Go.Proofs.YtobhnjnffnbbkaaGreatDoor
open Go.RowKit
def tShow (r : List UInt8 × Int) : PV := tup2 (str r.1) (i64 r.2)
@[simp] theorem flat_tShow (r : List UInt8 × Int) : Flat (tShow r) := by simp [tShow]
theorem pureS {P : Program} {f : FuncId} {args : List Value} {r : List UInt8 × Int} (h : ∀ w, Calls P f args.toArray w fun e w' => e = .returned (.tuple #[.string ⟨r.1.toArray⟩, .int .i64 r.2]) ∧ Grows w w') : PureC P f (args.map .val) (tShow r) :=
 pure_of_calls (v := .tuple #[.string ⟨r.1.toArray⟩, .int .i64 r.2]) (fun c => by unfold tShow tup2 Rep; exact ⟨[_, _], rfl, repL_cons.2 ⟨rep_val _ _, repL_cons.2 ⟨rep_val _ _, repL_nil.2 rfl⟩⟩⟩) h
theorem gbelow {w : World} {v : Value} : ∀ {e : Ending} {w' : World}, (e = .returned v ∧ Below w.heap.size w w') → (e = .returned v ∧ Grows w w') := by rintro e w' ⟨h, k⟩; exact ⟨h, Grows.of_below k⟩
theorem k_Show (n b : Int) (hn : Fit n) : PureC Tryz.prog 252 [i64 n, i64 b] (tShow (showS n b)) := pureS (args := [.int .i64 n, .int .i64 b]) fun w => Calls.mono (num_Show n b w hn) fun _ _ h => gbelow h
theorem k_UShow (n b : Int) (hn : Fit n) : PureC Tryz.prog 253 [i64 n, i64 b] (tShow (ushowS n b)) := pureS (args := [.int .i64 n, .int .i64 b]) fun w => Calls.mono (num_UShow n b w hn) fun _ _ h => gbelow h
theorem k_Digit (n : Int) : PureC Tryz.prog 329 [i64 n] (.val (.int .u8 (digS n))) := pure_of_calls (args := [.int .i64 n]) (fun c => rep_val _ _) fun w => Calls.mono (num_Digit n w) fun _ _ h => gsame h
end Go.Proofs.YtobhnjnffnbbkaaGreatDoor
namespace Go.Proofs.YtobhnjnffnbbkaaGreatDoor
open Go.RowKit
set_option maxRecDepth 100000
theorem rep_new_bytes {B : Nat → Nat → Prop} {H : List Ob} {σ : Nat → Option Nat} {w w' : World} (s : Sim B H σ w) (g : Grows w w') {xs : List Int} {b c : Nat} (hb : w.heap.size ≤ b) (hl : xs.length ≤ c) (hc : ∀ i, i < xs.length → w'.cell? ⟨b, i, none⟩ = some (.int .u8 (xs.getD i 0))) :
  Rep (cx B H σ w') (.seq xs.length (xs.map byteP) .any) (.slice (some ⟨b, 0, none⟩) xs.length c) := by
 unfold Rep
 refine ⟨_, c, xs.map (Value.int .u8), rfl, hl, (fun h => by cases h), ?_, fun a ha => ?_, trivial⟩
 ·clear hc hl
  induction xs with
  | nil => exact repL_nil.2 rfl
  | cons x l ih => exact repL_cons.2 ⟨rep_val _ _, ih⟩
 ·cases ha
  refine .inl ⟨rfl, fun j u hj => ⟨?_, ?_⟩⟩
  ·have hjl : j < xs.length := by have := lt_of_get hj; simpa using this
   show w'.cell? ⟨b, 0 + j, none⟩ = some u
   rw [Nat.zero_add, hc j hjl]
   rw [List.getElem?_map, List.getElem?_eq_getElem hjl] at hj
   simp only [Option.map_some, Option.some.injEq] at hj
   rw [← hj]; simp [List.getD, hjl]
  ·rintro (h | ⟨i, oi, h1, h2, h3⟩)
   ·have := s.base _ _ h; dsimp only at this; omega
   ·have hl : oi.live = true := by cases oi <;> first | rfl | cases h3
    have := (s.holds i oi h1).lt hl h2
    simp only [cx] at this; omega
theorem b8_rng (u : Nat) : ∀ x ∈ bytes8 u, 0 ≤ x ∧ x < 256 := by
 intro x hx
 simp only [bytes8, List.mem_cons, List.not_mem_nil, or_false] at hx
 omega
def putC (n : Int) : List UInt8 := (bytes8 (U n)).map fun x => UInt8.ofNat x.toNat
theorem putC_len (n : Int) : (putC n).length = 8 := rfl
theorem putC_row (n : Int) : PV.seq 8 ((bytes8 (U n)).map byteP) .any = sq cByte (putC n) := by
 unfold sq putC
 rw [cByte_map, List.map_map, List.map_map]
 have : ∀ x ∈ bytes8 (U n), byteP x = (byteP ∘ (fun b : UInt8 => (b.toNat : Int)) ∘ fun x => UInt8.ofNat x.toNat) x := by
  intro x hx
  have := b8_rng (U n) x hx
  simp only [Function.comp]
  rw [UInt8.toNat_ofNat']
  congr 1
  omega
 rw [List.map_congr_left this]
 rfl
theorem put_of_gives {f : FuncId} (n : Int) (h : ∀ w, Calls Tryz.prog f #[.int .i64 n] w (GivesBytes (bytes8 (U n)) w)) : PureC Tryz.prog f [i64 n] (sq cByte (putC n)) := by
 rw [← putC_row]
 intro H B σ w vs s hv
 have := repL_vals (l := [.int .i64 n]) hv
 subst this
 refine Calls.mono (h w) ?_
 rintro e w' ⟨b, c, rfl, hb, hl, hc, hbel⟩
 have g := Grows.of_below hbel
 obtain ⟨s', st⟩ := grow_sim s g
 exact ⟨_, σ, rfl, rep_new_bytes s g hb hl hc, s', st⟩
theorem cell_put8 (n : Int) : PureC Tryz.prog 315 [i64 n] (sq cByte (putC n)) := put_of_gives n (cell_Put n)
theorem ref_put8 (n : Int) : PureC Tryz.prog 59 [i64 n] (sq cByte (putC n)) := put_of_gives n (ref_Put n)
def laidB (l : List UInt8) (k : Nat) (b : List UInt8) : List UInt8 := l.take k ++ b ++ l.drop (k + b.length)
theorem laidB_len {l b : List UInt8} {k : Nat} (h : k + b.length ≤ l.length) : (laidB l k b).length = l.length := by simp [laidB]; omega
theorem splice_all {xs ys : List PV} (h : ys.length = xs.length) : splice xs 0 ys = ys := by simp [splice, h]
theorem cB_take (l : List UInt8) (k : Nat) : (l.flatMap cByte).take k = (l.take k).flatMap cByte := by
 have := flatMap_take cByte 1 (fun _ => rfl) k l
 rwa [Nat.mul_one] at this
theorem cB_drop (l : List UInt8) (k : Nat) : (l.flatMap cByte).drop k = (l.drop k).flatMap cByte := by
 have := flatMap_drop cByte 1 (fun _ => rfl) k l
 rwa [Nat.mul_one] at this
theorem cB_len (l : List UInt8) : (l.flatMap cByte).length = l.length := by rw [flatMap_len cByte 1 (fun _ => rfl), Nat.mul_one]
theorem laid_flat (l b : List UInt8) (k : Nat) : splice (l.flatMap cByte) k (b.flatMap cByte) = (laidB l k b).flatMap cByte := by
 unfold splice laidB
 rw [cB_take, cB_len, cB_drop, List.flatMap_append, List.flatMap_append]
theorem laid_copy {l b : List UInt8} {k c : Nat} (h : k + b.length ≤ l.length) (hc : c = if l.length = k then 0 else 0 + k * 1) : splice (l.flatMap cByte) c ((b.flatMap cByte).take (min b.length (l.length - k) * 1)) = (laidB l k b).flatMap cByte := by
 rw [Nat.min_eq_left (by omega), Nat.mul_one, List.take_of_length_le (by rw [cB_len]; exact Nat.le_refl _)]
 rw [← laid_flat]
 split at hc
 ·have : b = [] := List.eq_nil_of_length_eq_zero (by omega)
  subst this
  subst hc
  simp [splice]
 ·rw [hc]; congr 1; omega
theorem laid_zero {l : List UInt8} {d : TD} (hs : d.size = 1) (hz : d.zero.length = 1) {e : TypeId} : [Ob.cells (l.flatMap cByte) e] = [Ob.cells (splice (zerosPV (l.length : Int).toNat d) 0 (List.take (min l.length (l.length : Int).toNat * d.size) (List.flatMap cByte l))) e] := by
 rw [Int.toNat_natCast, Nat.min_self, hs, Nat.mul_one, List.take_of_length_le (by rw [cB_len]; exact Nat.le_refl _), splice_all (by rw [zerosPV_len _ _ (by rw [hs, hz]), cB_len, hs, Nat.mul_one])]
theorem laid_sq {l b : List UInt8} {k : Nat} (h : k + b.length ≤ l.length) : PV.seq (l.length : Int).toNat (((laidB l k b).flatMap cByte).take (laidB l k b).length) .any = sq cByte (laidB l k b) := by
 rw [cB_take, List.take_length, Int.toNat_natCast]
 unfold sq
 rw [laidB_len h]
theorem mem_laid (l : List UInt8) (at_ : Int) (b : List UInt8) (hl : l.length ≤ 1000000) (h0 : 0 ≤ at_) (h1 : at_ + b.length ≤ l.length) : PureC Tryz.prog 334 [sq cByte l, i64 at_, sq cByte b] (sq cByte (laidB l at_.toNat b)) := by
 refine pW tG (rs := [.tmp 6]) Tryz.func334 rfl rfl rfl (by simp) (by simp) (fun B => ?_)
 refine zu1 ?_
 refine zp2 ?_
 refine z2 ?_ (q := (by (simp_all; omega)))
 refine zs1 ?_
 refine zp2 ?_
 refine Wd rfl rfl (does_copy (lO tG rfl) rfl (lO tG rfl) rfl rfl rfl rfl (flatMap_len _ 1 (fun _ => rfl) _) (okC_flat _ (fun _ => rfl) _) (by rw [zerosPV_len _ _ rfl]; simp)) ?_
 refine WO_ob (H' := [.cells (l.flatMap cByte) 5]) (laid_zero rfl rfl) ?_
 refine Wn ?_
 refine zp2 ?_
 refine z2 ?_ (q := (by (simp_all; omega)))
 refine z1 ?_
 refine Wd rfl rfl (does_copy (lO tG rfl) rfl (lO tG rfl) rfl rfl rfl rfl (flatMap_len _ 1 (fun _ => rfl) _) (okC_flat _ (fun _ => rfl) _) (by rw [cB_len]; dsimp only; split <;> omega)) ?_
 refine WO_ob (H' := [.cells ((laidB l at_.toNat b).flatMap cByte) 5]) (congrArg (fun z => [Ob.cells z 5]) (laid_copy (by omega) rfl).symm) ?_
 refine Wn ?_
 refine zp1 ?_
 refine Wm 19 rfl (imp_arr_arw (Nat.le_refl _)) ?_
 refine WO_freeze 19 0 _ (laidB l at_.toNat b).length rfl rfl (by rw [cB_len]; exact Nat.le_refl _) ?_
 refine Wa 19 rfl (laid_sq (by omega)) ?_
 refine zs1 ?_
 refine zR ?_
 rfl
end Go.Proofs.YtobhnjnffnbbkaaGreatDoor
namespace Go.Proofs.YtobhnjnffnbbkaaGreatDoor
open Go.RowKit
set_option maxRecDepth 100000
structure MemOk (m : VMem) : Prop where
 b : m.b.length ≤ 1000000
 old : m.old.length ≤ 1000000
def memWrite (m : VMem) (at_ : Int) (b : List UInt8) : VMem × Int :=
 if memThere m at_ b.length then (if b = [] then (m, 0) else (⟨laidB m.b at_.toNat b, m.old ++ [⟨at_, (m.b.drop at_.toNat).take b.length⟩]⟩, 0)) else (m, -9)
def tMem (r : VMem × Int) : PV := tup2 (eMem r.1) (i64 r.2)
@[simp] theorem flat_tMem (r : VMem × Int) : Flat (tMem r) := by simp [tMem]
theorem fitN {n : Nat} (h : n ≤ 1000000) : Fit64 n := by unfold Fit64; omega
theorem there_in {m : VMem} {at_ : Int} {n : Nat} (h : memThere m at_ n = true) (h0 : n ≠ 0) : 0 ≤ at_ ∧ at_ + n ≤ m.b.length := by
 unfold memThere at h
 simp only [decide_eq_true_eq] at h
 omega
theorem wrap_in {x : Int} (h0 : 0 ≤ x) (h1 : x ≤ 1000000) : IntKind.i64.wrap x = x := by rw [i64w]; unfold wrap64; omega
theorem sub_row {l : List UInt8} {a b : Nat} : (l.take b).drop a = (l.drop a).take (b - a) := by rw [List.drop_take]
theorem cut_row {l : List UInt8} {x : Int} {n : Nat} (h0 : 0 ≤ x) (h : IntKind.i64.wrap (x + n) = x + n) : sq cByte ((l.take (IntKind.i64.wrap (x + n)).toNat).drop x.toNat) = sq cByte ((l.drop x.toNat).take n) := by
 rw [h, sub_row]; congr 2; omega
theorem memWrite_no {m : VMem} {at_ : Int} {b : List UInt8} (h : memThere m at_ b.length = false) : memWrite m at_ b = (m, -9) := by unfold memWrite; rw [h]; rfl
theorem memWrite_nil {m : VMem} {at_ : Int} {b : List UInt8} (h : memThere m at_ b.length = true) (h0 : b.length = 0) : memWrite m at_ b = (m, 0) := by unfold memWrite; rw [h, if_pos rfl, if_pos (List.eq_nil_of_length_eq_zero h0)]
theorem memWrite_yes {m : VMem} {at_ : Int} {b : List UInt8} (h : memThere m at_ b.length = true) (h0 : b.length ≠ 0) : memWrite m at_ b = (⟨laidB m.b at_.toNat b, m.old ++ [⟨at_, (m.b.drop at_.toNat).take b.length⟩]⟩, 0) := by
 unfold memWrite; rw [h, if_pos rfl, if_neg (fun e => h0 (by rw [e]; rfl))]
theorem mem_Write (m : VMem) (at_ : Int) (b : List UInt8) (hm : MemOk m) (ha : Fit64 at_) (hb : b.length ≤ 1000000) : PureC Tryz.prog 266 [eMem m, i64 at_, sq cByte b] (tMem (memWrite m at_ b)) := by
 have hm1 := hm.b
 have hm2 := hm.old
 refine pW tG (rs := [.cell 6 27, .tmp 7]) Tryz.func266 rfl rfl rfl (by simp) (by simp) (fun B => ?_)
 refine zu3 ?_
 refine Ws ?_
 refine zp4 ?_
 refine Wc rfl rfl (dC rfl Tryz.func141 rfl rfl ((mem_there m at_ b.length (by omega) ha (fitN hb)) _)) ?_
 refine zs1 ?_
 refine Wi rfl (fun hi1 => ?_) (fun hi1 => ?_)
 ·rw [memWrite_no (by simpa using hi1)]
  refine zu3 ?_
  refine zR ?_
  rfl
 ·have ht : memThere m at_ b.length = true := by simpa using hi1
  refine Wj ?_
  refine Ws ?_
  refine zu3 ?_
  refine Wi rfl (fun hi2 => ?_) (fun hi2 => ?_)
  ·rw [memWrite_nil ht (by simpa using hi2)]
   refine zu3 ?_
   refine zR ?_
   rfl
  ·have hne : b.length ≠ 0 := by simpa using hi2
   obtain ⟨k0, k1⟩ := there_in ht hne
   have k2 : IntKind.i64.wrap (at_ + b.length) = at_ + b.length := wrap_in (by omega) (by omega)
   refine Wj ?_
   refine Ws ?_
   refine W_drawU [0, 1, 0, 0, 0, 1, 0, 0, 0, 0, 0, 0, 0, 0, 0, 0, 0, 3] [0, 1, 2, 3, 4, 5, 6, 7, 8, 9, 10, 11, 12, 13, 14, 15, 16, 17] mG rfl (by kernel_rfl) ?_
   refine z3 ?_
   refine z5 ?_
   refine Xc rfl rfl rfl rfl (fun _ => dC rfl Tryz.func333 rfl rfl ((clip_patches m.old (by omega)) _)) ?_
   iterate 2 refine z3 ?_
   refine z5 ?_
   iterate 5 refine z3 ?_
   refine z4 ?_ (q := (by rw [k2]; omega))
   refine Xa 30 rfl (sq_slice cByte 1 (fun _ => rfl) (by rw [k2]; omega)) ?_
   refine Xc rfl rfl rfl rfl (fun _ => dC rfl Tryz.func276 rfl rfl ((bytes_Clone _ (by simp; omega)) _)) ?_
   refine Xa 31 rfl (cut_row k0 k2) ?_
   iterate 2 refine z3 ?_
   refine Xa 33 rfl ((show PV.seq 1 _ .clip = .seq (List.length [(⟨at_, (m.b.drop at_.toNat).take b.length⟩ : VPatch)]) (List.flatMap cPatch [(⟨at_, (m.b.drop at_.toNat).take b.length⟩ : VPatch)]) .clip from rfl)) ?_
   refine WU_does0 rfl rfl rfl rfl (fun _ => does_append_drawn (lO tG rfl) rfl (lO tG rfl) (lO tG rfl) rfl rfl (by exact ⟨_, rfl⟩) (by exact ⟨rfl, rfl, flatMap_len _ 2 (fun _ => rfl) _, okC_flat _ (fun _ => rfl) _⟩) (by exact flatMap_len _ 2 (fun _ => rfl) _) (by ((simp_all; omega))) (by ((simp_all; omega))) (by exact flatL_app (flatL_map' (fun x => by simp) _) (flatL_map' (fun x => by simp) _))) ?_
   refine Xa 34 rfl (sq_append cPatch) ?_
   refine z3 ?_
   refine WU_ev3 tG rfl rfl rfl rfl rfl trivial ?_
   refine WU_nil ?_
   refine zp4 ?_
   refine Wc rfl rfl (dC rfl Tryz.func334 rfl rfl ((mem_laid _ _ _ hm1 k0 k1) _)) ?_
   refine zs2 ?_
   refine zu3 ?_
   refine zR ?_
   rw [memWrite_yes ht hne]; rfl
end Go.Proofs.YtobhnjnffnbbkaaGreatDoor
namespace Go.Proofs.YtobhnjnffnbbkaaGreatDoor
open Go.RowKit
set_option maxRecDepth 100000
def loB (n : Int) : UInt8 := UInt8.ofNat (n % 256).toNat
theorem loB_wrap (n : Int) : IntKind.u8.wrap n = ((loB n).toNat : Int) := by
 unfold loB
 rw [UInt8.toNat_ofNat']
 simp [IntKind.wrap, IntKind.bits, IntKind.signed]
 omega
theorem loB_pv (n : Int) : PV.val (.int .u8 (IntKind.u8.wrap n)) = .val (.int .u8 ((loB n).toNat : Int)) := by rw [loB_wrap]
def memStore (m : VMem) (at_ n : Int) : VMem × Int := if memCellAt m at_ = 0 then memWrite m at_ (putC n) else (m, memCellAt m at_)
def memStoreByte (m : VMem) (at_ n : Int) : VMem × Int := memWrite m at_ [loB n]
def memFetchByte (m : VMem) (at_ : Int) : Int × Int := if memThere m at_ 1 then (((m.b.getD at_.toNat 0).toNat : Int), 0) else (0, -9)
def memText (m : VMem) (at_ n : Int) : List UInt8 × Int := if memThere m at_ n then ((m.b.drop at_.toNat).take n.toNat, 0) else ([], -9)
def memMove (m : VMem) (x to_ n : Int) : VMem × Int := if (memText m x n).2 = 0 then memWrite m to_ (memText m x n).1 else (m, (memText m x n).2)
def memFill (m : VMem) (at_ n c : Int) : VMem × Int := if memThere m at_ n then memWrite m at_ (List.replicate n.toNat (loB c)) else (m, -9)
def tText (r : List UInt8 × Int) : PV := tup2 (sq cByte r.1) (i64 r.2)
@[simp] theorem flat_tText (r : List UInt8 × Int) : Flat (tText r) := by simp [tText]
theorem mem_Store (m : VMem) (at_ n : Int) (hm : MemOk m) (ha : Fit64 at_) : PureC Tryz.prog 214 [eMem m, i64 at_, i64 n] (tMem (memStore m at_ n)) := by
 have hm1 := hm.b
 have hm2 := hm.old
 refine pW tG (rs := [.cell 6 27, .tmp 7]) Tryz.func214 rfl rfl rfl (by simp) (by simp) (fun B => ?_)
 refine zu3 ?_
 refine Ws ?_
 refine zp2 ?_
 refine Wc rfl rfl (dC rfl Tryz.func102 rfl rfl ((mem_cellAt m at_ (by omega) ha) _)) ?_
 refine zs1 ?_
 refine zu2 ?_
 refine Wi rfl (fun hi1 => ?_) (fun hi1 => ?_)
 ·have h0 : memCellAt m at_ ≠ 0 := by simpa using hi1
  refine zu4 ?_
  refine zR ?_
  rw [memStore, if_neg h0]; rfl
 ·have h0 : memCellAt m at_ = 0 := by simpa using hi1
  refine Wj ?_
  refine Ws ?_
  refine W_drawU [1, 0, 0, 0, 0, 0, 0, 3, 0] [0, 1, 2, 3, 4, 5, 6, 7, 8] mG rfl (by kernel_rfl) ?_
  refine z5 ?_
  iterate 2 refine z3 ?_
  refine Xc rfl rfl rfl rfl (fun _ => dC rfl Tryz.func315 rfl rfl ((cell_put8 n) _)) ?_
  refine Xc rfl rfl rfl rfl (fun _ => dC rfl Tryz.func266 rfl rfl ((mem_Write m at_ (putC n) hm ha (by rw [putC_len]; omega)) _)) ?_
  iterate 2 refine z3 ?_
  refine WU_ev3 tG rfl rfl rfl rfl rfl trivial ?_
  refine z3 ?_
  refine WU_nil ?_
  refine zR ?_
  rw [memStore, if_pos h0]; rfl
theorem mem_StoreByte (m : VMem) (at_ n : Int) (hm : MemOk m) (ha : Fit64 at_) : PureC Tryz.prog 216 [eMem m, i64 at_, i64 n] (tMem (memStoreByte m at_ n)) := by
 refine pW tG (rs := [.cell 6 27, .tmp 7]) Tryz.func216 rfl rfl rfl (by simp) (by simp) (fun B => ?_)
 refine zu3 ?_
 refine zp4 ?_
 refine Wa 11 rfl (loB_pv n) ?_
 refine z1 ?_
 refine Wa 12 rfl (bsL cByte [_] rfl rfl) ?_
 refine Wc rfl rfl (dC rfl Tryz.func266 rfl rfl ((mem_Write m at_ [loB n] hm ha (by simp)) _)) ?_
 refine zs4 ?_
 refine zR ?_
 rfl
theorem wrapB (b : UInt8) : IntKind.i64.wrap (b.toNat : Int) = b.toNat := by have := b.toNat_lt; rw [i64w]; unfold wrap64; omega
theorem mem_FetchByte (m : VMem) (at_ : Int) (hm : MemOk m) (ha : Fit64 at_) : PureC Tryz.prog 211 [eMem m, i64 at_] (tFetch (memFetchByte m at_)) := by
 have hm1 := hm.b
 refine pW tG (rs := [.tmp 4, .tmp 5]) Tryz.func211 rfl rfl rfl (by simp) (by simp) (fun B => ?_)
 refine zu3 ?_
 refine Ws ?_
 refine zp2 ?_
 refine Wc rfl rfl (dC rfl Tryz.func141 rfl rfl ((mem_there m at_ 1 (by omega) ha (fitN (n := 1) (by omega))) _)) ?_
 refine zs1 ?_
 refine Wi rfl (fun hi1 => ?_) (fun hi1 => ?_)
 ·refine zu2 ?_
  refine zR ?_
  rw [memFetchByte, if_neg (by simpa using hi1)]; rfl
 ·have ht : memThere m at_ 1 = true := by simpa using hi1
  obtain ⟨k0, k1⟩ := there_in (n := 1) ht (by omega)
  refine Wj ?_
  refine zp3 ?_
  refine Wv tG rfl rfl rfl (by omega) (iR cByte 1 (fun _ => rfl) 0 (by omega)) ?_
  refine zs4 ?_
  refine zR ?_
  rw [memFetchByte, if_pos ht]; exact congrArg (fun z => tup2 (i64 z) (i64 0)) (wrapB _)
theorem thereN {m : VMem} {at_ n : Int} (h : memThere m at_ n = true) (h0 : n ≠ 0) : 0 < n ∧ 0 ≤ at_ ∧ at_ + n ≤ m.b.length := by
 unfold memThere at h
 simp only [decide_eq_true_eq] at h
 omega
theorem cut_rowI {l : List UInt8} {x n : Int} (h0 : 0 ≤ x) (h1 : 0 ≤ n) (h : IntKind.i64.wrap (x + n) = x + n) : sq cByte ((l.take (IntKind.i64.wrap (x + n)).toNat).drop x.toNat) = sq cByte ((l.drop x.toNat).take n.toNat) := by
 rw [h, sub_row]; congr 2; omega
theorem mem_Text (m : VMem) (at_ n : Int) (hm : MemOk m) (ha : Fit64 at_) (hn : Fit64 n) : PureC Tryz.prog 165 [eMem m, i64 at_, i64 n] (tText (memText m at_ n)) := by
 have hm1 := hm.b
 refine pW tG (rs := [.tmp 6, .tmp 7]) Tryz.func165 rfl rfl rfl (by simp) (by simp) (fun B => ?_)
 refine zu3 ?_
 refine Ws ?_
 refine zp3 ?_
 refine Wc rfl rfl (dC rfl Tryz.func141 rfl rfl ((mem_there m at_ n (by omega) ha hn) _)) ?_
 refine zs1 ?_
 refine Wi rfl (fun hi1 => ?_) (fun hi1 => ?_)
 ·have ht : ¬ memThere m at_ n = true := by simpa using hi1
  refine zu2 ?_
  refine zR ?_
  rw [memText, if_neg ht]; rfl
 ·have ht : memThere m at_ n = true := by simpa using hi1
  refine Wj ?_
  refine Ws ?_
  refine zu2 ?_
  refine Wi rfl (fun hi2 => ?_) (fun hi2 => ?_)
  ·have hz : n = 0 := by simpa using hi2
   refine zu2 ?_
   refine zR ?_
   rw [memText, if_pos ht, hz]; rfl
  ·obtain ⟨k0, k1, k3⟩ := thereN ht (by simpa using hi2)
   have k2 : IntKind.i64.wrap (at_ + n) = at_ + n := wrap_in (by omega) (by omega)
   refine Wj ?_
   refine zp5 ?_
   refine z1 ?_
   refine z2 ?_ (q := (by rw [k2]; omega))
   refine Wa 21 rfl (sq_slice cByte 1 (fun _ => rfl) (by rw [k2]; omega)) ?_
   refine Wa 21 rfl (cut_rowI k1 (by omega) k2) ?_
   refine Wc rfl rfl (dC rfl Tryz.func276 rfl rfl ((bytes_Clone _ (by simp; omega)) _)) ?_
   refine zs2 ?_
   refine zR ?_
   rw [memText, if_pos ht]; rfl
theorem memText_len {m : VMem} {at_ n : Int} (hm : MemOk m) : (memText m at_ n).1.length ≤ 1000000 := by
 have := hm.b
 unfold memText
 split
 ·simp; omega
 ·simp
theorem mem_Move (m : VMem) (x to_ n : Int) (hm : MemOk m) (hx : Fit64 x) (ht : Fit64 to_) (hn : Fit64 n) : PureC Tryz.prog 223 [eMem m, i64 x, i64 to_, i64 n] (tMem (memMove m x to_ n)) := by
 refine pW tG (rs := [.cell 8 27, .tmp 9]) Tryz.func223 rfl rfl rfl (by simp) (by simp) (fun B => ?_)
 refine zu3 ?_
 refine zp3 ?_
 refine Wc rfl rfl (dC rfl Tryz.func165 rfl rfl ((mem_Text m x n hm hx hn) _)) ?_
 refine zs5 ?_
 refine Ws ?_
 refine zu2 ?_
 refine Wi rfl (fun hi1 => ?_) (fun hi1 => ?_)
 ·have h0 : ¬ (memText m x n).2 = 0 := by simpa using hi1
  refine zu4 ?_
  refine zR ?_
  rw [memMove, if_neg h0]; rfl
 ·have h0 : (memText m x n).2 = 0 := by simpa using hi1
  refine Wj ?_
  refine zp3 ?_
  refine Wc rfl rfl (dC rfl Tryz.func266 rfl rfl ((mem_Write m to_ _ hm ht (memText_len hm)) _)) ?_
  refine zs4 ?_
  refine zR ?_
  rw [memMove, if_pos h0]; rfl
end Go.Proofs.YtobhnjnffnbbkaaGreatDoor
namespace Go.Proofs.YtobhnjnffnbbkaaGreatDoor
open Go.RowKit
set_option maxRecDepth 100000
set_option maxHeartbeats 4000000
def picHold (p : VPic) (c : Int) : VPic × Int := if p.on = true ∧ p.b.length < 130 then (⟨p.b ++ [loB c], p.on⟩, 0) else (p, -17)
def picSign (p : VPic) (n : Int) : VPic × Int := if 0 ≤ n then (p, 0) else picHold p 45
def tPic (r : VPic × Int) : PV := tup2 (ePic r.1) (i64 r.2)
@[simp] theorem flat_tPic (r : VPic × Int) : Flat (tPic r) := by simp [tPic]
theorem pic_Begin : PureC Tryz.prog 257 [] (ePic ⟨[], true⟩) := by
 refine pW tG (rs := [.cell 0 32]) Tryz.func257 rfl rfl rfl (by simp) (by simp) (fun B => ?_)
 refine zu1 ?_
 refine zu2 ?_
 refine zR ?_
 rfl
theorem picHold_no {p : VPic} {c : Int} (h : ¬ (p.on = true ∧ p.b.length < 130)) : picHold p c = (p, -17) := by unfold picHold; rw [if_neg h]
theorem picHold_yes {p : VPic} {c : Int} (h : p.on = true ∧ p.b.length < 130) : picHold p c = (⟨p.b ++ [loB c], p.on⟩, 0) := by unfold picHold; rw [if_pos h]
theorem pic_Hold (p : VPic) (c : Int) (hp : p.b.length ≤ 1000000) : PureC Tryz.prog 262 [ePic p, i64 c] (tPic (picHold p c)) := by
 refine pW tG (rs := [.cell 4 32, .tmp 5]) Tryz.func262 rfl rfl rfl (by simp) (by simp) (fun B => ?_)
 refine zu3 ?_
 refine Ws ?_
 refine zp4 ?_
 refine Wb 10 rfl (fun hg1 => ?_) (fun hg1 => ?_)
 ·refine z6 ?_
  iterate 3 refine z6 ?_
  refine zs1 ?_
  refine Wt rfl rfl ?_
  refine zu3 ?_
  refine zR ?_
  have hno : ¬ (p.on = true ∧ p.b.length < 130) := by rintro ⟨q1, q2⟩; (try simp only [dnL] at *); (try simp_all) <;> omega
  rw [picHold_no hno]; rfl
 ·refine zs5 ?_
  refine Wi rfl (fun hi1 => ?_) (fun hi1 => ?_)
  ·refine zu3 ?_
   refine zR ?_
   have hno : ¬ (p.on = true ∧ p.b.length < 130) := by rintro ⟨q1, q2⟩; (try simp only [dnL] at *); (try simp_all) <;> omega
   rw [picHold_no hno]; rfl
  ·refine Wj ?_
   refine zu4 ?_
   refine zp4 ?_
   refine z2 ?_ (q := (by (simp_all; done)))
   refine Wa 24 rfl (sq_slice cByte 1 (fun _ => rfl) (by omega)) ?_
   refine Wa 24 rfl ((show _ = sqc cByte p.b by simp [sqc]; rfl)) ?_
   refine zy2 ?_
   refine Wa 26 rfl (loB_pv c) ?_
   refine z1 ?_
   refine Wa 27 rfl (bsL cByte [_] rfl rfl) ?_
   refine Wd rfl rfl (does_append_clip (lO tG rfl) rfl (lO tG rfl) (lO tG rfl) rfl rfl (by exact ⟨_, rfl⟩) (by exact ⟨rfl, rfl, flatMap_len _ 1 (fun _ => rfl) _, okC_flat _ (fun _ => rfl) _⟩) (by exact flatMap_len _ 1 (fun _ => rfl) _) (by ((simp_all; omega))) (by ((simp_all; omega)))) ?_
   refine Wa 28 rfl (sq_append cByte) ?_
   refine zs2 ?_
   refine zu3 ?_
   refine zR ?_
   have hon : p.on = true := by (try simp only [dnL] at *); simp_all
   have hyes : p.on = true ∧ p.b.length < 130 := ⟨hon, by (try simp only [dnL] at *); omega⟩
   rw [picHold_yes hyes]; rfl
end Go.Proofs.YtobhnjnffnbbkaaGreatDoor
namespace Go.Proofs.YtobhnjnffnbbkaaGreatDoor
open Go.RowKit
set_option maxRecDepth 100000
set_option maxHeartbeats 4000000
inductive Op1 where
 | abs
 | neg
 | inv
 | inc
 | dec
 | dbl
 | half
 | cells
 | algn
 | cellp
 | eq0
 | lt0
 | ne0
 | gt0
deriving DecidableEq
def names1 : List (Str × Op1) := [([65, 66, 83], .abs), ([78, 69, 71, 65, 84, 69], .neg), ([73, 78, 86, 69, 82, 84], .inv), ([49, 43], .inc), ([49, 45], .dec), ([50, 42], .dbl), ([50, 47], .half), ([67, 69, 76, 76, 83], .cells), ([65, 76, 73, 71, 78, 69, 68], .algn), ([67, 69, 76, 76, 43], .cellp), ([48, 61], .eq0), ([48, 60], .lt0), ([48, 60, 62], .ne0), ([48, 62], .gt0)]
def op1 (s : Str) : Option Op1 := names1.lookup s
def flagS (b : Bool) : Int := if b then -1 else 0
def one (o : Op1) (a : Int) : Int := match o with
 | .abs => if 0 ≤ a then a else wrap64 (-a)
 | .neg => wrap64 (-a)
 | .inv => -1 - a
 | .inc => wrap64 (a + 1)
 | .dec => wrap64 (a - 1)
 | .dbl => wrap64 (a + a)
 | .half => a / 2
 | .cells => wrap64 (a * 8)
 | .algn => if a % 8 = 0 then a else wrap64 (a - a % 8 + 8)
 | .cellp => wrap64 (a + 8)
 | .eq0 => flagS (decide (a = 0))
 | .lt0 => flagS (decide (a < 0))
 | .ne0 => flagS (!decide (a = 0))
 | .gt0 => flagS (decide (0 < a))
def oneS (name : Str) (a : Int) : Int × Bool := match op1 name with
 | some o => (one o a, true)
 | none => (0, false)
def tOne (r : Int × Bool) : PV := tup2 (i64 r.1) (boo r.2)
@[simp] theorem flat_tOne (r : Int × Bool) : Flat (tOne r) := by simp [tOne]
theorem oneS_of {name : Str} {o : Op1} {a : Int} (h : op1 name = some o) : oneS name a = (one o a, true) := by unfold oneS; rw [h]
theorem oneS_no {name : Str} {a : Int} (h : op1 name = none) : oneS name a = (0, false) := by unfold oneS; rw [h]
theorem op1_none {s : Str} (h0 : s ≠ [65, 66, 83]) (h1 : s ≠ [78, 69, 71, 65, 84, 69]) (h2 : s ≠ [73, 78, 86, 69, 82, 84]) (h3 : s ≠ [49, 43]) (h4 : s ≠ [49, 45]) (h5 : s ≠ [50, 42]) (h6 : s ≠ [50, 47]) (h7 : s ≠ [67, 69, 76, 76, 83]) (h8 : s ≠ [65, 76, 73, 71, 78, 69, 68]) (h9 : s ≠ [67, 69, 76, 76, 43]) (h10 : s ≠ [48, 61]) (h11 : s ≠ [48, 60]) (h12 : s ≠ [48, 60, 62]) (h13 : s ≠ [48, 62]) : op1 s = none := by
 unfold op1 names1
 simp only [List.lookup]
 simp [beq_eq_false_iff_ne.2 h0, beq_eq_false_iff_ne.2 h1, beq_eq_false_iff_ne.2 h2, beq_eq_false_iff_ne.2 h3, beq_eq_false_iff_ne.2 h4, beq_eq_false_iff_ne.2 h5, beq_eq_false_iff_ne.2 h6, beq_eq_false_iff_ne.2 h7, beq_eq_false_iff_ne.2 h8, beq_eq_false_iff_ne.2 h9, beq_eq_false_iff_ne.2 h10, beq_eq_false_iff_ne.2 h11, beq_eq_false_iff_ne.2 h12, beq_eq_false_iff_ne.2 h13]
theorem ar_neg (a : Int) : wrap64 (0 - a) = wrap64 (-a) := congrArg wrap64 (by omega)
theorem ar_inv {a : Int} (ha : -9223372036854775808 ≤ a ∧ a ≤ 9223372036854775807) : wrap64 ((BitVec.ofInt 64 (-1) ^^^ BitVec.ofInt 64 a).toNat : Int) = -1 - a := by
 have h1 : BitVec.ofInt 64 (-1) = BitVec.allOnes 64 := by decide
 rw [h1, BitVec.allOnes_xor, BitVec.toNat_not, BitVec.toNat_ofInt]
 have h2 : ((2 ^ 64 : Nat) : Int) = 18446744073709551616 := by decide
 have h3 : (2 ^ 64 : Nat) = 18446744073709551616 := by decide
 rw [h2, h3]
 unfold wrap64
 omega
theorem ar_dbl (a : Int) : wrap64 (a * 2 ^ min (Int.toNat 1) IntKind.i64.bits) = wrap64 (a + a) := by
 have : (2 : Int) ^ min (Int.toNat 1) IntKind.i64.bits = 2 := rfl
 rw [this]; exact congrArg wrap64 (by omega)
theorem ar_half (a : Int) : a.fdiv (2 ^ min (Int.toNat 1) IntKind.i64.bits) = a / 2 := by
 have : (2 : Int) ^ min (Int.toNat 1) IntKind.i64.bits = 2 := rfl
 rw [this, Int.fdiv_eq_ediv_of_nonneg _ (by omega)]
theorem bv_split (x m : BitVec 64) : (x &&& m) + (x &&& ~~~ m) = x := by
 have h1 : (x &&& m) &&& (x &&& ~~~ m) = 0#64 := by
  ext i hi
  simp only [BitVec.getElem_and, BitVec.getElem_not, BitVec.getElem_zero]
  cases x[i] <;> cases m[i] <;> rfl
 rw [BitVec.add_eq_or_of_and_eq_zero _ _ h1]
 ext i hi
 simp only [BitVec.getElem_or, BitVec.getElem_and, BitVec.getElem_not]
 cases x[i] <;> cases m[i] <;> rfl
theorem bv_low (x : BitVec 64) : (x &&& ~~~ 7#64).toNat = x.toNat - x.toNat % 8 := by
 have h2 := bv_split x 7#64
 have h4 := congrArg BitVec.toNat h2
 rw [BitVec.toNat_add] at h4
 have h5 : (x &&& 7#64).toNat = x.toNat % 8 := by rw [BitVec.toNat_and]; exact Nat.and_two_pow_sub_one_eq_mod x.toNat 3
 have h6 : (x &&& ~~~ 7#64).toNat ≤ x.toNat := by rw [BitVec.toNat_and]; exact Nat.and_le_left
 have h7 : (2 ^ 64 : Nat) = 18446744073709551616 := by decide
 have h8 := x.isLt
 rw [h5] at h4
 rw [h7] at h4 h8
 omega
theorem ar_algn {a : Int} (ha : -9223372036854775808 ≤ a ∧ a ≤ 9223372036854775807) : wrap64 ((BitVec.ofInt 64 (IntKind.i64.wrap (IntKind.i64.wrap (a + 8) - 1)) &&& ~~~ BitVec.ofInt 64 7).toNat : Int) = if a % 8 = 0 then a else wrap64 (a - a % 8 + 8) := by
 have h1 : BitVec.ofInt 64 7 = 7#64 := by decide
 rw [h1, bv_low, BitVec.toNat_ofInt]
 have h2 : ((2 ^ 64 : Nat) : Int) = 18446744073709551616 := by decide
 rw [h2, i64w, i64w]
 unfold wrap64
 split <;> omega
theorem pv_one {x y : Int} (h : x = y) : tup2 (.val (.int .i64 x)) (.val (.bool true)) = tOne (y, true) := by rw [h]; rfl
theorem alu_flag (b : Bool) : PureC Tryz.prog 304 [boo b] (i64 (flagS b)) := by
 refine pW tG (rs := [.tmp 2]) Tryz.func304 rfl rfl rfl (by simp) (by simp) (fun B => ?_)
 refine zu1 ?_
 refine Ws ?_
 refine zu1 ?_
 refine Wi rfl (fun hi1 => ?_) (fun hi1 => ?_)
 ·refine zu1 ?_
  refine zR ?_
  simp_all [flagS, i64]
 ·refine Wj ?_
  refine zu1 ?_
  refine zR ?_
  simp_all [flagS, i64]
theorem alu_asked1 (b : Bool) : PureC Tryz.prog 306 [boo b] (tOne (flagS b, true)) := by
 refine pW tG (rs := [.tmp 2, .tmp 3]) Tryz.func306 rfl rfl rfl (by simp) (by simp) (fun B => ?_)
 refine zu2 ?_
 refine zp1 ?_
 refine Wc rfl rfl (dC rfl Tryz.func304 rfl rfl ((alu_flag b) _)) ?_
 refine zs2 ?_
 refine zR ?_
 rfl
def askS (name : Str) (a : Int) : Int × Bool := if name = [48, 61] then (one .eq0 a, true) else if name = [48, 60] then (one .lt0 a, true) else if name = [48, 60, 62] then (one .ne0 a, true) else if name = [48, 62] then (one .gt0 a, true) else (0, false)
theorem askS_one {s : Str} {a : Int} (h0 : s ≠ [65, 66, 83]) (h1 : s ≠ [78, 69, 71, 65, 84, 69]) (h2 : s ≠ [73, 78, 86, 69, 82, 84]) (h3 : s ≠ [49, 43]) (h4 : s ≠ [49, 45]) (h5 : s ≠ [50, 42]) (h6 : s ≠ [50, 47]) (h7 : s ≠ [67, 69, 76, 76, 83]) (h8 : s ≠ [65, 76, 73, 71, 78, 69, 68]) (h9 : s ≠ [67, 69, 76, 76, 43]) : askS s a = oneS s a := by
 unfold askS
 by_cases h10 : s = [48, 61]
 ·subst h10; rfl
 rw [if_neg h10]
 by_cases h11 : s = [48, 60]
 ·subst h11; rfl
 rw [if_neg h11]
 by_cases h12 : s = [48, 60, 62]
 ·subst h12; rfl
 rw [if_neg h12]
 by_cases h13 : s = [48, 62]
 ·subst h13; rfl
 rw [if_neg h13]
 exact (oneS_no (op1_none h0 h1 h2 h3 h4 h5 h6 h7 h8 h9 h10 h11 h12 h13)).symm
theorem alu_asked (name : Str) (a : Int) : PureC Tryz.prog 190 [str name, i64 a] (tOne (askS name a)) := by
 refine pW tG (rs := [.tmp 4, .tmp 5]) Tryz.func190 rfl rfl rfl (by simp) (by simp) (fun B => ?_)
 refine zu2 ?_
 refine zu1 ?_
 refine Ws ?_
 refine zu1 ?_
 refine Wl ?_
 refine zp1 ?_
 refine Wa 9 rfl (str_eql _ _) ?_
 refine zs1 ?_
 refine Wi rfl (fun hi1 => ?_) (fun hi1 => ?_)
 ·obtain rfl := oT hi1
  refine zp3 ?_
  refine Wc rfl rfl (doesCWv rfl rfl Tryz.func306 rfl rfl (alu_asked1 _ _)) ?_
  refine zs4 ?_
  refine zR ?_
  exact congrArg tOne (Prod.ext (congrArg flagS (by rfl)) rfl)
 ·refine zp1 ?_
  refine Wa 17 rfl (str_eql _ _) ?_
  refine zs1 ?_
  refine Wi rfl (fun hi2 => ?_) (fun hi2 => ?_)
  ·obtain rfl := oT hi2
   refine zp3 ?_
   refine Wc rfl rfl (doesCWv rfl rfl Tryz.func306 rfl rfl (alu_asked1 _ _)) ?_
   refine zs4 ?_
   refine zR ?_
   exact congrArg tOne (Prod.ext (congrArg flagS (by rfl)) rfl)
  ·refine zp1 ?_
   refine Wa 25 rfl (str_eql _ _) ?_
   refine zs1 ?_
   refine Wi rfl (fun hi3 => ?_) (fun hi3 => ?_)
   ·obtain rfl := oT hi3
    refine zp3 ?_
    refine Wc rfl rfl (doesCWv rfl rfl Tryz.func306 rfl rfl (alu_asked1 _ _)) ?_
    refine zs4 ?_
    refine zR ?_
    exact congrArg tOne (Prod.ext (congrArg flagS (by rfl)) rfl)
   ·refine zp1 ?_
    refine Wa 33 rfl (str_eql _ _) ?_
    refine zs1 ?_
    refine Wi rfl (fun hi4 => ?_) (fun hi4 => ?_)
    ·obtain rfl := oT hi4
     refine zp3 ?_
     refine Wc rfl rfl (doesCWv rfl rfl Tryz.func306 rfl rfl (alu_asked1 _ _)) ?_
     refine zs4 ?_
     refine zR ?_
     exact congrArg tOne (Prod.ext (congrArg flagS (by rfl)) rfl)
    ·refine Wj ?_
     refine zu2 ?_
     refine zR ?_
     have h1 := oF hi1
     have h2 := oF hi2
     have h3 := oF hi3
     have h4 := oF hi4
     rw [askS, if_neg h1, if_neg h2, if_neg h3, if_neg h4]; rfl
theorem alu_One (name : Str) (a : Int) (ha : -9223372036854775808 ≤ a ∧ a ≤ 9223372036854775807) : PureC Tryz.prog 151 [str name, i64 a] (tOne (oneS name a)) := by
 refine pW tG (rs := [.tmp 4, .tmp 5]) Tryz.func151 rfl rfl rfl (by simp) (by simp) (fun B => ?_)
 refine zu2 ?_
 refine Ws ?_
 refine zu1 ?_
 refine Wl ?_
 refine Ws ?_
 refine Wl ?_
 refine Ws ?_
 refine Wl ?_
 refine Ws ?_
 refine Wl ?_
 refine Ws ?_
 refine Wl ?_
 refine Ws ?_
 refine Wl ?_
 refine Ws ?_
 refine Wl ?_
 refine Ws ?_
 refine Wl ?_
 refine Ws ?_
 refine Wl ?_
 refine Ws ?_
 refine Wl ?_
 refine Ws ?_
 refine Wl ?_
 iterate 2 refine Ws ?_
 refine zp1 ?_
 refine Wa 8 rfl (str_eql _ _) ?_
 refine zs1 ?_
 refine Wi rfl (fun hi1 => ?_) (fun hi1 => ?_)
 ·obtain rfl := oT hi1
  refine W_exit ?_
  refine zu2 ?_
  refine Wi rfl (fun hi2 => ?_) (fun hi2 => ?_)
  ·refine zu3 ?_
   refine zR ?_
   refine (pv_one (y := one .abs a) ?_).trans (congrArg tOne (oneS_of (o := .abs) rfl).symm)
   simp only [one]; (((try simp only [dnL] at *); rw [if_pos (by omega)]))
  ·refine Wj ?_
   refine Ws ?_
   refine zu4 ?_
   refine zR ?_
   refine (pv_one (y := one .abs a) ?_).trans (congrArg tOne (oneS_of (o := .abs) rfl).symm)
   simp only [one]; (((try simp only [dnL] at *); rw [if_neg (by omega), i64w]; exact ar_neg a))
 ·refine Wj ?_
  refine Ws ?_
  refine zp1 ?_
  refine Wa 10 rfl (str_eql _ _) ?_
  refine zs1 ?_
  refine Wi rfl (fun hi3 => ?_) (fun hi3 => ?_)
  ·obtain rfl := oT hi3
   refine W_exit ?_
   refine Ws ?_
   refine zu4 ?_
   refine zR ?_
   refine (pv_one (y := one .neg a) ?_).trans (congrArg tOne (oneS_of (o := .neg) rfl).symm)
   simp only [one]; ((rw [i64w]; exact ar_neg a))
  ·refine Wj ?_
   refine Ws ?_
   refine zp1 ?_
   refine Wa 12 rfl (str_eql _ _) ?_
   refine zs1 ?_
   refine Wi rfl (fun hi4 => ?_) (fun hi4 => ?_)
   ·obtain rfl := oT hi4
    refine W_exit ?_
    refine Ws ?_
    refine zu4 ?_
    refine zR ?_
    refine (pv_one (y := one .inv a) ?_).trans (congrArg tOne (oneS_of (o := .inv) rfl).symm)
    simp only [one]; ((rw [i64w]; exact ar_inv ha))
   ·refine Wj ?_
    refine Ws ?_
    refine zp1 ?_
    refine Wa 14 rfl (str_eql _ _) ?_
    refine zs1 ?_
    refine Wi rfl (fun hi5 => ?_) (fun hi5 => ?_)
    ·obtain rfl := oT hi5
     refine W_exit ?_
     refine Ws ?_
     refine zu4 ?_
     refine zR ?_
     refine (pv_one (y := one .inc a) ?_).trans (congrArg tOne (oneS_of (o := .inc) rfl).symm)
     simp only [one]; ((rw [i64w]; done))
    ·refine Wj ?_
     refine Ws ?_
     refine zp1 ?_
     refine Wa 16 rfl (str_eql _ _) ?_
     refine zs1 ?_
     refine Wi rfl (fun hi6 => ?_) (fun hi6 => ?_)
     ·obtain rfl := oT hi6
      refine W_exit ?_
      refine Ws ?_
      refine zu4 ?_
      refine zR ?_
      refine (pv_one (y := one .dec a) ?_).trans (congrArg tOne (oneS_of (o := .dec) rfl).symm)
      simp only [one]; ((rw [i64w]; done))
     ·refine Wj ?_
      refine Ws ?_
      refine zp1 ?_
      refine Wa 18 rfl (str_eql _ _) ?_
      refine zs1 ?_
      refine Wi rfl (fun hi7 => ?_) (fun hi7 => ?_)
      ·obtain rfl := oT hi7
       refine W_exit ?_
       refine Ws ?_
       refine zu4 ?_
       refine zR ?_
       refine (pv_one (y := one .dbl a) ?_).trans (congrArg tOne (oneS_of (o := .dbl) rfl).symm)
       simp only [one]; ((rw [i64w]; exact ar_dbl a))
      ·refine Wj ?_
       refine Ws ?_
       refine zp1 ?_
       refine Wa 20 rfl (str_eql _ _) ?_
       refine zs1 ?_
       refine Wi rfl (fun hi8 => ?_) (fun hi8 => ?_)
       ·obtain rfl := oT hi8
        refine W_exit ?_
        refine Ws ?_
        refine zu4 ?_
        refine zR ?_
        refine (pv_one (y := one .half a) ?_).trans (congrArg tOne (oneS_of (o := .half) rfl).symm)
        simp only [one]; exact ar_half a
       ·refine Wj ?_
        refine Ws ?_
        refine zp1 ?_
        refine Wa 22 rfl (str_eql _ _) ?_
        refine zs1 ?_
        refine Wi rfl (fun hi9 => ?_) (fun hi9 => ?_)
        ·obtain rfl := oT hi9
         refine W_exit ?_
         refine Ws ?_
         refine zu4 ?_
         refine zR ?_
         refine (pv_one (y := one .cells a) ?_).trans (congrArg tOne (oneS_of (o := .cells) rfl).symm)
         simp only [one]; ((rw [i64w]; done))
        ·refine Wj ?_
         refine Ws ?_
         refine zp1 ?_
         refine Wa 24 rfl (str_eql _ _) ?_
         refine zs1 ?_
         refine Wi rfl (fun hi10 => ?_) (fun hi10 => ?_)
         ·obtain rfl := oT hi10
          refine W_exit ?_
          refine Ws ?_
          refine zp5 ?_
          refine zs1 ?_
          refine zR ?_
          refine (pv_one (y := one .algn a) ?_).trans (congrArg tOne (oneS_of (o := .algn) rfl).symm)
          simp only [one]; ((rw [i64w]; exact ar_algn ha))
         ·refine Wj ?_
          refine zp1 ?_
          refine Wa 26 rfl (str_eql _ _) ?_
          refine zs1 ?_
          refine Wi rfl (fun hi11 => ?_) (fun hi11 => ?_)
          ·obtain rfl := oT hi11
           refine W_exit ?_
           refine Ws ?_
           refine zu4 ?_
           refine zR ?_
           refine (pv_one (y := one .cellp a) ?_).trans (congrArg tOne (oneS_of (o := .cellp) rfl).symm)
           simp only [one]; ((rw [i64w]; done))
          ·refine Wj ?_
           refine W_exit ?_
           refine zp2 ?_
           refine Wc rfl rfl (dC rfl Tryz.func190 rfl rfl ((alu_asked name a) _)) ?_
           refine zs4 ?_
           refine zR ?_
           rw [askS_one (oF hi1) (oF hi3) (oF hi4) (oF hi5) (oF hi6) (oF hi7) (oF hi8) (oF hi9) (oF hi10) (oF hi11)]; rfl
end Go.Proofs.YtobhnjnffnbbkaaGreatDoor
namespace Go.Proofs.YtobhnjnffnbbkaaGreatDoor
open Go.RowKit
set_option maxRecDepth 100000
set_option maxHeartbeats 4000000
inductive Op2 where
 | quo
 | rem
 | add
 | sub
 | mul
 | and
 | or
 | xor
 | shl
 | shr
 | min
 | max
 | eq
 | ne
 | lt
 | gt
 | le
 | ge
 | ult
 | ugt
deriving DecidableEq
def names2 : List (Str × Op2) := [([47], .quo), ([77, 79, 68], .rem), ([43], .add), ([45], .sub), ([42], .mul), ([65, 78, 68], .and), ([79, 82], .or), ([88, 79, 82], .xor), ([76, 83, 72, 73, 70, 84], .shl), ([82, 83, 72, 73, 70, 84], .shr), ([77, 73, 78], .min), ([77, 65, 88], .max), ([61], .eq), ([60, 62], .ne), ([60], .lt), ([62], .gt), ([60, 61], .le), ([62, 61], .ge), ([85, 60], .ult), ([85, 62], .ugt)]
def op2 (s : Str) : Option Op2 := names2.lookup s
def andS (a b : Int) : Int := wrap64 ((BitVec.ofInt 64 a &&& BitVec.ofInt 64 b).toNat : Int)
def orS (a b : Int) : Int := wrap64 ((BitVec.ofInt 64 a ||| BitVec.ofInt 64 b).toNat : Int)
def xorS (a b : Int) : Int := wrap64 ((BitVec.ofInt 64 a ^^^ BitVec.ofInt 64 b).toNat : Int)
def shiftS (a by_ : Int) (up : Bool) : Int := if 63 < U by_ then 0 else if up then S (U a * 2 ^ U by_ % 18446744073709551616) else S (U a / 2 ^ U by_)
def two (o : Op2) (a b : Int) : Int × Int := match o with
 | .quo => ((divS a b).1, (divS a b).2.2)
 | .rem => ((divS a b).2.1, (divS a b).2.2)
 | .add => (wrap64 (a + b), 0)
 | .sub => (wrap64 (a - b), 0)
 | .mul => (wrap64 (a * b), 0)
 | .and => (andS a b, 0)
 | .or => (orS a b, 0)
 | .xor => (xorS a b, 0)
 | .shl => (shiftS a b true, 0)
 | .shr => (shiftS a b false, 0)
 | .min => (if b < a then b else a, 0)
 | .max => (if a < b then b else a, 0)
 | .eq => (flagS (decide (a = b)), 0)
 | .ne => (flagS (!decide (a = b)), 0)
 | .lt => (flagS (decide (a < b)), 0)
 | .gt => (flagS (decide (b < a)), 0)
 | .le => (flagS (decide (a ≤ b)), 0)
 | .ge => (flagS (decide (b ≤ a)), 0)
 | .ult => (flagS (decide (U a < U b)), 0)
 | .ugt => (flagS (decide (U b < U a)), 0)
def twoS (name : Str) (a b : Int) : Int × Bool × Int := match op2 name with
 | some o => ((two o a b).1, true, (two o a b).2)
 | none => (0, false, 0)
def tTwo (r : Int × Bool × Int) : PV := tup3 (i64 r.1) (boo r.2.1) (i64 r.2.2)
@[simp] theorem flat_tTwo (r : Int × Bool × Int) : Flat (tTwo r) := by simp [tTwo]
theorem twoS_no {name : Str} {a b : Int} (h : op2 name = none) : twoS name a b = (0, false, 0) := by unfold twoS; rw [h]
theorem op2_none {s : Str} (h0 : s ≠ [47]) (h1 : s ≠ [77, 79, 68]) (h2 : s ≠ [43]) (h3 : s ≠ [45]) (h4 : s ≠ [42]) (h5 : s ≠ [65, 78, 68]) (h6 : s ≠ [79, 82]) (h7 : s ≠ [88, 79, 82]) (h8 : s ≠ [76, 83, 72, 73, 70, 84]) (h9 : s ≠ [82, 83, 72, 73, 70, 84]) (h10 : s ≠ [77, 73, 78]) (h11 : s ≠ [77, 65, 88]) (h12 : s ≠ [61]) (h13 : s ≠ [60, 62]) (h14 : s ≠ [60]) (h15 : s ≠ [62]) (h16 : s ≠ [60, 61]) (h17 : s ≠ [62, 61]) (h18 : s ≠ [85, 60]) (h19 : s ≠ [85, 62]) : op2 s = none := by
 unfold op2 names2
 simp only [List.lookup]
 simp [beq_eq_false_iff_ne.2 h0, beq_eq_false_iff_ne.2 h1, beq_eq_false_iff_ne.2 h2, beq_eq_false_iff_ne.2 h3, beq_eq_false_iff_ne.2 h4, beq_eq_false_iff_ne.2 h5, beq_eq_false_iff_ne.2 h6, beq_eq_false_iff_ne.2 h7, beq_eq_false_iff_ne.2 h8, beq_eq_false_iff_ne.2 h9, beq_eq_false_iff_ne.2 h10, beq_eq_false_iff_ne.2 h11, beq_eq_false_iff_ne.2 h12, beq_eq_false_iff_ne.2 h13, beq_eq_false_iff_ne.2 h14, beq_eq_false_iff_ne.2 h15, beq_eq_false_iff_ne.2 h16, beq_eq_false_iff_ne.2 h17, beq_eq_false_iff_ne.2 h18, beq_eq_false_iff_ne.2 h19]
def heldS (name : Str) (a b : Int) : Int × Bool := if name = [61] then ((two .eq a b).1, true) else if name = [60, 62] then ((two .ne a b).1, true) else if name = [62] then ((two .gt a b).1, true) else if name = [60] then ((two .lt a b).1, true) else if name = [60, 61] then ((two .le a b).1, true) else if name = [62, 61] then ((two .ge a b).1, true) else if name = [85, 62] then ((two .ugt a b).1, true) else if name = [85, 60] then ((two .ult a b).1, true) else (0, false)
theorem alu_held (name : Str) (a b : Int) : PureC Tryz.prog 189 [str name, i64 a, i64 b] (tOne (heldS name a b)) := by
 refine pW tG (rs := [.tmp 6, .tmp 7]) Tryz.func189 rfl rfl rfl (by simp) (by simp) (fun B => ?_)
 refine zu2 ?_
 refine Ws ?_
 refine zu1 ?_
 refine Wl ?_
 refine Ws ?_
 refine Wl ?_
 refine Ws ?_
 refine Wl ?_
 refine Ws ?_
 refine Wl ?_
 refine Ws ?_
 refine Wl ?_
 refine Ws ?_
 refine Wl ?_
 refine Ws ?_
 refine Wl ?_
 refine Ws ?_
 refine Wl ?_
 refine Ws ?_
 refine Wl ?_
 iterate 2 refine Ws ?_
 refine zp1 ?_
 refine Wa 10 rfl (str_eql _ _) ?_
 refine zs1 ?_
 refine Wi rfl (fun hi1 => ?_) (fun hi1 => ?_)
 ·obtain rfl := oT hi1
  refine W_exit ?_
  refine Ws ?_
  refine zp3 ?_
  refine Wc rfl rfl (dC rfl Tryz.func304 rfl rfl ((alu_flag _) _)) ?_
  refine zs2 ?_
  refine zR ?_
  refine congrArg tOne (show (flagS _, true) = ((two .eq a b).1, true) from ?_)
  simp only [two] <;> rfl
 ·refine Wj ?_
  refine Ws ?_
  refine zp1 ?_
  refine Wa 12 rfl (str_eql _ _) ?_
  refine zs1 ?_
  refine Wi rfl (fun hi2 => ?_) (fun hi2 => ?_)
  ·obtain rfl := oT hi2
   refine W_exit ?_
   refine Ws ?_
   refine zp3 ?_
   refine Wc rfl rfl (dC rfl Tryz.func304 rfl rfl ((alu_flag _) _)) ?_
   refine zs2 ?_
   refine zR ?_
   refine congrArg tOne (show (flagS _, true) = ((two .ne a b).1, true) from ?_)
   simp only [two] <;> rfl
  ·refine Wj ?_
   refine Ws ?_
   refine zp1 ?_
   refine Wa 14 rfl (str_eql _ _) ?_
   refine zs1 ?_
   refine Wi rfl (fun hi3 => ?_) (fun hi3 => ?_)
   ·obtain rfl := oT hi3
    refine W_exit ?_
    refine W_region rfl ?_
    refine zs4 ?_
    refine Ws ?_
    refine zp3 ?_
    refine Wc rfl rfl (dC rfl Tryz.func304 rfl rfl ((alu_flag _) _)) ?_
    refine zs2 ?_
    refine zR ?_
    refine congrArg tOne (show (flagS _, true) = ((two .gt a b).1, true) from ?_)
    simp only [two] <;> first | rfl | (congr 2; done) | (congr 2; rw [Bool.eq_iff_iff] <;> simp)
   ·refine Wj ?_
    refine Ws ?_
    refine zp1 ?_
    refine Wa 16 rfl (str_eql _ _) ?_
    refine zs1 ?_
    refine Wi rfl (fun hi4 => ?_) (fun hi4 => ?_)
    ·obtain rfl := oT hi4
     refine W_exit ?_
     refine Ws ?_
     refine zp3 ?_
     refine Wc rfl rfl (dC rfl Tryz.func304 rfl rfl ((alu_flag _) _)) ?_
     refine zs2 ?_
     refine zR ?_
     refine congrArg tOne (show (flagS _, true) = ((two .lt a b).1, true) from ?_)
     simp only [two] <;> first | rfl | (congr 2; done) | (congr 2; rw [Bool.eq_iff_iff] <;> simp)
    ·refine Wj ?_
     refine Ws ?_
     refine zp1 ?_
     refine Wa 18 rfl (str_eql _ _) ?_
     refine zs1 ?_
     refine Wi rfl (fun hi5 => ?_) (fun hi5 => ?_)
     ·obtain rfl := oT hi5
      refine W_exit ?_
      refine W_region rfl ?_
      refine zs4 ?_
      refine Ws ?_
      refine zp3 ?_
      refine Wc rfl rfl (dC rfl Tryz.func304 rfl rfl ((alu_flag _) _)) ?_
      refine zs2 ?_
      refine zR ?_
      refine congrArg tOne (show (flagS _, true) = ((two .le a b).1, true) from ?_)
      simp only [two] <;> first | rfl | (congr 2; done) | (congr 2; rw [Bool.eq_iff_iff] <;> simp)
     ·refine Wj ?_
      refine Ws ?_
      refine zp1 ?_
      refine Wa 20 rfl (str_eql _ _) ?_
      refine zs1 ?_
      refine Wi rfl (fun hi6 => ?_) (fun hi6 => ?_)
      ·obtain rfl := oT hi6
       refine W_exit ?_
       refine Ws ?_
       refine zp3 ?_
       refine Wc rfl rfl (dC rfl Tryz.func304 rfl rfl ((alu_flag _) _)) ?_
       refine zs2 ?_
       refine zR ?_
       refine congrArg tOne (show (flagS _, true) = ((two .ge a b).1, true) from ?_)
       simp only [two] <;> first | rfl | (congr 2; done) | (congr 2; rw [Bool.eq_iff_iff] <;> simp)
      ·refine Wj ?_
       refine Ws ?_
       refine zp1 ?_
       refine Wa 22 rfl (str_eql _ _) ?_
       refine zs1 ?_
       refine Wi rfl (fun hi7 => ?_) (fun hi7 => ?_)
       ·obtain rfl := oT hi7
        refine W_exit ?_
        refine W_region rfl ?_
        refine zs4 ?_
        refine Ws ?_
        refine zp2 ?_
        refine Wc rfl rfl (dC rfl Tryz.func305 rfl rfl ((k_ULess _ _) _)) ?_
        refine Wc rfl rfl (dC rfl Tryz.func304 rfl rfl ((alu_flag _) _)) ?_
        refine zs2 ?_
        refine zR ?_
        refine congrArg tOne (show (flagS _, true) = ((two .ugt a b).1, true) from ?_)
        simp only [two] <;> first | rfl | (congr 2; done) | (congr 2; rw [Bool.eq_iff_iff] <;> simp)
       ·refine Wj ?_
        refine zp1 ?_
        refine Wa 24 rfl (str_eql _ _) ?_
        refine zs1 ?_
        refine Wi rfl (fun hi8 => ?_) (fun hi8 => ?_)
        ·obtain rfl := oT hi8
         refine W_exit ?_
         refine Ws ?_
         refine zp2 ?_
         refine Wc rfl rfl (dC rfl Tryz.func305 rfl rfl ((k_ULess _ _) _)) ?_
         refine Wc rfl rfl (dC rfl Tryz.func304 rfl rfl ((alu_flag _) _)) ?_
         refine zs2 ?_
         refine zR ?_
         refine congrArg tOne (show (flagS _, true) = ((two .ult a b).1, true) from ?_)
         simp only [two] <;> first | rfl | (congr 2; done) | (congr 2; rw [Bool.eq_iff_iff] <;> simp)
        ·refine Wj ?_
         refine W_exit ?_
         refine zu2 ?_
         refine zR ?_
         rw [heldS, if_neg (oF hi1), if_neg (oF hi2), if_neg (oF hi3), if_neg (oF hi4), if_neg (oF hi5), if_neg (oF hi6), if_neg (oF hi7), if_neg (oF hi8)]; rfl
theorem alu_Within (x lo hi : Int) : PureC Tryz.prog 209 [i64 x, i64 lo, i64 hi] (boo (decide (U (wrap64 (x - lo)) < U (wrap64 (hi - lo))))) := by
 refine pW tG (rs := [.tmp 6]) Tryz.func209 rfl rfl rfl (by simp) (by simp) (fun B => ?_)
 refine zu1 ?_
 refine zp5 ?_
 refine z1 ?_
 refine Wc rfl rfl (dC rfl Tryz.func305 rfl rfl ((k_ULess _ _) _)) ?_
 refine zs1 ?_
 refine zR ?_
 simp only [i64w]; rfl
theorem bin_shl {t : TypeId} {x y : Operand} {a b : Int} (h : 0 ≤ b) : binA .shl t x y (.int .u64 a) (.int .u64 b) = some (.int .u64 (IntKind.u64.wrap (a * 2 ^ min b.toNat 64))) := by
 have h1 : ¬ b < 0 := by omega
 simp only [binA, eqGuard, binOp, Op.shift, if_neg h1]; rfl
theorem bin_shr {t : TypeId} {x y : Operand} {a b : Int} (h : 0 ≤ b) : binA .shr t x y (.int .u64 a) (.int .u64 b) = some (.int .u64 (a.fdiv (2 ^ min b.toNat 64))) := by
 have h1 : ¬ b < 0 := by omega
 simp only [binA, eqGuard, binOp, Op.shift, if_neg h1]; rfl
theorem pvU (x : Int) : PV.val (.int .u64 (IntKind.u64.wrap x)) = .val (.int .u64 (U x : Int)) := by rw [U_wrap]
theorem U_lt2 (x : Int) : U x < 18446744073709551616 := by unfold U; omega
theorem shl_val (a b : Int) : IntKind.i64.wrap (IntKind.u64.wrap ((U a : Int) * 2 ^ min ((U b : Int)).toNat 64)) = shiftS a b true := by
 unfold shiftS
 rw [Int.toNat_natCast, i64w, IntKind.wrap_u64]
 by_cases h : 63 < U b
 ·rw [if_pos h, Nat.min_eq_right (by omega)]
  have e : (2 : Int) ^ 64 = 18446744073709551616 := by decide
  rw [e, Int.mul_emod_left]; unfold wrap64; omega
 ·rw [if_neg h, Nat.min_eq_left (by omega), if_pos rfl]
  unfold S
  congr 1
theorem shr_val (a b : Int) : IntKind.i64.wrap ((U a : Int).fdiv (2 ^ min ((U b : Int)).toNat 64)) = shiftS a b false := by
 unfold shiftS
 have hp : ∀ n : Nat, (0 : Int) ≤ 2 ^ n := fun n => Int.pow_nonneg (by omega)
 rw [Int.toNat_natCast, i64w, Int.fdiv_eq_ediv_of_nonneg _ (hp _)]
 by_cases h : 63 < U b
 ·rw [if_pos h, Nat.min_eq_right (by omega)]
  have e : (2 : Int) ^ 64 = 18446744073709551616 := by decide
  have := U_lt2 a
  rw [e, Int.ediv_eq_zero_of_lt (by omega) (by omega)]; unfold wrap64; omega
 ·rw [if_neg h, Nat.min_eq_left (by omega), if_neg (by simp)]
  unfold S
  congr 1
theorem alu_shift (a by_ : Int) (up : Bool) : PureC Tryz.prog 188 [i64 a, i64 by_, boo up] (i64 (shiftS a by_ up)) := by
 refine pW tG (rs := [.tmp 6]) Tryz.func188 rfl rfl rfl (by simp) (by simp) (fun B => ?_)
 refine zu1 ?_
 refine zp2 ?_
 refine Wa 9 rfl (pvU by_) ?_
 refine zs1 ?_
 refine Ws ?_
 refine zu1 ?_
 refine Wi rfl (fun hi1 => ?_) (fun hi1 => ?_)
 ·obtain rfl := hi1
  refine zp2 ?_
  refine Wa 12 rfl (pvU a) ?_
  refine z1 ?_
  refine Wd rfl rfl (does_bin rfl rfl rfl (bin_shl (by omega))) ?_
  refine zs2 ?_
  refine zR ?_
  exact congrArg i64 (shl_val a by_)
 ·obtain rfl := hi1
  refine Wj ?_
  refine zp2 ?_
  refine Wa 17 rfl (pvU a) ?_
  refine z1 ?_
  refine Wd rfl rfl (does_bin rfl rfl rfl (bin_shr (by omega))) ?_
  refine zs2 ?_
  refine zR ?_
  exact congrArg i64 (shr_val a by_)
end Go.Proofs.YtobhnjnffnbbkaaGreatDoor
namespace Go.Proofs.YtobhnjnffnbbkaaGreatDoor
open Go.RowKit
set_option maxRecDepth 100000
set_option maxHeartbeats 40000000
theorem tw_quo (a b : Int) : twoS [47] a b = ((two .quo a b).1, true, (two .quo a b).2) := rfl
theorem tw_rem (a b : Int) : twoS [77, 79, 68] a b = ((two .rem a b).1, true, (two .rem a b).2) := rfl
theorem tw_add (a b : Int) : twoS [43] a b = ((two .add a b).1, true, (two .add a b).2) := rfl
theorem tw_sub (a b : Int) : twoS [45] a b = ((two .sub a b).1, true, (two .sub a b).2) := rfl
theorem tw_mul (a b : Int) : twoS [42] a b = ((two .mul a b).1, true, (two .mul a b).2) := rfl
theorem tw_and (a b : Int) : twoS [65, 78, 68] a b = ((two .and a b).1, true, (two .and a b).2) := rfl
theorem tw_or (a b : Int) : twoS [79, 82] a b = ((two .or a b).1, true, (two .or a b).2) := rfl
theorem tw_xor (a b : Int) : twoS [88, 79, 82] a b = ((two .xor a b).1, true, (two .xor a b).2) := rfl
theorem tw_shl (a b : Int) : twoS [76, 83, 72, 73, 70, 84] a b = ((two .shl a b).1, true, (two .shl a b).2) := rfl
theorem tw_shr (a b : Int) : twoS [82, 83, 72, 73, 70, 84] a b = ((two .shr a b).1, true, (two .shr a b).2) := rfl
theorem tw_min (a b : Int) : twoS [77, 73, 78] a b = ((two .min a b).1, true, (two .min a b).2) := rfl
theorem tw_max (a b : Int) : twoS [77, 65, 88] a b = ((two .max a b).1, true, (two .max a b).2) := rfl
theorem held_two {s : Str} {a b : Int} (h0 : s ≠ [47]) (h1 : s ≠ [77, 79, 68]) (h2 : s ≠ [43]) (h3 : s ≠ [45]) (h4 : s ≠ [42]) (h5 : s ≠ [65, 78, 68]) (h6 : s ≠ [79, 82]) (h7 : s ≠ [88, 79, 82]) (h8 : s ≠ [76, 83, 72, 73, 70, 84]) (h9 : s ≠ [82, 83, 72, 73, 70, 84]) (h10 : s ≠ [77, 73, 78]) (h11 : s ≠ [77, 65, 88]) : tTwo (twoS s a b) = tup3 (i64 (heldS s a b).1) (boo (heldS s a b).2) (i64 0) := by
 unfold heldS
 by_cases h12 : s = [61]
 ·subst h12; rfl
 rw [if_neg h12]
 by_cases h13 : s = [60, 62]
 ·subst h13; rfl
 rw [if_neg h13]
 by_cases h15 : s = [62]
 ·subst h15; rfl
 rw [if_neg h15]
 by_cases h14 : s = [60]
 ·subst h14; rfl
 rw [if_neg h14]
 by_cases h16 : s = [60, 61]
 ·subst h16; rfl
 rw [if_neg h16]
 by_cases h17 : s = [62, 61]
 ·subst h17; rfl
 rw [if_neg h17]
 by_cases h19 : s = [85, 62]
 ·subst h19; rfl
 rw [if_neg h19]
 by_cases h18 : s = [85, 60]
 ·subst h18; rfl
 rw [if_neg h18]
 rw [twoS_no (op2_none h0 h1 h2 h3 h4 h5 h6 h7 h8 h9 h10 h11 h12 h13 h14 h15 h16 h17 h18 h19)]; rfl
theorem alu_Two (name : Str) (a b : Int) (hb : Fit b) : PureC Tryz.prog 149 [str name, i64 a, i64 b] (tTwo (twoS name a b)) := by
 refine pW tG (rs := [.tmp 6, .tmp 7, .tmp 8]) Tryz.func149 rfl rfl rfl (by simp) (by simp) (fun B => ?_)
 refine zu3 ?_
 refine Ws ?_
 refine zu1 ?_
 refine Wl ?_
 refine Ws ?_
 refine zp1 ?_
 refine Wa 16 rfl (str_eql _ _) ?_
 refine zs1 ?_
 refine Wi rfl (fun hi1 => ?_) (fun hi1 => ?_)
 ·refine Wj ?_
  refine Wt rfl hi1 ?_
  refine zp2 ?_
  refine Wc rfl rfl (dC rfl Tryz.func187 rfl rfl ((k_Div a b hb) _)) ?_
  refine zy5 ?_
  refine zs2 ?_
  refine Ws ?_
  refine zp2 ?_
  refine Wa 26 rfl (str_eql _ _) ?_
  refine Wn ?_
  refine Wi rfl (fun hi2 => ?_) (fun hi2 => ?_)
  ·refine W_region rfl ?_
   refine zs2 ?_
   refine zu5 ?_
   refine zR ?_
   (exfalso; (try simp only [dnL] at *); simp_all; done)
  ·refine Wj ?_
   refine zu5 ?_
   refine zR ?_
   ((try simp only [dnL] at *); simp_all [tTwo, tup3, i64, boo, i64w, two, andS, orS, xorS, IntKind.bits, tw_quo, tw_rem, tw_add, tw_sub, tw_mul, tw_and, tw_or, tw_xor, tw_shl, tw_shr, tw_min, tw_max]; done)
 ·refine W_region rfl ?_
  refine z1 ?_
  refine Wa 17 rfl (str_eql _ _) ?_
  refine zs1 ?_
  refine Wi rfl (fun hi3 => ?_) (fun hi3 => ?_)
  ·refine zp2 ?_
   refine Wc rfl rfl (dC rfl Tryz.func187 rfl rfl ((k_Div a b hb) _)) ?_
   refine zy5 ?_
   refine zs2 ?_
   refine Ws ?_
   refine zp2 ?_
   refine Wa 26 rfl (str_eql _ _) ?_
   refine Wn ?_
   refine Wi rfl (fun hi2 => ?_) (fun hi2 => ?_)
   ·refine W_region rfl ?_
    refine zs2 ?_
    refine zu5 ?_
    refine zR ?_
    ((try simp only [dnL] at *); simp_all [tTwo, tup3, i64, boo, i64w, two, andS, orS, xorS, IntKind.bits, tw_quo, tw_rem, tw_add, tw_sub, tw_mul, tw_and, tw_or, tw_xor, tw_shl, tw_shr, tw_min, tw_max]; done)
   ·refine Wj ?_
    refine zu5 ?_
    refine zR ?_
    (exfalso; (try simp only [dnL] at *); simp_all; done)
  ·refine zp1 ?_
   refine Wa 31 rfl (str_eql _ _) ?_
   refine zs1 ?_
   refine Wi rfl (fun hi4 => ?_) (fun hi4 => ?_)
   ·refine zp5 ?_
    refine zs1 ?_
    refine zR ?_
    ((try simp only [dnL] at *); simp_all [tTwo, tup3, i64, boo, i64w, two, andS, orS, xorS, IntKind.bits, tw_quo, tw_rem, tw_add, tw_sub, tw_mul, tw_and, tw_or, tw_xor, tw_shl, tw_shr, tw_min, tw_max]; done)
   ·refine zp1 ?_
    refine Wa 36 rfl (str_eql _ _) ?_
    refine zs1 ?_
    refine Wi rfl (fun hi5 => ?_) (fun hi5 => ?_)
    ·refine zp5 ?_
     refine zs1 ?_
     refine zR ?_
     ((try simp only [dnL] at *); simp_all [tTwo, tup3, i64, boo, i64w, two, andS, orS, xorS, IntKind.bits, tw_quo, tw_rem, tw_add, tw_sub, tw_mul, tw_and, tw_or, tw_xor, tw_shl, tw_shr, tw_min, tw_max]; done)
    ·refine zp1 ?_
     refine Wa 41 rfl (str_eql _ _) ?_
     refine zs1 ?_
     refine Wi rfl (fun hi6 => ?_) (fun hi6 => ?_)
     ·refine zp5 ?_
      refine zs1 ?_
      refine zR ?_
      ((try simp only [dnL] at *); simp_all [tTwo, tup3, i64, boo, i64w, two, andS, orS, xorS, IntKind.bits, tw_quo, tw_rem, tw_add, tw_sub, tw_mul, tw_and, tw_or, tw_xor, tw_shl, tw_shr, tw_min, tw_max]; done)
     ·refine zp1 ?_
      refine Wa 46 rfl (str_eql _ _) ?_
      refine zs1 ?_
      refine Wi rfl (fun hi7 => ?_) (fun hi7 => ?_)
      ·refine zp5 ?_
       refine zs1 ?_
       refine zR ?_
       ((try simp only [dnL] at *); subst_vars; exact congrArg (fun z => tup3 (i64 z) (boo true) (i64 0)) (i64w _))
      ·refine zp1 ?_
       refine Wa 51 rfl (str_eql _ _) ?_
       refine zs1 ?_
       refine Wi rfl (fun hi8 => ?_) (fun hi8 => ?_)
       ·refine zp5 ?_
        refine zs1 ?_
        refine zR ?_
        ((try simp only [dnL] at *); subst_vars; exact congrArg (fun z => tup3 (i64 z) (boo true) (i64 0)) (i64w _))
       ·refine zp1 ?_
        refine Wa 56 rfl (str_eql _ _) ?_
        refine zs1 ?_
        refine Wi rfl (fun hi9 => ?_) (fun hi9 => ?_)
        ·refine zp5 ?_
         refine zs1 ?_
         refine zR ?_
         ((try simp only [dnL] at *); subst_vars; exact congrArg (fun z => tup3 (i64 z) (boo true) (i64 0)) (i64w _))
        ·refine Ws ?_
         refine zp1 ?_
         refine Wa 61 rfl (str_eql _ _) ?_
         refine zs1 ?_
         refine Wi rfl (fun hi10 => ?_) (fun hi10 => ?_)
         ·refine Wj ?_
          refine Wt rfl hi10 ?_
          refine zp4 ?_
          refine Wa 66 rfl (str_eql _ _) ?_
          refine Wc rfl rfl (dC rfl Tryz.func188 rfl rfl ((alu_shift a b _) _)) ?_
          refine zs3 ?_
          refine zR ?_
          ((try simp only [dnL] at *); simp_all [tTwo, tup3, i64, boo, i64w, two, andS, orS, xorS, IntKind.bits, tw_quo, tw_rem, tw_add, tw_sub, tw_mul, tw_and, tw_or, tw_xor, tw_shl, tw_shr, tw_min, tw_max]; done)
         ·refine W_region rfl ?_
          refine z1 ?_
          refine Wa 62 rfl (str_eql _ _) ?_
          refine zs1 ?_
          refine Wi rfl (fun hi11 => ?_) (fun hi11 => ?_)
          ·refine zp4 ?_
           refine Wa 66 rfl (str_eql _ _) ?_
           refine Wc rfl rfl (dC rfl Tryz.func188 rfl rfl ((alu_shift a b _) _)) ?_
           refine zs3 ?_
           refine zR ?_
           ((try simp only [dnL] at *); simp_all [tTwo, tup3, i64, boo, i64w, two, andS, orS, xorS, IntKind.bits, tw_quo, tw_rem, tw_add, tw_sub, tw_mul, tw_and, tw_or, tw_xor, tw_shl, tw_shr, tw_min, tw_max]; done)
          ·refine zp1 ?_
           refine Wa 69 rfl (str_eql _ _) ?_
           refine zs1 ?_
           refine Wi rfl (fun hi12 => ?_) (fun hi12 => ?_)
           ·refine zp5 ?_
            refine zs1 ?_
            refine zR ?_
            ((try simp only [dnL] at *); simp_all [tTwo, tup3, i64, boo, i64w, two, andS, orS, xorS, IntKind.bits, tw_quo, tw_rem, tw_add, tw_sub, tw_mul, tw_and, tw_or, tw_xor, tw_shl, tw_shr, tw_min, tw_max]; done)
           ·refine zp1 ?_
            refine Wa 74 rfl (str_eql _ _) ?_
            refine zs1 ?_
            refine Wi rfl (fun hi13 => ?_) (fun hi13 => ?_)
            ·refine zp5 ?_
             refine zs1 ?_
             refine zR ?_
             ((try simp only [dnL] at *); simp_all [tTwo, tup3, i64, boo, i64w, two, andS, orS, xorS, IntKind.bits, tw_quo, tw_rem, tw_add, tw_sub, tw_mul, tw_and, tw_or, tw_xor, tw_shl, tw_shr, tw_min, tw_max]; done)
            ·refine Wj ?_
             refine zp3 ?_
             refine Wc rfl rfl (dC rfl Tryz.func189 rfl rfl ((alu_held name a b) _)) ?_
             refine zs5 ?_
             refine zu5 ?_
             refine zR ?_
             ((try simp only [dnL] at *); exact (held_two (by assumption) (by assumption) (by assumption) (by assumption) (by assumption) (by assumption) (by assumption) (by assumption) (by assumption) (by assumption) (by assumption) (by assumption)).symm)
end Go.Proofs.YtobhnjnffnbbkaaGreatDoor
namespace Go.Proofs.YtobhnjnffnbbkaaGreatDoor
open Go.RowKit
set_option maxRecDepth 100000
set_option maxHeartbeats 4000000
theorem pic_Sign (p : VPic) (n : Int) (hp : p.b.length ≤ 1000000) : PureC Tryz.prog 263 [ePic p, i64 n] (tPic (picSign p n)) := by
 refine pW tG (rs := [.cell 4 32, .tmp 5]) Tryz.func263 rfl rfl rfl (by simp) (by simp) (fun B => ?_)
 refine zu3 ?_
 refine Ws ?_
 refine zu2 ?_
 refine Wi rfl (fun hi1 => ?_) (fun hi1 => ?_)
 ·have h0 : 0 ≤ n := by (try simp only [dnL] at *); omega
  refine zu3 ?_
  refine zR ?_
  rw [picSign, if_pos h0]; rfl
 ·have h0 : ¬ 0 ≤ n := by (try simp only [dnL] at *); omega
  refine Wj ?_
  refine zp1 ?_
  refine Wc rfl rfl (dC rfl Tryz.func262 rfl rfl ((pic_Hold p 45 hp) _)) ?_
  refine zs4 ?_
  refine zR ?_
  rw [picSign, if_neg h0]; rfl
def digOf (p : VPic) (lo hi base : Int) : VPic × Int := picHold p (digS (udivS lo (udivS hi 0 base).2.1 base).2.1)
def picDigit (p : VPic) (lo hi base : Int) : VPic × Int × Int × Int :=
 if base < 2 ∨ 36 < base then (p, lo, hi, -24) else
  if (digOf p lo hi base).2 = 0 then ((digOf p lo hi base).1, (udivS lo (udivS hi 0 base).2.1 base).1, (udivS hi 0 base).1, 0) else (p, lo, hi, (digOf p lo hi base).2)
def tDig (r : VPic × Int × Int × Int) : PV := tup4 (ePic r.1) (i64 r.2.1) (i64 r.2.2.1) (i64 r.2.2.2)
@[simp] theorem flat_tDig (r : VPic × Int × Int × Int) : Flat (tDig r) := by simp [tDig]
theorem digS_wrap (n : Int) : IntKind.i64.wrap (digS n) = digS n := by rw [i64w]; unfold digS wrap64; split <;> (try split) <;> omega
theorem pic_Digit (p : VPic) (lo hi base : Int) (hp : p.b.length ≤ 1000000) : PureC Tryz.prog 259 [ePic p, i64 lo, i64 hi, i64 base] (tDig (picDigit p lo hi base)) := by
 refine pW tG (rs := [.cell 8 32, .tmp 9, .tmp 10, .tmp 11]) Tryz.func259 rfl rfl rfl (by simp) (by simp) (fun B => ?_)
 refine zu5 ?_
 refine Ws ?_
 refine zp3 ?_
 refine Wb 22 rfl (fun hg1 => ?_) (fun hg1 => ?_)
 ·refine z6 ?_
  refine z6 ?_
  refine zs1 ?_
  refine Wt rfl rfl ?_
  refine zp5 ?_
  refine zs2 ?_
  refine zR ?_
  rw [picDigit, if_pos (by (try simp only [dnL] at *); omega)]; rfl
 ·refine zs3 ?_
  refine Wi rfl (fun hi1 => ?_) (fun hi1 => ?_)
  ·have hb : base < 2 ∨ 36 < base := by (try simp only [dnL] at *); omega
   refine zp5 ?_
   refine zs2 ?_
   refine zR ?_
   rw [picDigit, if_pos hb]; rfl
  ·have hb : ¬ (base < 2 ∨ 36 < base) := by (try simp only [dnL] at *); omega
   refine Wj ?_
   refine zp2 ?_
   refine Wc rfl rfl (dC rfl Tryz.func202 rfl rfl ((k_UDiv hi 0 base) _)) ?_
   refine zy5 ?_
   refine zs2 ?_
   refine zp3 ?_
   refine Wc rfl rfl (dC rfl Tryz.func202 rfl rfl ((k_UDiv lo _ base) _)) ?_
   refine zy5 ?_
   refine zs2 ?_
   refine Ws ?_
   refine W_drawU [1, 0, 0, 0, 0, 0, 0, 0, 2, 3, 0] [0, 1, 2, 3, 4, 5, 6, 7, 8, 9, 10] mG rfl (by kernel_rfl) ?_
   refine z5 ?_
   refine z3 ?_
   refine Xc rfl rfl rfl rfl (fun _ => dC rfl Tryz.func329 rfl rfl ((k_Digit _) _)) ?_
   refine z3 ?_
   refine Xa 48 rfl (congrArg (fun z => PV.val (Value.int .i64 z)) (digS_wrap _)) ?_
   refine Xc rfl rfl rfl rfl (fun _ => dC rfl Tryz.func262 rfl rfl ((pic_Hold p _ hp) _)) ?_
   iterate 3 refine z3 ?_
   refine WU_ev2 tG rfl rfl rfl rfl rfl trivial rfl ?_
   refine WU_ev3 tG rfl rfl rfl rfl rfl trivial ?_
   refine z3 ?_
   refine WU_nil ?_
   refine Ws ?_
   refine zu2 ?_
   refine Wi rfl (fun hi2 => ?_) (fun hi2 => ?_)
   ·have h0 : ¬ (digOf p lo hi base).2 = 0 := by (try simp only [dnL] at *); exact hi2
    refine zp5 ?_
    refine zs3 ?_
    refine zR ?_
    rw [picDigit, if_neg hb, if_neg h0]; rfl
   ·have h0 : (digOf p lo hi base).2 = 0 := by (try simp only [dnL] at *); exact hi2
    refine Wj ?_
    refine zp5 ?_
    refine zs2 ?_
    refine zR ?_
    rw [picDigit, if_neg hb, if_pos h0]; rfl
end Go.Proofs.YtobhnjnffnbbkaaGreatDoor
namespace Go.Proofs.YtobhnjnffnbbkaaGreatDoor
open Go.RowKit
set_option maxRecDepth 100000
set_option maxHeartbeats 4000000
def picEnd (p : VPic) : List UInt8 × Int := if p.on then (p.b.reverse, 0) else ([], -17)
end Go.Proofs.YtobhnjnffnbbkaaGreatDoor
namespace Go.Proofs.YtobhnjnffnbbkaaGreatDoor
open Go.RowKit
set_option maxRecDepth 100000
set_option maxHeartbeats 4000000
def vmPrint (v : VVm) (s : Str) : VVm × Int := if (s.length : Int) > v.conf.out - v.out.length then (v, -260) else ({ v with out := v.out ++ s }, 0)
def tVm (r : VVm × Int) : PV := tup2 (eVm r.1) (i64 r.2)
@[simp] theorem flat_tVm (r : VVm × Int) : Flat (tVm r) := by simp [tVm]
theorem sq_append_str {l m : Str} {k : SK} : PV.seq (l.length + (⟨m.toArray⟩ : ByteArray).size) (l.flatMap cByte ++ (⟨m.toArray⟩ : ByteArray).data.toList.map fun b => byteP b.toNat) k = .seq (l ++ m).length ((l ++ m).flatMap cByte) k := by
 have h : (⟨m.toArray⟩ : ByteArray).data.toList.map (fun b => byteP b.toNat) = m.flatMap cByte := by rw [cByte_map, List.map_map]; rfl
 rw [str_size, h, ← List.flatMap_append, List.length_append]
theorem vm_Print (v : VVm) (s : Str) (hc : 0 ≤ v.conf.out ∧ v.conf.out ≤ 1000000) (ho : v.out.length ≤ 1000000) (hs : s.length ≤ 140737488355328) : PureC Tryz.prog 321 [eVm v, str s] (tVm (vmPrint v s)) := by
 have w1 : IntKind.i64.wrap (v.conf.out - v.out.length) = v.conf.out - v.out.length := by ((rw [i64w]; unfold wrap64; (try simp only [dnL] at *); omega))
 refine pW tG (rs := [.cell 4 36, .tmp 5]) Tryz.func321 rfl rfl rfl (by simp) (by simp) (fun B => ?_)
 refine zu3 ?_
 refine Ws ?_
 refine zp2 ?_
 refine Wa 7 rfl (str_len _) ?_
 refine zy5 ?_
 refine zs3 ?_
 refine Wi rfl (fun hi1 => ?_) (fun hi1 => ?_)
 ·have h0 : (s.length : Int) > v.conf.out - v.out.length := by (try simp only [dnL] at *); omega
  refine zu3 ?_
  refine zR ?_
  rw [vmPrint, if_pos h0]; rfl
 ·have h0 : ¬ (s.length : Int) > v.conf.out - v.out.length := by (try simp only [dnL] at *); omega
  have h1 : (⟨s.toArray⟩ : ByteArray).size = s.length := str_size s
  refine Wj ?_
  refine zp2 ?_
  refine Wc rfl rfl (dC rfl Tryz.func346 rfl rfl ((clip_bytes v.out (by omega)) _)) ?_
  refine z1 ?_
  refine Wd rfl rfl (does_append_clip (lO tG rfl) rfl (lO tG rfl) (lO tG rfl) rfl rfl (by rfl) (by exact ⟨rfl, rfl, rfl⟩) (by exact flatMap_len _ 1 (fun _ => rfl) _) (by (dsimp only; omega)) (by (omega))) ?_
  refine Wa 21 rfl (sq_append_str) ?_
  refine zs2 ?_
  refine zu3 ?_
  refine zR ?_
  rw [vmPrint, if_neg h0]; rfl
end Go.Proofs.YtobhnjnffnbbkaaGreatDoor
namespace Go.Proofs.YtobhnjnffnbbkaaGreatDoor
open Go.RowKit
set_option maxRecDepth 100000
set_option maxHeartbeats 4000000
def kindOk (n : Int) : Prop := (0 ≤ n ∧ n ≤ 129) ∨ (256 ≤ n ∧ n ≤ 260) ∨ (300 ≤ n ∧ n ≤ 336)
instance (n : Int) : Decidable (kindOk n) := by unfold kindOk; infer_instance
def vmKind (v : VVm) (xt : Int) : Int × Int := if (memFetch v.mem xt).2 = 0 then (if kindOk (memFetch v.mem xt).1 then ((memFetch v.mem xt).1, 0) else (0, -9)) else (0, (memFetch v.mem xt).2)
theorem vm_Kind (v : VVm) (xt : Int) (hm : v.mem.b.length ≤ 140737488355328) (hx : Fit64 xt) : PureC Tryz.prog 62 [eVm v, i64 xt] (tFetch (vmKind v xt)) := by
 have h1 := names_len
 have h2 := specials_len
 refine pW tG (rs := [.tmp 4, .tmp 5]) Tryz.func62 rfl rfl rfl (by simp) (by simp) (fun B => ?_)
 refine zu3 ?_
 refine zp3 ?_
 refine Wc rfl rfl (dC rfl Tryz.func60 rfl rfl ((mem_Fetch v.mem xt hm hx) _)) ?_
 refine zs5 ?_
 refine Ws ?_
 refine zu2 ?_
 refine Wi rfl (fun hi1 => ?_) (fun hi1 => ?_)
 ·have h0 : ¬ (memFetch v.mem xt).2 = 0 := by simpa using hi1
  refine zu3 ?_
  refine zR ?_
  rw [vmKind, if_neg h0]; rfl
 ·have h0 : (memFetch v.mem xt).2 = 0 := by simpa using hi1
  have w1 : IntKind.i64.wrap (IntKind.i64.wrap (300 + (specials.length : Int)) - 1) = 336 := by rw [h2]; decide
  have w2 : IntKind.i64.wrap ((names.length : Int) - 1) = 129 := by rw [h1]; decide
  refine Wj ?_
  refine Ws ?_
  refine zp1 ?_
  refine Wc rfl rfl (dC rfl Tryz.func69 rfl rfl ((vm_Names) _)) ?_
  refine zy2 ?_
  refine Wc rfl rfl (dC rfl Tryz.func105 rfl rfl ((vm_within _ _ _) _)) ?_
  refine z1 ?_
  refine Wb 23 rfl (fun hg1 => ?_) (fun hg1 => ?_)
  ·refine z6 ?_
   refine z6 ?_
   refine zy2 ?_
   iterate 6 refine z6 ?_
   refine zs1 ?_
   refine Wt rfl rfl ?_
   refine zu3 ?_
   refine zR ?_
   (rw [vmKind, if_pos h0, if_pos (by unfold kindOk; (try simp only [dnL] at *); omega)]; rfl)
  ·refine z1 ?_
   refine Wc rfl rfl (dC rfl Tryz.func105 rfl rfl ((vm_within _ _ _) _)) ?_
   refine zy2 ?_
   refine Wb 27 rfl (fun hg2 => ?_) (fun hg2 => ?_)
   ·refine z6 ?_
    iterate 5 refine z6 ?_
    refine zs1 ?_
    refine Wt rfl rfl ?_
    refine zu3 ?_
    refine zR ?_
    (rw [vmKind, if_pos h0, if_pos (by unfold kindOk; (try simp only [dnL] at *); omega)]; rfl)
   ·refine z1 ?_
    refine Wc rfl rfl (dC rfl Tryz.func106 rfl rfl ((vm_Specials) _)) ?_
    refine zy3 ?_
    refine Wc rfl rfl (dC rfl Tryz.func105 rfl rfl ((vm_within _ _ _) _)) ?_
    refine zs1 ?_
    refine Wi rfl (fun hi2 => ?_) (fun hi2 => ?_)
    ·refine zu3 ?_
     refine zR ?_
     (rw [vmKind, if_pos h0, if_pos (by unfold kindOk; (try simp only [dnL] at *); omega)]; rfl)
    ·refine Wj ?_
     refine zu2 ?_
     refine zR ?_
     (rw [vmKind, if_pos h0, if_neg (by unfold kindOk; (try simp only [dnL] at *); omega)]; rfl)
end Go.Proofs.YtobhnjnffnbbkaaGreatDoor
namespace Go.Proofs.YtobhnjnffnbbkaaGreatDoor
open Go.RowKit
set_option maxRecDepth 100000
theorem text_snoc {l : List UInt8} {x : Int} {k : Nat} {s : SK} (h0 : 0 ≤ x) (h1 : x + k < l.length) (k2 : IntKind.i64.wrap (x + (k : Int)) = x + k) :
  PV.seq ((l.drop x.toNat).take k ++ [l.getD (IntKind.i64.wrap (x + (k : Int))).toNat 0]).length (((l.drop x.toNat).take k ++ [l.getD (IntKind.i64.wrap (x + (k : Int))).toNat 0]).flatMap cByte) s = .seq ((l.drop x.toNat).take (k + 1)).length (((l.drop x.toNat).take (k + 1)).flatMap cByte) s := by
 rw [k2, take_snoc' _ k 0 (by simp; omega)]
 have : l.getD (x + (k : Int)).toNat 0 = (l.drop x.toNat).getD k 0 := by
  unfold List.getD
  rw [List.getElem?_drop]
  congr 2; omega
 rw [this]
theorem ref_Text (m : VMem) (at_ n : Int) (hm : MemOk m) (ha : Fit64 at_) (hn : Fit64 n) : PureC Tryz.prog 101 [eMem m, i64 at_, i64 n] (tText (memText m at_ n)) := by
 have hm1 := hm.b
 refine pW tG (rs := [.tmp 6, .tmp 7]) Tryz.func101 rfl rfl rfl (by simp) (by simp) (fun B => ?_)
 refine zu3 ?_
 refine zp3 ?_
 refine Wc rfl rfl (dC rfl Tryz.func97 rfl rfl ((ref_There m at_ n (by omega) ha hn) _)) ?_
 refine zs1 ?_
 refine Ws ?_
 refine zu2 ?_
 refine Wi rfl (fun hi1 => ?_) (fun hi1 => ?_)
 ·have ht : ¬ memThere m at_ n = true := by simpa using hi1
  refine zu2 ?_
  refine zR ?_
  rw [memText, if_neg ht]; rfl
 ·have ht : memThere m at_ n = true := by simpa using hi1
  have hN : 0 ≤ n ∧ (0 < n → 0 ≤ at_ ∧ at_ + n ≤ m.b.length) := by unfold memThere at ht; simp only [decide_eq_true_eq] at ht; omega
  refine Wj ?_
  refine zp1 ?_
  refine WO_own 9 0 1 rfl rfl ?_
  refine Wn ?_
  refine Ws ?_
  refine zu1 ?_
  refine Wl ?_
  show W _ _ _ _ _ _ _
  refine W_loopS (fun (k : Nat) => [(1, i64 at_), (2, i64 n), (3, .ptr 0 0), (10, i64 k), (9, .seq ((m.b.drop at_.toNat).take k).length (((m.b.drop at_.toNat).take k).flatMap cByte) (.own 2 1))]) (fun (k : Nat) => [.cells (cMem m) 27, .dead]) (fun (k : Nat) => [.free (((m.b.drop at_.toNat).take k).length * 1)]) (fun (k : Nat) => (k : Int) ≤ n) (fun (k : Nat) => n.toNat - k) (0) (by omega) [1] ?_ ?_
  ·exact fitT
  ·intro k hk
   refine Ws ?_
   refine zu3 ?_
   refine Wi rfl (fun hi2 => ?_) (fun hi2 => ?_)
   ·have hlt : (k : Int) < n := oT hi2
    have k2 : IntKind.i64.wrap (at_ + (k : Int)) = at_ + k := wrap_in (by omega) (by omega)
    refine Wj ?_
    refine Ws ?_
    refine Wl ?_
    refine W_region rfl ?_
    refine zy5 ?_
    refine z1 ?_
    refine Wv tG rfl rfl rfl (by rw [k2]; omega) (iR cByte 1 (fun _ => rfl) 0 (by rw [k2]; omega)) ?_
    refine zy2 ?_
    refine Wa 30 rfl (bsL cByte [_] rfl rfl) ?_
    refine Wd rfl rfl (does_append_own (lO tG rfl) rfl (lO tG rfl) (lO tG rfl) rfl rfl rfl rfl (by simp) (by exact ⟨_, rfl⟩) (by exact ⟨rfl, rfl, flatMap_len _ 1 (fun _ => rfl) _, okC_flat _ (fun _ => rfl) _⟩) (by ((simp_all; omega))) (by ((simp_all; omega)))) ?_
    refine Wa 31 rfl (sq_append cByte) ?_
    refine z1 ?_
    skip
    refine Wn ?_
    refine W_region rfl ?_
    refine zs3 ?_
    exact ⟨k + 1, [3], (by omega), (by omega), (fitT (sub := by repeat (first | exact subL_nil | refine subL_cons (by first | exact imp_of rfl | exact imp_of (text_snoc (by omega) (by omega) k2) | exact imp_of (congrArg i64 (by (rw [i64w]; unfold wrap64; omega)))) ?_)))⟩
   ·have hkn : k = n.toNat := by have := oF hi2; omega
    refine W_exit ?_
    refine zu3 ?_
    refine zR ?_
    rw [memText, if_pos ht, ← hkn]; rfl
theorem laidB_nil (l : List UInt8) (k : Nat) : laidB l k [] = l := by simp [laidB]
theorem laidB_snoc {l b : List UInt8} {p k : Nat} (hk : k < b.length) (h : p + b.length ≤ l.length) : (laidB l p (b.take k)).set (p + k) (b.getD k 0) = laidB l p (b.take (k + 1)) := by
 unfold laidB
 rw [take_snoc' b k 0 hk]
 apply List.ext_getElem?
 intro i
 have e1 : (List.take p l).length = p := by simp; omega
 have e2 : (List.take k b).length = k := by simp; omega
 simp only [List.getElem?_set, List.getElem?_append, List.length_append, e1, e2, List.length_singleton, List.getElem?_drop, List.length_drop]
 by_cases hi : p + k = i
 ·subst hi
  rw [if_pos rfl, if_pos (by omega), if_pos (by omega), if_neg (by omega), if_neg (by omega)]
  simp
 ·rw [if_neg hi]
  by_cases h1 : i < p
  ·rw [if_pos (by omega), if_pos h1, if_pos (by omega), if_pos h1]
  ·by_cases h2 : i < p + k
   ·rw [if_pos h2, if_neg h1, if_pos (by omega), if_neg h1, if_pos (by omega)]
   ·rw [if_neg h2, if_neg (by omega)]
    congr 1; omega
theorem laid_store {A B' : Ob} {l b : List UInt8} {p k o : Nat} {e : TypeId} (hk : k < b.length) (h : p + b.length ≤ l.length) (ho : o = p + k) :
  [A, B', Ob.cells ((laidB l p (b.take (k + 1))).flatMap cByte) e] = [A, B', .cells (splice ((laidB l p (b.take k)).flatMap cByte) o [.val (.int .u8 ((b.getD k 0).toNat : Int))]) e] := by
 subst ho
 rw [← laidB_snoc hk h, ← splice_byte (by rw [laidB_len (by simp; omega)]; omega)]
theorem laid_end {l b : List UInt8} {p k : Nat} (hk : b.length ≤ k) (h : p + b.length ≤ l.length) : PV.seq l.length (((laidB l p (b.take k)).flatMap cByte).take (laidB l p (b.take k)).length) .any = sq cByte (laidB l p b) := by
 rw [List.take_of_length_le hk, cB_take, List.take_length]
 unfold sq
 rw [laidB_len h]
theorem ref_Write (m : VMem) (at_ : Int) (b : List UInt8) (hm : MemOk m) (ha : Fit64 at_) (hb : b.length ≤ 1000000) : PureC Tryz.prog 58 [eMem m, i64 at_, sq cByte b] (tMem (memWrite m at_ b)) := by
 have hm1 := hm.b
 have hm2 := hm.old
 refine pW tG (rs := [.cell 6 27, .tmp 7]) Tryz.func58 rfl rfl rfl (by simp) (by simp) (fun B => ?_)
 refine zu3 ?_
 refine zp4 ?_
 refine Wc rfl rfl (dC rfl Tryz.func97 rfl rfl ((ref_There m at_ b.length (by omega) ha (fitN hb)) _)) ?_
 refine zs1 ?_
 refine Ws ?_
 refine zu2 ?_
 refine Wi rfl (fun hi1 => ?_) (fun hi1 => ?_)
 ·rw [memWrite_no (by simpa using hi1)]
  refine zu3 ?_
  refine zR ?_
  rfl
 ·have ht : memThere m at_ b.length = true := by simpa using hi1
  refine Wj ?_
  refine Ws ?_
  refine zu3 ?_
  refine Wi rfl (fun hi2 => ?_) (fun hi2 => ?_)
  ·rw [memWrite_nil ht (by simpa using hi2)]
   refine zu3 ?_
   refine zR ?_
   rfl
  ·have hne : b.length ≠ 0 := by simpa using hi2
   obtain ⟨k0, k1⟩ := there_in ht hne
   have hX : (memText m at_ b.length).1 = (m.b.drop at_.toNat).take b.length := by unfold memText; rw [if_pos ht]; simp
   refine Wj ?_
   refine zp4 ?_
   refine Wc rfl rfl (dC rfl Tryz.func101 rfl rfl ((ref_Text m at_ b.length hm ha (fitN hb)) _)) ?_
   refine zs5 ?_
   refine zp3 ?_
   refine Wd rfl rfl (does_append_fresh (lO tG rfl) rfl (lO tG rfl) (lO tG rfl) rfl rfl ⟨_, rfl⟩ ⟨rfl, rfl, flatMap_len _ 1 (fun _ => rfl) _, okC_flat _ (fun _ => rfl) _⟩ rfl (by dsimp only; omega) (by omega) (by omega)) ?_
   refine Wa 36 rfl (show PV.arw 2 0 (0 + m.b.length) = .arw 2 0 m.b.length by rw [Nat.zero_add]) ?_
   refine WO_ob (H' := [.cells (cMem m) 27, .cells [.seq 0 [] .clip, .seq 0 [] .clip] 27, .cells ((laidB m.b at_.toNat (b.take 0)).flatMap cByte) 5]) (by rw [List.take_zero, laidB_nil]; rfl) ?_
   refine zs1 ?_
   refine Ws ?_
   refine zu1 ?_
   refine Wl ?_
   show W _ _ _ _ _ _ _
   refine W_loopS (fun (k : Nat) => [(1, i64 at_), (2, sq cByte b), (3, .ptr 0 0), (6, .ptr 1 0), (9, sq cByte (memText m at_ b.length).1), (11, .arw 2 0 m.b.length), (12, i64 k)]) (fun (k : Nat) => [.cells (cMem m) 27, .cells [.seq 0 [] .clip, .seq 0 [] .clip] 27, .cells ((laidB m.b at_.toNat (b.take k)).flatMap cByte) 5]) (fun (k : Nat) => []) (fun (k : Nat) => k ≤ b.length) (fun (k : Nat) => b.length - k) (0) (by omega) [] ?_ ?_
   ·exact fitT
   ·intro k hk
    refine Ws ?_
    refine zu4 ?_
    refine Wi rfl (fun hi3 => ?_) (fun hi3 => ?_)
    ·have hlt : k < b.length := by have := oT hi3; omega
     have k2 : IntKind.i64.wrap (at_ + (k : Int)) = at_ + k := wrap_in (by omega) (by omega)
     refine Wj ?_
     refine Ws ?_
     refine Wl ?_
     refine W_region rfl ?_
     refine zy5 ?_
     refine z1 ?_
     refine Wv tG rfl rfl rfl (by omega) (iN cByte 1 (fun _ => rfl) 0 (by omega)) ?_
     refine z1 ?_
     refine z2 ?_ (q := (by rw [k2]; omega))
     refine Wd rfl rfl (does_store (lO tG rfl) rfl rfl rfl rfl rfl rfl (by rw [Nat.ble_eq, cB_len, laidB_len (by simp; omega)]; dsimp only; rw [k2]; simp; omega)) ?_
     refine WO_ob (H' := [.cells (cMem m) 27, .cells [.seq 0 [] .clip, .seq 0 [] .clip] 27, .cells ((laidB m.b at_.toNat (b.take (k + 1))).flatMap cByte) 5]) (laid_store hlt (by omega) (by rw [k2]; dsimp only; omega)) ?_
     refine Wn ?_
     refine W_region rfl ?_
     refine zs3 ?_
     exact ⟨k + 1, [], (by omega), (by omega), fitT⟩
    ·have hge : b.length ≤ k := by have := oF hi3; omega
     refine W_exit ?_
     refine zp1 ?_
     refine WO_freeze 52 2 _ (laidB m.b at_.toNat (b.take k)).length rfl rfl (by rw [cB_len]; exact Nat.le_refl _) ?_
     refine Wa 52 rfl (laid_end hge (by omega)) ?_
     refine zy3 ?_
     refine Wd rfl rfl (does_append_clip (lO tG rfl) rfl (lO tG rfl) (lO tG rfl) rfl rfl (by exact ⟨_, rfl⟩) (by exact ⟨rfl, rfl, flatMap_len _ 2 (fun _ => rfl) _, okC_flat _ (fun _ => rfl) _⟩) (by rfl) (by (dsimp only; omega)) (by (omega))) ?_
     refine Wa 56 rfl (sq_none cPatch) ?_
     refine zy4 ?_
     refine Wa 60 rfl ((show PV.seq 1 _ .clip = .seq (List.length [(⟨at_, (memText m at_ b.length).1⟩ : VPatch)]) (List.flatMap cPatch [(⟨at_, (memText m at_ b.length).1⟩ : VPatch)]) .clip from rfl)) ?_
     refine Wd rfl rfl (does_append_own (lO tG rfl) rfl (lO tG rfl) (lO tG rfl) rfl rfl rfl rfl (by simp) (by exact ⟨_, rfl⟩) (by exact ⟨rfl, rfl, flatMap_len _ 2 (fun _ => rfl) _, okC_flat _ (fun _ => rfl) _⟩) (by ((simp_all; omega))) (by ((simp_all; omega)))) ?_
     refine Wa 61 rfl (sq_append cPatch) ?_
     refine zs3 ?_
     refine zR ?_
     rw [memWrite_yes ht hne, ← hX]; rfl
end Go.Proofs.YtobhnjnffnbbkaaGreatDoor
namespace Go.Proofs.YtobhnjnffnbbkaaGreatDoor
open Go.RowKit
set_option maxRecDepth 100000
theorem ref_Store (m : VMem) (at_ n : Int) (hm : MemOk m) (ha : Fit64 at_) : PureC Tryz.prog 30 [eMem m, i64 at_, i64 n] (tMem (memStore m at_ n)) := by
 have hm1 := hm.b
 have hm2 := hm.old
 refine pW tG (rs := [.cell 6 27, .tmp 7]) Tryz.func30 rfl rfl rfl (by simp) (by simp) (fun B => ?_)
 refine zu3 ?_
 refine zp2 ?_
 refine Wc rfl rfl (dC rfl Tryz.func57 rfl rfl ((ref_cellAt m at_ (by omega) ha) _)) ?_
 refine zs1 ?_
 refine Ws ?_
 refine zu2 ?_
 refine Wi rfl (fun hi1 => ?_) (fun hi1 => ?_)
 ·have h0 : memCellAt m at_ ≠ 0 := by simpa using hi1
  refine zu4 ?_
  refine zR ?_
  rw [memStore, if_neg h0]; rfl
 ·have h0 : memCellAt m at_ = 0 := by simpa using hi1
  refine Wj ?_
  refine Ws ?_
  refine W_drawU [1, 0, 0, 0, 0, 0, 0, 3, 0] [0, 1, 2, 3, 4, 5, 6, 7, 8] mG rfl (by kernel_rfl) ?_
  refine z5 ?_
  iterate 2 refine z3 ?_
  refine Xc rfl rfl rfl rfl (fun _ => dC rfl Tryz.func59 rfl rfl ((ref_put8 n) _)) ?_
  refine Xc rfl rfl rfl rfl (fun _ => dC rfl Tryz.func58 rfl rfl ((ref_Write m at_ (putC n) hm ha (by rw [putC_len]; omega)) _)) ?_
  iterate 2 refine z3 ?_
  refine WU_ev3 tG rfl rfl rfl rfl rfl trivial ?_
  refine z3 ?_
  refine WU_nil ?_
  refine zR ?_
  rw [memStore, if_pos h0]; rfl
end Go.Proofs.YtobhnjnffnbbkaaGreatDoor
namespace Go.Proofs.YtobhnjnffnbbkaaGreatDoor
open Go.RowKit
set_option maxRecDepth 100000
set_option maxHeartbeats 4000000
theorem bits_Mul1 (n : Nat) (h : n ≤ 1000000) : PureC Tryz.prog 322 [.val (.int .u64 1), .val (.int .u64 n)] (tup2 (.val (.int .u64 0)) (.val (.int .u64 n))) := by
 refine pure_of_calls (P := Tryz.prog) (args := [.int .u64 1, .int .u64 n]) (v := .tuple #[.int .u64 0, .int .u64 n]) (fun c => ?_) (fun w => ?_)
 ·unfold tup2 Rep
  exact ⟨[_, _], rfl, repL_cons.2 ⟨rep_val _ _, repL_cons.2 ⟨rep_val _ _, repL_nil.2 rfl⟩⟩⟩
 ·refine Calls.mono (Tryz.bits_Mul 1 n (by omega) (by omega) w) ?_
  rintro e w' ⟨rfl, rfl⟩
  refine ⟨?_, Grows.refl _⟩
  rw [Nat.one_mul, Nat.div_eq_of_lt (by omega), Nat.mod_eq_of_lt (by omega)]; rfl
theorem u64_nat {n : Nat} (h : n ≤ 1000000) : PV.val (.int .u64 (IntKind.u64.wrap (n : Int))) = .val (.int .u64 (n : Int)) := by
 exact congrArg (fun z => PV.val (Value.int .u64 z)) (by rw [IntKind.wrap_u64]; omega)
theorem i64_nat {n : Nat} (h : n ≤ 1000000) : PV.val (.int .i64 (IntKind.i64.wrap (n : Int))) = .val (.int .i64 (n : Int)) := by
 exact congrArg (fun z => PV.val (Value.int .i64 z)) (by rw [i64w]; unfold wrap64; omega)
def filledP (c : UInt8) (n k : Nat) : List PV := (List.replicate k c).flatMap cByte ++ List.replicate (n - k) .any
theorem filledP_len {c : UInt8} {n k : Nat} (h : k ≤ n) : (filledP c n k).length = n := by
 unfold filledP
 rw [List.length_append, flatMap_len cByte 1 (fun _ => rfl)]
 simp; omega
theorem rep_cB (c : UInt8) (k : Nat) : (List.replicate k c).flatMap cByte = List.replicate k (.val (.int .u8 (c.toNat : Int))) := by
 rw [List.flatMap_replicate]
 induction k with
 | zero => rfl
 | succ k ih => rw [List.replicate_succ, List.flatten_cons, ih]; rfl
theorem filledP_more {c : UInt8} {n k q : Nat} (h : k + q ≤ n) : splice (filledP c n k) k ((List.replicate q c).flatMap cByte) = filledP c n (k + q) := by
 unfold filledP splice
 rw [rep_cB, rep_cB, rep_cB, List.take_append_of_le_length (by simp), List.take_of_length_le (by simp), List.drop_append, List.length_replicate, List.length_replicate, List.drop_of_length_le (by simp), List.nil_append, List.drop_replicate, List.replicate_append_replicate]
 congr 2; omega
theorem filledP_take {c : UInt8} {n k q : Nat} (h : q ≤ k) : ((filledP c n k).drop 0).take q = (List.replicate q c).flatMap cByte := by
 unfold filledP
 rw [rep_cB, rep_cB, List.drop_zero, List.take_append_of_le_length (by simpa using h), List.take_replicate, Nat.min_eq_left h]
theorem filledP_zero (c : UInt8) (n : Nat) : List.replicate n .any = filledP c n 0 := by simp [filledP]
theorem mk_body : Tryz.f345.body.isNone = true := by kernel_rfl
theorem mk_next : Extern.findNext Tryz.f345 = none := by kernel_rfl
theorem mk_find : Extern.find Tryz.f345 = some (Extern.BytealgMakeNoZero.makeNoZero #[3] #[24]) := by kernel_rfl
theorem mk_name : (Tryz.f345.name == "runtime.NumGoroutine") = false := by kernel_rfl
theorem does_mk {B : Nat → Nat → Prop} {o : Oper} {T : Nat → PV} {H : List Ob} {x : Operand} {ats : Array TypeId} {m : Nat} (ho : o.op = .call { callee := .value (.func 345), args := #[x], argTypes := ats }) (hx : opv T x = .val (.int .i64 (m : Int))) (hm : m ≤ 281474976710656) :
  Does Tryz.prog B o T H (.arw H.length 0 m) (H ++ [.cells (List.replicate m .any) 5]) :=
 does_makeNoZero ho Tryz.func345 mk_name mk_body mk_next mk_find (lO (G := tys) (t := 24) tG rfl) rfl hx hm
def chunkOf (n : Nat) : Nat := if 8192 < n then 8192 else n
theorem chunk_pos {n : Nat} (h : n ≠ 0) : 0 < chunkOf n := by unfold chunkOf; split <;> omega
theorem rep_one {n : Nat} (h : n ≠ 0) : PV.val (.int .i64 ((min 1 n : Nat) : Int)) = .val (.int .i64 ((1 : Nat) : Int)) := by rw [Nat.min_eq_left (by omega)]
theorem rep_first {c : UInt8} {n : Nat} {e : TypeId} (h : n ≠ 0) : [Ob.cells (filledP c n 1) e] = [Ob.cells (splice (filledP c n 0) 0 ((List.flatMap cByte [c]).take (min 1 n * 1))) e] := by
 rw [Nat.min_eq_left (by omega)]
 have := filledP_more (c := c) (n := n) (k := 0) (q := 1) (by omega)
 rw [Nat.zero_add] at this
 rw [← this]; rfl
theorem rep_min {k q : Nat} : PV.val (.int .i64 (if (q : Int) < (k : Int) then (q : Int) else (k : Int))) = .val (.int .i64 ((min k q : Nat) : Int)) :=
 congrArg (fun z => PV.val (Value.int .i64 z)) (by split <;> omega)
@[simp] theorem flat_filledP (c : UInt8) (n k : Nat) : FlatL (filledP c n k) := by
 unfold filledP
 refine flatL_app (flatL_map' flat_cByte _) ?_
 induction (n - k) with
 | zero => trivial
 | succ m ih => rw [List.replicate_succ]; exact ⟨trivial, ih⟩
theorem arr_from {n k : Nat} (h : k < n) : PV.arr 0 (if n = (k : Int).toNat then 0 else 0 + (k : Int).toNat * 1) (n - (k : Int).toNat) (n - (k : Int).toNat) = .arr 0 k (n - k) (n - k) := by
 rw [Int.toNat_natCast, if_neg (by omega)]; congr 1; omega
theorem arr_upto {n q : Nat} : PV.arr 0 (if n = 0 then 0 else 0 + 0 * 1) ((q : Int).toNat - 0) (n - 0) = .arr 0 0 q n := by
 simp
theorem filledP_ok {c : UInt8} {n k q : Nat} (h : q ≤ k) : ∀ z ∈ ((filledP c n k).drop 0).take q, okC z = true := by
 rw [filledP_take h, rep_cB]
 intro z hz
 rw [List.eq_of_mem_replicate hz]; rfl
theorem rep_step {c : UInt8} {n k q : Nat} {e : TypeId} (h : q ≤ k) (h2 : k + q ≤ n) : [Ob.cells (filledP c n (k + q)) e] = [Ob.cells (splice (filledP c n k) k (((filledP c n k).drop 0).take (q * 1))) e] := by
 rw [Nat.mul_one, filledP_take h, filledP_more h2]
theorem i64_add {a b : Nat} (h : a + b ≤ 1000000) : PV.val (.int .i64 (IntKind.i64.wrap ((a : Int) + (b : Int)))) = .val (.int .i64 ((a + b : Nat) : Int)) :=
 congrArg (fun z => PV.val (Value.int .i64 z)) (by rw [i64w]; unfold wrap64; omega)
theorem rep_end {c : UInt8} {n k : Nat} (h : n ≤ k) (h2 : k ≤ n) : PV.seq n ((filledP c n k).take n) .any = sq cByte (List.replicate n c) := by
 have : k = n := by omega
 subst this
 have := filledP_take (c := c) (n := k) (k := k) (q := k) (Nat.le_refl _)
 rw [List.drop_zero] at this
 rw [this]
 unfold sq
 rw [List.length_replicate]
theorem bytes_Repeat1 (c : UInt8) (n : Nat) (h : n ≤ 1000000) : PureC Tryz.prog 316 [sq cByte [c], i64 n] (sq cByte (List.replicate n c)) := by
 refine pW tG (rs := [.tmp 4]) Tryz.func316 rfl rfl rfl (by simp) (by simp) (fun B => ?_)
 refine zu1 ?_
 refine Ws ?_
 refine zu2 ?_
 refine Wi rfl (fun hi1 => ?_) (fun hi1 => ?_)
 ·have hz : n = 0 := by simpa using hi1
  subst hz
  refine zu2 ?_
  refine zR ?_
  rfl
 ·have hn : n ≠ 0 := by simpa using hi1
  have hcp := chunk_pos hn
  refine Wj ?_
  refine Ws ?_
  refine zu2 ?_
  refine Wf rfl (by (simp only [dnL] at *; omega)) ?_
  refine Wj ?_
  refine zp3 ?_
  refine Wa 21 rfl ((rfl : PV.val (.int .u64 (IntKind.u64.wrap ((1 : Nat) : Int))) = .val (.int .u64 1))) ?_
  refine zy2 ?_
  refine Wa 23 rfl (u64_nat h) ?_
  refine Wc rfl rfl (dC rfl Tryz.func322 rfl rfl ((bits_Mul1 n h) _)) ?_
  refine zs5 ?_
  refine Ws ?_
  refine zp3 ?_
  refine WO_false 29 rfl (by rfl) ?_
  refine zs3 ?_
  refine Wf rfl (by (simp only [dnL] at *; omega)) ?_
  refine Wj ?_
  refine zp2 ?_
  refine Wa 35 rfl (i64_nat h) ?_
  refine zs1 ?_
  refine Ws ?_
  refine zu3 ?_
  refine Wf rfl (by rfl) ?_
  refine Wj ?_
  refine zu2 ?_
  refine Ws ?_
  refine zu2 ?_
  refine Wi rfl (fun hi5 => ?_) (fun hi5 => ?_)
  ·have hq : 8192 = chunkOf n := by unfold chunkOf; rw [if_pos (by have := oT hi5; omega)]
   refine zp3 ?_
   refine Wa 45 rfl (congrArg (fun z => PV.val (Value.int .i64 z)) (show IntKind.i64.wrap (Int.tdiv 8192 ((1 : Nat) : Int)) = 8192 by decide)) ?_
   refine zy3 ?_
   refine Wa 48 rfl (congrArg (fun z => PV.val (Value.int .i64 z)) (show IntKind.i64.wrap (8192 * ((1 : Nat) : Int)) = (chunkOf n : Int) by rw [← hq]; decide)) ?_
   refine zs1 ?_
   refine zu2 ?_
   refine Wf rfl (by (simp; omega)) ?_
   refine Wj ?_
   refine zp1 ?_
   have hmk : n ≤ 281474976710656 := by omega
   refine Wd (x := .arw 0 0 n) (H' := [.cells (List.replicate n .any) 5]) rfl rfl (does_mk (H := []) (m := n) rfl rfl hmk) ?_
   refine zy2 ?_
   refine Wd rfl rfl (does_slice_arw_clip (lO tG rfl) rfl (lO tG rfl) rfl rfl ⟨_, _, rfl, by omega, by simp⟩ ⟨_, _, rfl, by omega, by simp⟩) ?_
   refine WO_ob (H' := [.cells (filledP c n 0) 5]) (by rw [← filledP_zero]) ?_
   refine zs1 ?_
   refine zp2 ?_
   refine Wd rfl rfl (does_copy (lO tG rfl) rfl (lO tG rfl) rfl rfl rfl rfl (flatMap_len _ 1 (fun _ => rfl) _) (okC_flat _ (fun _ => rfl) _) (by rw [filledP_len (by omega)]; (try dsimp only); (try omega))) ?_
   refine Wa 60 rfl (rep_one hn) ?_
   refine WO_ob (H' := [.cells (filledP c n 1) 5]) (rep_first hn) ?_
   refine zs1 ?_
   refine Ws ?_
   refine Wl ?_
   show W _ _ _ _ _ _ _
   refine W_loopS (fun (k : Nat) => [(7, i64 n), (8, i64 (chunkOf n)), (9, .arr 0 0 n n), (10, i64 k)]) (fun (k : Nat) => [.cells (filledP c n k) 5]) (fun (k : Nat) => []) (fun (k : Nat) => 1 ≤ k ∧ k ≤ n) (fun (k : Nat) => n - k) (1) (by omega) [] ?_ ?_
   ·exact (fitT (sub := by repeat (first | exact subL_nil | refine subL_cons (by exact imp_of rfl) ?_)))
   ·intro k hk
    refine Ws ?_
    refine zu3 ?_
    refine Wi rfl (fun hi7 => ?_) (fun hi7 => ?_)
    ·have hlt : k < n := by have := oT hi7; omega
     have hm1 : min k (chunkOf n) ≤ n := by omega
     refine Wj ?_
     refine Wl ?_
     refine zp3 ?_
     refine Wa 66 rfl (rep_min) ?_
     refine zs1 ?_
     refine W_drawU [0, 0, 0, 0, 0, 0, 0, 3, 0, 0] [0, 1, 2, 3, 4, 5, 6, 7, 8, 9] mG rfl (by kernel_rfl) ?_
     iterate 3 refine z3 ?_
     refine z4 ?_ (q := (by (simp; omega)))
     refine Xa 70 rfl (arr_from hlt) ?_
     iterate 2 refine z3 ?_
     refine z4 ?_ (q := (by (simp; omega)))
     refine Xa 73 rfl (arr_upto) ?_
     refine WU_does3 rfl rfl rfl rfl (does_copy_self (lO tG rfl) rfl (lO tG rfl) rfl rfl rfl rfl (filledP_ok (by dsimp only; omega)) (by rw [filledP_len hk.2]; dsimp only; omega) (by rw [filledP_len hk.2]; dsimp only; omega)) ?_
     refine WU_ob (H' := [.cells (filledP c n (k + min (min k (chunkOf n)) (n - k))) 5]) (rep_step (by omega) (by omega)) ?_
     refine z3 ?_
     refine Xa 75 rfl (i64_add (by omega)) ?_
     refine z3 ?_
     refine WU_nil ?_
     exact ⟨k + min (min k (chunkOf n)) (n - k), [], (by omega), (by omega), fitT⟩
    ·have hge : n ≤ k := by have := oF hi7; omega
     refine W_exit ?_
     refine zp1 ?_
     refine Wm 76 rfl (imp_arr_arw (Nat.le_refl _)) ?_
     refine WO_freeze 76 0 _ n rfl rfl (by rw [filledP_len hk.2]; exact Nat.le_refl _) ?_
     refine Wa 76 rfl (rep_end hge hk.2) ?_
     refine zs1 ?_
     refine zR ?_
     rfl
  ·have hq : chunkOf n = n := by unfold chunkOf; rw [if_neg (by have := oF hi5; omega)]
   refine Wj ?_
   refine zp1 ?_
   have hmk : n ≤ 281474976710656 := by omega
   refine Wd (x := .arw 0 0 n) (H' := [.cells (List.replicate n .any) 5]) rfl rfl (does_mk (H := []) (m := n) rfl rfl hmk) ?_
   refine zy2 ?_
   refine Wd rfl rfl (does_slice_arw_clip (lO tG rfl) rfl (lO tG rfl) rfl rfl ⟨_, _, rfl, by omega, by simp⟩ ⟨_, _, rfl, by omega, by simp⟩) ?_
   refine WO_ob (H' := [.cells (filledP c n 0) 5]) (by rw [← filledP_zero]) ?_
   refine zs1 ?_
   refine zp2 ?_
   refine Wd rfl rfl (does_copy (lO tG rfl) rfl (lO tG rfl) rfl rfl rfl rfl (flatMap_len _ 1 (fun _ => rfl) _) (okC_flat _ (fun _ => rfl) _) (by rw [filledP_len (by omega)]; (try dsimp only); (try omega))) ?_
   refine Wa 60 rfl (rep_one hn) ?_
   refine WO_ob (H' := [.cells (filledP c n 1) 5]) (rep_first hn) ?_
   refine zs1 ?_
   refine Ws ?_
   refine Wl ?_
   show W _ _ _ _ _ _ _
   refine W_loopS (fun (k : Nat) => [(7, i64 n), (8, i64 (chunkOf n)), (9, .arr 0 0 n n), (10, i64 k)]) (fun (k : Nat) => [.cells (filledP c n k) 5]) (fun (k : Nat) => []) (fun (k : Nat) => 1 ≤ k ∧ k ≤ n) (fun (k : Nat) => n - k) (1) (by omega) [] ?_ ?_
   ·exact (fitT (sub := by repeat (first | exact subL_nil | refine subL_cons (by first | exact imp_of rfl | exact imp_of (congrArg i64 (by rw [hq]))) ?_)))
   ·intro k hk
    refine Ws ?_
    refine zu3 ?_
    refine Wi rfl (fun hi7 => ?_) (fun hi7 => ?_)
    ·have hlt : k < n := by have := oT hi7; omega
     have hm1 : min k (chunkOf n) ≤ n := by omega
     refine Wj ?_
     refine Wl ?_
     refine zp3 ?_
     refine Wa 66 rfl (rep_min) ?_
     refine zs1 ?_
     refine W_drawU [0, 0, 0, 0, 0, 0, 0, 3, 0, 0] [0, 1, 2, 3, 4, 5, 6, 7, 8, 9] mG rfl (by kernel_rfl) ?_
     iterate 3 refine z3 ?_
     refine z4 ?_ (q := (by (simp; omega)))
     refine Xa 70 rfl (arr_from hlt) ?_
     iterate 2 refine z3 ?_
     refine z4 ?_ (q := (by (simp; omega)))
     refine Xa 73 rfl (arr_upto) ?_
     refine WU_does3 rfl rfl rfl rfl (does_copy_self (lO tG rfl) rfl (lO tG rfl) rfl rfl rfl rfl (filledP_ok (by dsimp only; omega)) (by rw [filledP_len hk.2]; dsimp only; omega) (by rw [filledP_len hk.2]; dsimp only; omega)) ?_
     refine WU_ob (H' := [.cells (filledP c n (k + min (min k (chunkOf n)) (n - k))) 5]) (rep_step (by omega) (by omega)) ?_
     refine z3 ?_
     refine Xa 75 rfl (i64_add (by omega)) ?_
     refine z3 ?_
     refine WU_nil ?_
     exact ⟨k + min (min k (chunkOf n)) (n - k), [], (by omega), (by omega), fitT⟩
    ·have hge : n ≤ k := by have := oF hi7; omega
     refine W_exit ?_
     refine zp1 ?_
     refine Wm 76 rfl (imp_arr_arw (Nat.le_refl _)) ?_
     refine WO_freeze 76 0 _ n rfl rfl (by rw [filledP_len hk.2]; exact Nat.le_refl _) ?_
     refine Wa 76 rfl (rep_end hge hk.2) ?_
     refine zs1 ?_
     refine zR ?_
     rfl
end Go.Proofs.YtobhnjnffnbbkaaGreatDoor
namespace Go.Proofs.YtobhnjnffnbbkaaGreatDoor
open Go.RowKit
set_option maxRecDepth 100000
theorem mem_Fill (m : VMem) (at_ n c : Int) (hm : MemOk m) (ha : Fit64 at_) (hn : Fit64 n) : PureC Tryz.prog 221 [eMem m, i64 at_, i64 n, i64 c] (tMem (memFill m at_ n c)) := by
 have hm1 := hm.b
 have hm2 := hm.old
 refine pW tG (rs := [.cell 8 27, .tmp 9]) Tryz.func221 rfl rfl rfl (by simp) (by simp) (fun B => ?_)
 refine zu3 ?_
 refine Ws ?_
 refine zp3 ?_
 refine Wc rfl rfl (dC rfl Tryz.func141 rfl rfl ((mem_there m at_ n (by omega) ha hn) _)) ?_
 refine zs1 ?_
 refine Wi rfl (fun hi1 => ?_) (fun hi1 => ?_)
 ·have ht : ¬ memThere m at_ n = true := by simpa using hi1
  refine zu3 ?_
  refine zR ?_
  rw [memFill, if_neg ht]; rfl
 ·have ht : memThere m at_ n = true := by simpa using hi1
  have hN : 0 ≤ n ∧ n ≤ 1000000 := by unfold memThere at ht; simp only [decide_eq_true_eq] at ht; omega
  refine Wj ?_
  refine Ws ?_
  refine W_drawU [1, 0, 0, 0, 0, 0, 0, 0, 0, 0, 3, 0] [0, 1, 2, 3, 4, 5, 6, 7, 8, 9, 10, 11] mG rfl (by kernel_rfl) ?_
  refine z5 ?_
  iterate 3 refine z3 ?_
  refine Xa 19 rfl (loB_pv c) ?_
  refine z3 ?_
  refine Xa 20 rfl (bsL cByte [_] rfl rfl) ?_
  refine z3 ?_
  refine Xa 21 rfl ((show PV.val (.int .i64 n) = i64 ((n.toNat : Nat) : Int) by rw [Int.toNat_of_nonneg hN.1]; rfl)) ?_
  refine Xc rfl rfl rfl rfl (fun _ => dC rfl Tryz.func316 rfl rfl ((bytes_Repeat1 (loB c) n.toNat (by omega)) _)) ?_
  refine Xc rfl rfl rfl rfl (fun _ => dC rfl Tryz.func266 rfl rfl ((mem_Write m at_ _ hm ha (by simp; omega)) _)) ?_
  iterate 2 refine z3 ?_
  refine WU_ev3 tG rfl rfl rfl rfl rfl trivial ?_
  refine z3 ?_
  refine WU_nil ?_
  refine zR ?_
  rw [memFill, if_pos ht]; rfl
end Go.Proofs.YtobhnjnffnbbkaaGreatDoor
namespace Go.Proofs.YtobhnjnffnbbkaaGreatDoor
open Go.RowKit
set_option maxRecDepth 100000
def spcAllot (m : VMem) (low here n : Int) : Int × Int := if n > m.b.length - here ∨ n < low - here then (here, -8) else (here + n, 0)
def spcLay (m : VMem) (here : Int) (b : List UInt8) : VMem × Int × Int := if (b.length : Int) > m.b.length - here then (m, here, -8) else ((memWrite m here b).1, here + b.length, 0)
def spcComma (m : VMem) (here n : Int) : VMem × Int × Int := if here.tmod 8 = 0 then spcLay m here (putC n) else (m, here, -23)
def spcAlign (m : VMem) (here : Int) : VMem × Int × Int := spcLay m here (List.replicate ((8 - here.tmod 8).tmod 8).toNat 0)
def tLay (r : VMem × Int × Int) : PV := tup3 (eMem r.1) (i64 r.2.1) (i64 r.2.2)
@[simp] theorem flat_tLay (r : VMem × Int × Int) : Flat (tLay r) := by simp [tLay]
structure HereOk (m : VMem) (here : Int) : Prop where
 h0 : 0 ≤ here
 h1 : here ≤ m.b.length
theorem HereOk.fit {m : VMem} {here : Int} (h : HereOk m here) (hm : MemOk m) : Fit64 here := by have := h.h0; have := h.h1; have := hm.b; unfold Fit64; omega
theorem room_left (m : VMem) (here : Int) (hm : MemOk m) (hh : HereOk m here) : PureC Tryz.prog 319 [.agg [sq cByte m.b, sq cPatch m.old, i64 here]] (i64 (m.b.length - here)) := by
 have h0 := hh.h0
 have h1 := hh.h1
 have h2 := hm.b
 refine pW tG (rs := [.tmp 2]) Tryz.func319 rfl rfl rfl (by simp) (by simp) (fun B => ?_)
 refine zu2 ?_
 refine zp5 ?_
 refine zs3 ?_
 refine zR ?_
 exact congrArg i64 (by ((rw [i64w]; unfold wrap64; (try simp only [dnL] at *); omega)))
theorem spc_Allot (m : VMem) (low here n : Int) (hm : MemOk m) (hh : HereOk m here) (hl : Fit64 low ∧ 0 ≤ low) (hn : Fit64 n) : PureC Tryz.prog 234 [eMem m, i64 low, i64 here, i64 n] (tFetch (spcAllot m low here n)) := by
 have h0 := hh.h0
 have h1 := hh.h1
 have h2 := hm.b
 unfold Fit64 at hl hn
 have w1 : IntKind.i64.wrap (low - here) = low - here := by ((rw [i64w]; unfold wrap64; (try simp only [dnL] at *); omega))
 refine pW tG (rs := [.tmp 8, .tmp 9]) Tryz.func234 rfl rfl rfl (by simp) (by simp) (fun B => ?_)
 refine zu3 ?_
 refine zu5 ?_
 refine Ws ?_
 refine zp2 ?_
 refine Wc rfl rfl (doesCWv rfl rfl Tryz.func319 rfl rfl (room_left m here hm hh _)) ?_
 refine zy2 ?_
 refine Wb 19 rfl (fun hg1 => ?_) (fun hg1 => ?_)
 ·refine z6 ?_
  iterate 4 refine z6 ?_
  refine zs1 ?_
  refine Wt rfl rfl ?_
  refine zu3 ?_
  refine zR ?_
  (rw [spcAllot, if_pos (by (try simp only [dnL] at *); omega)]; rfl)
 ·refine zy5 ?_
  refine zs1 ?_
  refine Wi rfl (fun hi1 => ?_) (fun hi1 => ?_)
  ·refine zu3 ?_
   refine zR ?_
   (rw [spcAllot, if_pos (by (try simp only [dnL] at *); omega)]; rfl)
  ·refine Wj ?_
   refine zu5 ?_
   refine zR ?_
   (rw [spcAllot, if_neg (by (try simp only [dnL] at *); omega)]; exact congrArg (fun z => tup2 (i64 z) (i64 0)) (by ((rw [i64w]; unfold wrap64; (try simp only [dnL] at *); omega))))
end Go.Proofs.YtobhnjnffnbbkaaGreatDoor
namespace Go.Proofs.YtobhnjnffnbbkaaGreatDoor
open Go.RowKit
set_option maxRecDepth 100000
theorem spc_Lay (m : VMem) (here : Int) (b : List UInt8) (hm : MemOk m) (hh : HereOk m here) (hb : b.length ≤ 1000000) : PureC Tryz.prog 239 [eMem m, i64 here, sq cByte b] (tLay (spcLay m here b)) := by
 have h0 := hh.h0
 have h1 := hh.h1
 have h2 := hm.b
 refine pW tG (rs := [.cell 6 27, .tmp 7, .tmp 8]) Tryz.func239 rfl rfl rfl (by simp) (by simp) (fun B => ?_)
 refine zu4 ?_
 refine zu5 ?_
 refine Ws ?_
 refine zp3 ?_
 refine Wc rfl rfl (doesCWv rfl rfl Tryz.func319 rfl rfl (room_left m here hm hh _)) ?_
 refine zs1 ?_
 refine Wi rfl (fun hi1 => ?_) (fun hi1 => ?_)
 ·refine zu5 ?_
  refine zR ?_
  rw [spcLay, if_pos (by (try simp only [dnL] at *); omega)]; rfl
 ·refine Wj ?_
  refine zp3 ?_
  refine Wc rfl rfl (dC rfl Tryz.func266 rfl rfl ((mem_Write m here b hm (hh.fit hm) hb) _)) ?_
  refine zs4 ?_
  refine zp5 ?_
  refine zs3 ?_
  refine zR ?_
  rw [spcLay, if_neg (by (try simp only [dnL] at *); omega)]; exact congrArg (fun z => tup3 (eMem (memWrite m here b).1) (i64 z) (i64 0)) (by ((rw [i64w]; unfold wrap64; (try simp only [dnL] at *); omega)))
theorem spc_Comma (m : VMem) (here n : Int) (hm : MemOk m) (hh : HereOk m here) : PureC Tryz.prog 237 [eMem m, i64 here, i64 n] (tLay (spcComma m here n)) := by
 have h0 := hh.h0
 have h1 := hh.h1
 have h2 := hm.b
 refine pW tG (rs := [.cell 6 27, .tmp 7, .tmp 8]) Tryz.func237 rfl rfl rfl (by simp) (by simp) (fun B => ?_)
 refine zu4 ?_
 refine Ws ?_
 refine zu3 ?_
 refine Wi rfl (fun hi1 => ?_) (fun hi1 => ?_)
 ·refine zu5 ?_
  refine zR ?_
  rw [spcComma, if_neg (by (try simp only [dnL] at *); omega)]; rfl
 ·refine Wj ?_
  refine Ws ?_
  refine W_drawU [1, 0, 0, 0, 0, 0, 0, 0, 3, 0, 0] [0, 1, 2, 3, 4, 5, 6, 7, 8, 9, 10] mG rfl (by kernel_rfl) ?_
  refine z5 ?_
  iterate 2 refine z3 ?_
  refine Xc rfl rfl rfl rfl (fun _ => dC rfl Tryz.func315 rfl rfl ((cell_put8 n) _)) ?_
  refine Xc rfl rfl rfl rfl (fun _ => dC rfl Tryz.func239 rfl rfl ((spc_Lay m here (putC n) hm hh (by rw [putC_len]; omega)) _)) ?_
  iterate 3 refine z3 ?_
  refine WU_ev3 tG rfl rfl rfl rfl rfl trivial ?_
  iterate 2 refine z3 ?_
  refine WU_nil ?_
  refine zR ?_
  rw [spcComma, if_pos (by (try simp only [dnL] at *); omega)]; rfl
theorem tmod8 {x : Int} (h : 0 ≤ x) : 0 ≤ (8 - x.tmod 8).tmod 8 ∧ (8 - x.tmod 8).tmod 8 < 8 := by
 rw [Int.tmod_eq_emod_of_nonneg h, Int.tmod_eq_emod_of_nonneg (by omega)]; omega
theorem rep_zero {c : UInt8} {n : Nat} {d : TD} (hz : d.zero = cByte 0) : zerosPV n d = (List.replicate n (0 : UInt8)).flatMap cByte := by
 unfold zerosPV; rw [hz, List.flatMap_replicate]
theorem seq_zero {n : Int} {d : TD} (hz : d.zero = cByte 0) : PV.seq n.toNat (zerosPV n.toNat d) .clip = sqc cByte (List.replicate n.toNat (0 : UInt8)) := by
 rw [rep_zero (c := 0) hz]; unfold sqc; rw [List.length_replicate]
theorem spc_AlignUp (m : VMem) (here : Int) (hm : MemOk m) (hh : HereOk m here) : PureC Tryz.prog 241 [eMem m, i64 here] (tLay (spcAlign m here)) := by
 have h0 := hh.h0
 have h1 := hh.h1
 have h2 := hm.b
 obtain ⟨u0, u1⟩ := tmod8 h0
 have w1 : IntKind.i64.wrap (8 - here.tmod 8) = 8 - here.tmod 8 := by
  rw [i64w]; unfold wrap64; rw [Int.tmod_eq_emod_of_nonneg h0]; omega
 refine pW tG (rs := [.cell 4 27, .tmp 5, .tmp 6]) Tryz.func241 rfl rfl rfl (by simp) (by simp) (fun B => ?_)
 refine zu4 ?_
 refine Ws ?_
 refine W_drawU [1, 0, 0, 0, 0, 0, 0, 0, 0, 0, 0, 3, 0, 0] [0, 1, 2, 3, 4, 5, 6, 7, 8, 9, 10, 11, 12, 13] mG rfl (by kernel_rfl) ?_
 refine z5 ?_
 iterate 5 refine z3 ?_
 refine Xa 12 rfl ((show PV.val (.int .i64 _) = .val (.int .i64 ((8 - here.tmod 8).tmod 8)) by rw [w1])) ?_
 refine WU_does0 rfl rfl rfl rfl (fun _ => does_makeSeq (lO tG rfl) rfl (lO tG rfl) rfl rfl rfl u0 (by dsimp only; omega) (by omega)) ?_
 refine Xa 13 rfl (seq_zero rfl) ?_
 refine Xc rfl rfl rfl rfl (fun _ => dC rfl Tryz.func239 rfl rfl ((spc_Lay m here (List.replicate ((8 - here.tmod 8).tmod 8).toNat 0) hm hh (by simp; omega)) _)) ?_
 iterate 3 refine z3 ?_
 refine WU_ev3 tG rfl rfl rfl rfl rfl trivial ?_
 iterate 2 refine z3 ?_
 refine WU_nil ?_
 refine zR ?_
 rfl
end Go.Proofs.YtobhnjnffnbbkaaGreatDoor
namespace Go.Proofs.YtobhnjnffnbbkaaGreatDoor
open Go.RowKit
set_option maxRecDepth 100000
set_option maxHeartbeats 4000000
def stkLaid (s : List Int) (takes : Nat) (leaves : List Int) (limit : Int) : List Int × Bool × Int :=
 if ((s.length - takes + leaves.length : Nat) : Int) > limit then (s, true, -3) else (s.take (s.length - takes) ++ leaves, true, 0)
def tStk (r : List Int × Bool × Int) : PV := tup3 (sq cInt r.1) (boo r.2.1) (i64 r.2.2)
@[simp] theorem flat_tStk (r : List Int × Bool × Int) : Flat (tStk r) := by simp [tStk]
theorem stk_laid (s : List Int) (takes : Nat) (leaves : List Int) (limit : Int) (hs : s.length ≤ 100000) (ht : takes ≤ s.length) (hl : leaves.length ≤ 100000) (hm : -9223372036854775808 ≤ limit ∧ limit ≤ 9223372036854775807) :
  PureC Tryz.prog 144 [sq cInt s, i64 takes, sq cInt leaves, i64 limit] (tStk (stkLaid s takes leaves limit)) := by
 have w1 : IntKind.i64.wrap ((s.length : Int) - (takes : Int)) = ((s.length - takes : Nat) : Int) := by ((rw [i64w]; unfold wrap64; (try simp only [dnL] at *); omega))
 have w2 : IntKind.i64.wrap (((s.take (s.length - takes)).length : Int) + (leaves.length : Int)) = ((s.length - takes + leaves.length : Nat) : Int) := by
  rw [List.length_take, Nat.min_eq_left (by omega)]; ((rw [i64w]; unfold wrap64; (try simp only [dnL] at *); omega))
 refine pW tG (rs := [.tmp 8, .tmp 9, .tmp 10]) Tryz.func144 rfl rfl rfl (by simp) (by simp) (fun B => ?_)
 refine zu3 ?_
 refine zp5 ?_
 refine Wa 16 rfl (congrArg (fun z => PV.val (Value.int .i64 z)) w1) ?_
 refine z2 ?_ (q := (by (simp_all; done)))
 refine Wa 17 rfl (sq_slice cInt 1 (fun _ => rfl) (by omega)) ?_
 refine Wa 17 rfl ((show _ = sq cInt (s.take (s.length - takes)) by rw [Int.toNat_natCast, List.drop_zero]; rfl)) ?_
 refine zs1 ?_
 refine Ws ?_
 refine zp5 ?_
 refine Wa 22 rfl (congrArg (fun z => PV.val (Value.int .i64 z)) w2) ?_
 refine zs2 ?_
 refine Wi rfl (fun hi1 => ?_) (fun hi1 => ?_)
 ·refine zu4 ?_
  refine zR ?_
  rw [stkLaid, if_pos (by (try simp only [dnL] at *); omega)]; rfl
 ·refine Wj ?_
  refine zp3 ?_
  refine Wa 28 rfl (bsL cRow [_, _] rfl rfl) ?_
  refine Wc rfl rfl (dC rfl Tryz.func113 rfl rfl ((concat2 _ _ (by simp; omega) (by omega)) _)) ?_
  refine zs3 ?_
  refine zR ?_
  rw [stkLaid, if_neg (by (try simp only [dnL] at *); omega)]; rfl
def stkPop (s : List Int) : Int × List Int × Int := if s.length = 0 then (0, s, -4) else (s.getD (s.length - 1) 0, s.take (s.length - 1), 0)
def tPop (r : Int × List Int × Int) : PV := tup3 (i64 r.1) (sq cInt r.2.1) (i64 r.2.2)
@[simp] theorem flat_tPop (r : Int × List Int × Int) : Flat (tPop r) := by simp [tPop]
theorem stk_Pop (s : List Int) (hs : s.length ≤ 100000) : PureC Tryz.prog 185 [sq cInt s] (tPop (stkPop s)) := by
 refine pW tG (rs := [.tmp 2, .tmp 3, .tmp 4]) Tryz.func185 rfl rfl rfl (by simp) (by simp) (fun B => ?_)
 refine zu3 ?_
 refine Ws ?_
 refine zu3 ?_
 refine Wi rfl (fun hi1 => ?_) (fun hi1 => ?_)
 ·have h0 : s.length = 0 := by (try simp only [dnL] at *); omega
  refine zu4 ?_
  refine zR ?_
  rw [stkPop, if_pos h0]; rfl
 ·have h0 : s.length ≠ 0 := by (try simp only [dnL] at *); omega
  have w1 : IntKind.i64.wrap ((s.length : Int) - 1) = ((s.length - 1 : Nat) : Int) := by ((rw [i64w]; unfold wrap64; (try simp only [dnL] at *); omega))
  refine Wj ?_
  refine Ws ?_
  refine W_drawU [0, 0, 0, 0, 0, 1, 0, 0, 0, 0, 0, 0, 0, 0] [0, 1, 2, 3, 4, 5, 6, 7, 8, 9, 10, 11, 12, 13] mG rfl (by kernel_rfl) ?_
  iterate 4 refine z3 ?_
  refine Xa 12 rfl (congrArg (fun z => PV.val (Value.int .i64 z)) w1) ?_
  refine Xi tG rfl rfl rfl rfl (fun _ => rfl) (by omega) (iN cInt 1 (fun _ => rfl) 0 (by omega)) ?_
  refine z5 ?_
  iterate 4 refine z3 ?_
  refine Xa 18 rfl (congrArg (fun z => PV.val (Value.int .i64 z)) w1) ?_
  refine z4 ?_ (q := (by (simp_all; done)))
  refine Xa 19 rfl (sq_slice cInt 1 (fun _ => rfl) (by omega)) ?_
  refine Xa 19 rfl ((show _ = sq cInt (s.take (s.length - 1)) by rw [Int.toNat_natCast, List.drop_zero]; rfl)) ?_
  iterate 3 refine z3 ?_
  refine WU_nil ?_
  refine zR ?_
  rw [stkPop, if_neg h0]; rfl
end Go.Proofs.YtobhnjnffnbbkaaGreatDoor
namespace Go.Proofs.YtobhnjnffnbbkaaGreatDoor
open Go.RowKit
set_option maxRecDepth 100000
set_option maxHeartbeats 4000000
abbrev W64 (n : Int) : Int := IntKind.i64.wrap n
def xat (x : List Int) (i : Nat) : Int := x.getD i 0
def pDivMod (x : List Int) : List Int × Int := ([(divS (xat x 0) (xat x 1)).2.1, (divS (xat x 0) (xat x 1)).1], (divS (xat x 0) (xat x 1)).2.2)
def pBoth (x : List Int) : Int × Int × Int := fdivS (mulS (xat x 0) (xat x 1)).1 (mulS (xat x 0) (xat x 1)).2 (xat x 2)
def pStarMod (x : List Int) : List Int × Int := ([(pBoth x).2.1, (pBoth x).1], (pBoth x).2.2)
def pStar (x : List Int) : List Int × Int := ([(pBoth x).1], (pBoth x).2.2)
def pUM (x : List Int) : List Int × Int := ([(umulS (xat x 0) (xat x 1)).1, (umulS (xat x 0) (xat x 1)).2], 0)
def pM (x : List Int) : List Int × Int := ([(mulS (xat x 0) (xat x 1)).1, (mulS (xat x 0) (xat x 1)).2], 0)
def pUMod (x : List Int) : List Int × Int := ([(udivS (xat x 0) (xat x 1) (xat x 2)).2.1, (udivS (xat x 0) (xat x 1) (xat x 2)).1], (udivS (xat x 0) (xat x 1) (xat x 2)).2.2)
def pSRem (x : List Int) : List Int × Int := ([(sdivS (xat x 0) (xat x 1) (xat x 2)).2.1, (sdivS (xat x 0) (xat x 1) (xat x 2)).1], (sdivS (xat x 0) (xat x 1) (xat x 2)).2.2)
def pFMod (x : List Int) : List Int × Int := ([(fdivS (xat x 0) (xat x 1) (xat x 2)).2.1, (fdivS (xat x 0) (xat x 1) (xat x 2)).1], (fdivS (xat x 0) (xat x 1) (xat x 2)).2.2)
def pSD (x : List Int) : List Int × Int := ([xat x 0, flagS (decide (xat x 0 < 0))], 0)
def pWithin (x : List Int) : List Int × Int := ([flagS (decide (U (wrap64 (xat x 0 - xat x 1)) < U (wrap64 (xat x 2 - xat x 1))))], 0)
def reckonS (name : Str) (x : List Int) : Option (List Int × Int) :=
 if name = [47, 77, 79, 68] then some (pDivMod x) else
 if name = [42, 47] then some (pStar x) else
 if name = [42, 47, 77, 79, 68] then some (pStarMod x) else
 if name = [85, 77, 42] then some (pUM x) else
 if name = [77, 42] then some (pM x) else
 if name = [85, 77, 47, 77, 79, 68] then some (pUMod x) else
 if name = [83, 77, 47, 82, 69, 77] then some (pSRem x) else
 if name = [70, 77, 47, 77, 79, 68] then some (pFMod x) else
 if name = [83, 62, 68] then some (pSD x) else
 if name = [87, 73, 84, 72, 73, 78] then some (pWithin x) else
 if name = [84, 82, 85, 69] then some ([-1], 0) else
 if name = [66, 65, 83, 69] then some ([0], 0) else
 if name = [70, 65, 76, 83, 69] then some ([0], 0) else
 if name = [83, 84, 65, 84, 69] then some ([8], 0) else
 if name = [66, 76] then some ([32], 0) else none
def withM (v : VVm) (m : VMem) : VVm := { v with mem := m }
def pFetch (v : VVm) (x : List Int) : VVm × List Int × Int := (v, [(memFetch v.mem (xat x 0)).1], (memFetch v.mem (xat x 0)).2)
def pFetchB (v : VVm) (x : List Int) : VVm × List Int × Int := (v, [(memFetchByte v.mem (xat x 0)).1], (memFetchByte v.mem (xat x 0)).2)
def pPut (v : VVm) (r : VMem × Int) : VVm × List Int × Int := (withM v r.1, [], r.2)
def pAddTo (v : VVm) (x : List Int) : VMem × Int := if (memFetch v.mem (xat x 1)).2 = 0 then memStore v.mem (xat x 1) (W64 ((memFetch v.mem (xat x 1)).1 + xat x 0)) else (v.mem, (memFetch v.mem (xat x 1)).2)
def pFetch2 (v : VVm) (x : List Int) : VVm × List Int × Int :=
 if (memFetch v.mem (xat x 0)).2 = 0 then (v, [(memFetch v.mem (W64 (xat x 0 + 8))).1, (memFetch v.mem (xat x 0)).1], (memFetch v.mem (W64 (xat x 0 + 8))).2) else (v, [], (memFetch v.mem (xat x 0)).2)
def pStore2 (v : VVm) (x : List Int) : VMem × Int := if (memStore v.mem (xat x 2) (xat x 1)).2 = 0 then memStore (memStore v.mem (xat x 2) (xat x 1)).1 (W64 (xat x 2 + 8)) (xat x 0) else memStore v.mem (xat x 2) (xat x 1)
def pCount (v : VVm) (x : List Int) : VVm × List Int × Int := (v, [W64 (xat x 0 + 1), (memFetchByte v.mem (xat x 0)).1], (memFetchByte v.mem (xat x 0)).2)
def stated (v : VVm) (s b : Int) : Int := if (memFetch v.mem (W64 (b + 8))).2 = 0 then (if s < 0 ∨ (memFetch v.mem (W64 (b + 8))).1 ≤ s then -24 else 0) else (memFetch v.mem (W64 (b + 8))).2
def pSetState (v : VVm) (x : List Int) : VVm × List Int × Int := if stated v (xat x 0) (xat x 1) = 0 then pPut v (memStore v.mem (xat x 1) (xat x 0)) else (v, [], stated v (xat x 0) (xat x 1))
def pAtState (v : VVm) (x : List Int) : VVm × List Int × Int := if stated v (xat x 1) (xat x 2) = 0 then pPut v (memStore v.mem (W64 (W64 (xat x 2 + 16) + W64 (8 * xat x 1))) (xat x 0)) else (v, [], stated v (xat x 1) (xat x 2))
def memoryS (v : VVm) (name : Str) (x : List Int) : Option (VVm × List Int × Int) :=
 if name = [64] ∨ name = [71, 69, 84, 45, 83, 84, 65, 84, 69] then some (pFetch v x) else
 if name = [67, 64] then some (pFetchB v x) else
 if name = [33] then some (pPut v (memStore v.mem (xat x 1) (xat x 0))) else
 if name = [67, 33] then some (pPut v (memStoreByte v.mem (xat x 1) (xat x 0))) else
 if name = [43, 33] then some (pPut v (pAddTo v x)) else
 if name = [50, 64] then some (pFetch2 v x) else
 if name = [50, 33] then some (pPut v (pStore2 v x)) else
 if name = [70, 73, 76, 76] then some (pPut v (memFill v.mem (xat x 0) (xat x 1) (xat x 2))) else
 if name = [77, 79, 86, 69] then some (pPut v (memMove v.mem (xat x 0) (xat x 1) (xat x 2))) else
 if name = [67, 79, 85, 78, 84] then some (pCount v x) else
 if name = [68, 69, 67, 73, 77, 65, 76] then some (pPut v (memStore v.mem 0 10)) else
 if name = [72, 69, 88] then some (pPut v (memStore v.mem 0 16)) else
 if name = [83, 69, 84, 45, 83, 84, 65, 84, 69] then some (pSetState v x) else
 if name = [65, 84, 45, 83, 84, 65, 84, 69] then some (pAtState v x) else none
def pLay (v : VVm) (r : VMem × Int × Int) : VVm × List Int × Int := ({ v with mem := r.1, here := r.2.1 }, [], r.2.2)
def pAllot (v : VVm) (x : List Int) : VMem × Int × Int := (v.mem, (spcAllot v.mem 1368 v.here (xat x 0)).1, (spcAllot v.mem 1368 v.here (xat x 0)).2)
def spaceS (v : VVm) (name : Str) (x : List Int) : Option (VVm × List Int × Int) :=
 if name = [65, 76, 76, 79, 84] then some (pLay v (pAllot v x)) else
 if name = [44] then some (pLay v (spcComma v.mem v.here (xat x 0))) else
 if name = [67, 44] then some (pLay v (spcLay v.mem v.here [loB (xat x 0)])) else
 if name = [65, 76, 73, 71, 78] then some (pLay v (spcAlign v.mem v.here)) else none
def baseS (v : VVm) : Int := (memFetch v.mem 0).1
def pSpaces (v : VVm) (x : List Int) : Str := List.replicate (min (max (xat x 0) 0) (v.conf.out + 1)).toNat 32
def pDot (r : Str × Int) : Str × Int := (r.1 ++ [32], r.2)
def textS (v : VVm) (name : Str) (x : List Int) : Option (Str × Int) :=
 if name = [69, 77, 73, 84] then some ([loB (xat x 0)], 0) else
 if name = [67, 82] then some ([10], 0) else
 if name = [83, 80, 65, 67, 69] then some ([32], 0) else
 if name = [83, 80, 65, 67, 69, 83] then some (pSpaces v x, 0) else
 if name = [84, 89, 80, 69] then some (memText v.mem (xat x 0) (xat x 1)) else
 if name = [46] then some (pDot (showS (xat x 0) (baseS v))) else
 if name = [85, 46] then some (pDot (ushowS (xat x 0) (baseS v))) else none
def pPrint (v : VVm) (r : Str × Int) : VVm × List Int × Int := if r.2 = 0 then ((vmPrint v r.1).1, [], (vmPrint v r.1).2) else (v, [], r.2)
def withP (v : VVm) (p : VPic) : VVm := { v with pic := p }
def picAllN : Nat → VPic → Int → Int → Int → VPic × Int
 | 0, q, lo, hi, base => (q, (picDigit q lo hi base).2.2.2)
 | n + 1, q, lo, hi, base => if (picDigit q lo hi base).2.2.2 ≠ 0 then (q, (picDigit q lo hi base).2.2.2) else if (picDigit q lo hi base).2.1 = 0 ∧ (picDigit q lo hi base).2.2.1 = 0 then ((picDigit q lo hi base).1, 0) else picAllN n (picDigit q lo hi base).1 (picDigit q lo hi base).2.1 (picDigit q lo hi base).2.2.1 base
def picAllF (q : VPic) (lo hi base : Int) : VPic × Int := picAllN (131 - q.b.length) q lo hi base
def finP (p : VPic) (r : VPic × Int) : VPic × Int := if r.2 = 0 then (r.1, 0) else (p, r.2)
def picAll (p : VPic) (lo hi base : Int) : VPic × Int := finP p (picAllF p lo hi base)
def pDig (v : VVm) (x : List Int) : VVm × List Int × Int := (withP v (picDigit v.pic (xat x 0) (xat x 1) (baseS v)).1, [(picDigit v.pic (xat x 0) (xat x 1) (baseS v)).2.1, (picDigit v.pic (xat x 0) (xat x 1) (baseS v)).2.2.1], (picDigit v.pic (xat x 0) (xat x 1) (baseS v)).2.2.2)
def pAll (v : VVm) (x : List Int) : VVm × List Int × Int := (withP v (picAll v.pic (xat x 0) (xat x 1) (baseS v)).1, [0, 0], (picAll v.pic (xat x 0) (xat x 1) (baseS v)).2)
def pPic (v : VVm) (r : VPic × Int) : VVm × List Int × Int := (withP v r.1, [], r.2)
def pEnd (v : VVm) : VVm × List Int × Int :=
 if (picEnd v.pic).2 = 0 then (withP (withM v (memWrite v.mem (W64 (v.conf.mem - 136)) (picEnd v.pic).1).1) ⟨[], false⟩, [W64 (v.conf.mem - 136), ((picEnd v.pic).1.length : Int)], (memWrite v.mem (W64 (v.conf.mem - 136)) (picEnd v.pic).1).2) else (v, [], (picEnd v.pic).2)
def picsS (v : VVm) (name : Str) (x : List Int) : Option (VVm × List Int × Int) :=
 if name = [60, 35] then some (withP v ⟨[], true⟩, [], 0) else
 if name = [35] then some (pDig v x) else
 if name = [35, 83] then some (pAll v x) else
 if name = [72, 79, 76, 68] then some (pPic v (picHold v.pic (xat x 0))) else
 if name = [83, 73, 71, 78] then some (pPic v (picSign v.pic (xat x 0))) else
 if name = [35, 62] then some (pEnd v) else none
def withR (v : VVm) (q : VReq) : VVm := { v with req := v.req ++ [q] }
def pBounds (v : VVm) (x : List Int) : Prop := xat x 1 < 0 ∨ (v.hand.length : Int) ≤ xat x 1 ∨ xat x 2 < 0 ∨ 3 < xat x 2
instance (v : VVm) (x : List Int) : Decidable (pBounds v x) := by unfold pBounds; infer_instance
def pCancel (v : VVm) (x : List Int) : VVm × List Int × Int := if 16 ≤ (v.req.length : Int) then (v, [], -257) else (withR v ⟨4, 0, 0, 0, 0, xat x 0⟩, [], 0)
def pPost (v : VVm) (x : List Int) : VVm × List Int × Int := if pBounds v x then (v, [], -259) else if 16 ≤ (v.req.length : Int) then (v, [], -257) else (withR v ⟨1, xat x 0, xat x 1, xat x 2, 0, 0⟩, [], 0)
def pTimer (kind : Int) (v : VVm) (x : List Int) : VVm × List Int × Int :=
 if pBounds v x then (v, [], -259) else if xat x 3 < 1 ∨ 4294967295 < xat x 3 then (v, [], -24) else if 16 ≤ (v.req.length : Int) then (v, [], -257) else if v.free = 0 ∨ v.next = 4611686018427387904 then (v, [], -258) else
  ({ withR v ⟨kind, xat x 0, xat x 1, xat x 2, xat x 3, v.next⟩ with free := W64 (v.free - 1), next := W64 (v.next + 1) }, [v.next], 0)
def askS2 (v : VVm) (name : Str) (x : List Int) : Option (VVm × List Int × Int) :=
 if name = [80, 79, 83, 84] then some (pPost v x) else
 if name = [67, 65, 78, 67, 69, 76] then some (pCancel v x) else
 if name = [65, 70, 84, 69, 82] then some (pTimer 2 v x) else
 if name = [69, 86, 69, 82, 89] then some (pTimer 3 v x) else none
def pBody (v : VVm) (x : List Int) : VVm × List Int × Int := if (vmKind v (xat x 0)).2 = 0 ∧ ((vmKind v (xat x 0)).1 < 257 ∨ 260 < (vmKind v (xat x 0)).1) then (v, [], -31) else (v, [W64 (xat x 0 + 16)], (vmKind v (xat x 0)).2)
def restS (v : VVm) (name : Str) (x : List Int) : VVm × List Int × Int :=
 if name = [72, 69, 82, 69] then (v, [v.here], 0) else
 if name = [65, 82, 71] then (v, [v.arg], 0) else
 if name = [83, 69, 76, 70] then (v, [v.self], 0) else
 if name = [78, 79, 87] then (v, [v.now], 0) else
 if name = [62, 66, 79, 68, 89] then pBody v x else (v, [], -1)
def doneS (v : VVm) (n : Int) (name : Str) (x : List Int) : VVm × List Int × Int :=
 if n ≤ 58 then (v, [(twoS name (xat x 0) (xat x 1)).1], (twoS name (xat x 0) (xat x 1)).2.2) else
 if n ≤ 72 then (v, [(oneS name (xat x 0)).1], 0) else
 match reckonS name x with
 | some r => (v, r.1, r.2)
 | none => match memoryS v name x with
  | some r => r
  | none => match spaceS v name x with
   | some r => r
   | none => match textS v name x with
    | some r => pPrint v r
    | none => match picsS v name x with
     | some r => r
     | none => match askS2 v name x with
      | some r => r
      | none => restS v name x
def takesS (n : Int) (name : Str) : Nat :=
 if n ≤ 58 then 2 else if n ≤ 72 then 1 else
 if name = [65, 70, 84, 69, 82] ∨ name = [69, 86, 69, 82, 89] then 4 else
 if name = [42, 47] ∨ name = [42, 47, 77, 79, 68] ∨ name = [85, 77, 47, 77, 79, 68] ∨ name = [83, 77, 47, 82, 69, 77] ∨ name = [70, 77, 47, 77, 79, 68] ∨ name = [87, 73, 84, 72, 73, 78] ∨ name = [50, 33] ∨ name = [70, 73, 76, 76] ∨ name = [77, 79, 86, 69] ∨ name = [80, 79, 83, 84] ∨ name = [65, 84, 45, 83, 84, 65, 84, 69] then 3 else
 if name = [47, 77, 79, 68] ∨ name = [85, 77, 42] ∨ name = [77, 42] ∨ name = [33] ∨ name = [67, 33] ∨ name = [43, 33] ∨ name = [84, 89, 80, 69] ∨ name = [35] ∨ name = [35, 83] ∨ name = [35, 62] ∨ name = [83, 69, 84, 45, 83, 84, 65, 84, 69] then 2 else
 if name = [83, 62, 68] ∨ name = [64] ∨ name = [67, 64] ∨ name = [50, 64] ∨ name = [67, 79, 85, 78, 84] ∨ name = [65, 76, 76, 79, 84] ∨ name = [44] ∨ name = [67, 44] ∨ name = [69, 77, 73, 84] ∨ name = [83, 80, 65, 67, 69, 83] ∨ name = [46] ∨ name = [85, 46] ∨ name = [72, 79, 76, 68] ∨ name = [83, 73, 71, 78] ∨ name = [62, 66, 79, 68, 89] ∨ name = [67, 65, 78, 67, 69, 76] ∨ name = [71, 69, 84, 45, 83, 84, 65, 84, 69] then 1 else 0
def takesK (name : Str) (s : List Int) : Int :=
 if name = [68, 69, 80, 84, 72] then 0 else
 if name = [68, 85, 80] ∨ name = [68, 82, 79, 80] ∨ name = [63, 68, 85, 80] then 1 else
 if name = [83, 87, 65, 80] ∨ name = [79, 86, 69, 82] ∨ name = [78, 73, 80] ∨ name = [84, 85, 67, 75] ∨ name = [50, 68, 85, 80] ∨ name = [50, 68, 82, 79, 80] then 2 else
 if name = [82, 79, 84] ∨ name = [45, 82, 79, 84] then 3 else
 if name = [50, 83, 87, 65, 80] ∨ name = [50, 79, 86, 69, 82] then 4 else
 if name = [80, 73, 67, 75] ∨ name = [82, 79, 76, 76] then (if s.length = 0 ∨ s.getD (s.length - 1) 0 < 0 ∨ (s.length : Int) - 1 ≤ s.getD (s.length - 1) 0 then (s.length : Int) + 1 else s.getD (s.length - 1) 0 + 2) else -1
def leftK (name : Str) (x : List Int) (depth : Nat) : List Int :=
 if name = [68, 85, 80] then [xat x 0, xat x 0] else
 if name = [83, 87, 65, 80] then [xat x 1, xat x 0] else
 if name = [79, 86, 69, 82] then [xat x 0, xat x 1, xat x 0] else
 if name = [78, 73, 80] then [xat x 1] else
 if name = [84, 85, 67, 75] then [xat x 1, xat x 0, xat x 1] else
 if name = [82, 79, 84] then [xat x 1, xat x 2, xat x 0] else
 if name = [45, 82, 79, 84] then [xat x 2, xat x 0, xat x 1] else
 if name = [50, 68, 85, 80] then [xat x 0, xat x 1, xat x 0, xat x 1] else
 if name = [50, 83, 87, 65, 80] then [xat x 2, xat x 3, xat x 0, xat x 1] else
 if name = [50, 79, 86, 69, 82] then [xat x 0, xat x 1, xat x 2, xat x 3, xat x 0, xat x 1] else
 if name = [63, 68, 85, 80] then (if xat x 0 = 0 then x else [xat x 0, xat x 0]) else
 if name = [68, 69, 80, 84, 72] then [(depth : Int)] else
 if name = [80, 73, 67, 75] then x.take (x.length - 1) ++ [xat x 0] else
 if name = [82, 79, 76, 76] then (x.take (x.length - 1)).drop 1 ++ [xat x 0] else []
def shuffleS (name : Str) (s : List Int) (limit : Int) : List Int × Bool × Int :=
 if takesK name s < 0 then (s, false, 0) else
 if (s.length : Int) < takesK name s then (s, true, -4) else
 if limit < ((s.length - (takesK name s).toNat + (leftK name (s.drop (s.length - (takesK name s).toNat)) s.length).length : Nat) : Int) then (s, true, -3) else
 (s.take (s.length - (takesK name s).toNat) ++ leftK name (s.drop (s.length - (takesK name s).toNat)) s.length, true, 0)
def doS (v : VVm) (n : Int) : VVm × Int :=
 if n < 23 ∨ 129 < n then (v, -24) else
 let name := names.getD n.toNat []
 if n ≤ 38 then ({ v with d := (shuffleS name v.d v.conf.data).1 }, (shuffleS name v.d v.conf.data).2.2) else
 let k := takesS n name
 if v.d.length < k then (v, -4) else
 let r := doneS v n name (v.d.drop (v.d.length - k))
 if r.2.2 ≠ 0 then (v, r.2.2) else
 if v.conf.data < ((v.d.length - k + r.2.1.length : Nat) : Int) then (v, -3) else ({ r.1 with d := v.d.take (v.d.length - k) ++ r.2.1 }, 0)
def tLv (r : List Int × Int) : PV := tup2 (sq cInt r.1) (i64 r.2)
@[simp] theorem flat_tLv (r : List Int × Int) : Flat (tLv r) := by simp [tLv]
end Go.Proofs.YtobhnjnffnbbkaaGreatDoor
