import Derived.ChangeOld
import Derived.ChangeSlices
import Derived.Handy
import Derived.Laws.CopyOwn
import Derived.Lib.AppendZerosOnto
import Derived.Lib.OwnBridge
import Derived.Lib.SliceRun
import Derived.Lib.Walk
import Derived.Maps.AppendAt
import Derived.OpenShut
import Derived.ProofKit
import Derived.Shelf.Bytes.SlEqualAll
import Derived.ShutString
import Derived.Test.YtphgdofmjpdhaaaGreatPk2
set_option linter.unusedVariables false
set_option linter.unusedSimpArgs false
namespace Go.Proofs.YtphgdofmjpdhaaaGreat
open Go.RowKit
theorem info8 : (Tryz.prog.info? 5).map (fun i => (i.zero, i.size, i.bytes)) = some (some (.int .u8 0), 1, 1) := by kernel_rfl
theorem own_drewN {w w1 : World} {B e s n : Nat} {v : Value} {xs : List Value} {q : Nat} (h : w.ownsRow B e s v n xs) (hw : w1 = w.drewN q) : w1.ownsRow B e s v n xs := by rw [hw]; exact h
theorem bel_drewN {w0 w w1 : World} {B q : Nat} (h : Below B w0 w) (hw : w1 = w.drewN q) : Below B w0 w1 := by rw [hw]; exact below_drewN h q
theorem own_low {w : World} {B e s n : Nat} {v : Value} {xs : List Value} (h : w.ownsRow B e s v n xs) : ∀ k, v.ownBlock = some k → B ≤ k := by
 intro k hk
 rcases h.2 with ⟨rfl, _⟩ | ⟨g, cap, cur, rfl, hb, _⟩
 ·simp [Value.ownBlock] at hk
 ·simp [Value.ownBlock] at hk; omega
theorem own_base {w : World} {B B' e s n : Nat} {v : Value} {xs : List Value} (h : w.ownsRow B e s v n xs) (hB : B' ≤ B) : w.ownsRow B' e s v n xs := by
 refine ⟨h.1, ?_⟩
 rcases h.2 with h1 | ⟨g, cap, cur, e1, hb, h2⟩
 ·exact .inl h1
 ·exact .inr ⟨g, cap, cur, e1, by omega, h2⟩
theorem rev_own (w : World) (B : Nat) (v : Value) (n : Nat) (zs : List Int) (h : w.ownsRow B 5 1 v n (zs.map (Value.int .u8))) (hn : n ≤ 9223372036854775807) :
  Calls Tryz.prog 238 #[v] w fun e w' => e = .returned (.tuple #[]) ∧ w'.ownsRow B 5 1 v n (zs.reverse.map (Value.int .u8)) ∧ ∀ w0, Below B w0 w → Below B w0 w' := by
 by_cases hv : v = .slice none 0 0
 ·have h0 : n = 0 := by
   rcases h.2 with ⟨_, h⟩ | ⟨g, cap, cur, h, _⟩
   ·exact h
   ·rw [h] at hv; cases hv
  have hz : zs = [] := List.eq_nil_of_length_eq_zero (by have := h.1; simp at this; omega)
  subst hz hv
  refine (AnyE.slices_Reverse_empty Tryz.lReverse none 0 w).mono ?_
  rintro e w' ⟨rfl, rfl⟩
  exact ⟨rfl, h, fun _ hb => hb⟩
 ·obtain ⟨g, cap, rfl, hb, _, _, _, hl, hH⟩ := Lib.holds_of_ownsRow h hv
  subst hl
  refine (AnyE.slices_Reverse Tryz.lReverse (Value.int .u8) (fun _ => rfl) g 0 cap zs w hH hn).mono ?_
  rintro e w' ⟨rfl, q, rfl⟩
  refine ⟨rfl, ?_, fun w0 hw => Lib.below_putRow hw hb⟩
  have := Lib.ownsRow_putRow (q := q) h (ys := zs.reverse) (by simp) (Nat.le_refl _)
  rw [List.take_of_length_le (by simp)] at this
  exact this
theorem text_own {w : World} {B n : Nat} {v : Value} {zs : List Int} (h : w.ownsRow B 5 1 v n (zs.map (Value.int .u8))) :
  (convert 24 9 v).run Tryz.prog w = .ok (.string (strOfNums zs)) w := by
 by_cases hv : v = .slice none 0 0
 ·have h0 : n = 0 := by
   rcases h.2 with ⟨_, h⟩ | ⟨g, cap, cur, h, _⟩
   ·exact h
   ·rw [h] at hv; cases hv
  have hz : zs = [] := List.eq_nil_of_length_eq_zero (by have := h.1; simp at this; omega)
  subst hz hv
  exact run_convert_bytes_nil (w := w) 24 5 Tryz.underlying24 Tryz.underlying5 0 0 9 Tryz.underlying9
 ·obtain ⟨g, cap, rfl, hb, _, _, _, hl, hH⟩ := Lib.holds_of_ownsRow h hv
  subst hl
  refine run_convert_bytes_arg w 24 5 Tryz.underlying24 Tryz.underlying5 g 0 zs.length cap zs rfl (fun i hi => ?_) 9 Tryz.underlying9
  rw [(hH i (by simpa using hi)).1]
  simp [List.getD, hi]
end Go.Proofs.YtphgdofmjpdhaaaGreat
namespace Go.Proofs.YtphgdofmjpdhaaaGreat
open Go.RowKit
def digI (ds : List Nat) : List Int := ds.map fun d : Nat => digS (d : Int)
theorem digI_snoc (ds : List Nat) (d : Nat) : digI (ds ++ [d]) = digI ds ++ [digS (d : Int)] := by simp [digI]
theorem r_pos {u r B : Nat} (hz : ¬ u / B = 0) (h : u < 2 ^ (r + 1)) (hB : 2 ≤ B) : 1 ≤ r := by
 rcases Nat.eq_zero_or_pos r with rfl | h1
 ·exact absurd (Nat.div_eq_of_lt (by simp at h; omega)) hz
 ·exact h1
theorem U_less {u B : Nat} (hu : u < 18446744073709551616) (hz : ¬ u / B = 0) (hB : 2 ≤ B) : U (S (u / B)) < U (S u) := by
 have h0 : 0 < u := Nat.pos_of_ne_zero (fun e => hz (by rw [e]; exact Nat.zero_div B))
 rw [U_S u hu, U_S (u / B) (Nat.lt_of_le_of_lt (Nat.div_le_self u B) hu)]
 exact Nat.div_lt_self h0 hB
def measU (v : Value) : Nat := U (intOf v)
theorem measU_is (x : Int) : measU (.int .i64 x) = U x := by unfold measU; simp [intOf]
theorem measU_less {u B : Nat} (hu : Hid (u < 18446744073709551616)) (hz : Hid (¬ u / B = 0)) (hB : 2 ≤ B) : measU (.int .i64 (S (u / B))) < measU (.int .i64 (S u)) := by
 rw [measU_is, measU_is]; exact U_less hu.out hz.out hB
def dig0 (B u : Nat) : List Nat := digL B 64 u
theorem dig0_start (B u : Nat) : Hid ([] ++ digL B 64 u = dig0 B u) := Lib.hid rfl
theorem len_start : Hid (([] : List Nat).length + 64 = 64) := Lib.hid rfl
theorem own_start (w : World) (e : TypeId) : w.ownsRow w.heap.size e 1 (.slice none 0 0) ([] : List Nat).length ((digI []).map (Value.int .u8)) := ⟨rfl, .inl ⟨rfl, rfl⟩⟩
theorem two64 {u : Nat} (h : u < 18446744073709551616) : Hid (u < 2 ^ 64) := Lib.hid (by rw [show (2:Nat)^64 = 18446744073709551616 from by decide]; exact h)
theorem digL_more {B r u : Nat} {ds all : List Nat} (h : ds ++ digL B (r + 1) u = all) (hz : ¬ u / B = 0) : (ds ++ [u % B]) ++ digL B r (u / B) = all := by
 rw [← h]; simp only [digL, hz, if_false, List.append_assoc, List.singleton_append]
theorem digL_end {B r u : Nat} {ds all : List Nat} (h : ds ++ digL B (r + 1) u = all) (hz : u / B = 0) : ds ++ [u % B] = all := by
 rw [← h]; simp only [digL, hz, if_true]
theorem udivS_small (u B : Nat) (hu : u < 18446744073709551616) (h2 : 2 ≤ B) (h3 : B ≤ 36) : udivS (S u) 0 (B : Int) = (S (u / B), ((u % B : Nat) : Int), 0) := by
 have e1 : U (B : Int) = B := by unfold U; omega
 have e2 : U (0 : Int) = 0 := by decide
 have e3 : PU (S u) 0 = u := by unfold PU; rw [U_S u hu, e2]; omega
 unfold udivS
 rw [if_neg (by omega), e1, e2, if_neg (by omega), e3]
 have hm := Nat.mod_lt u (show 0 < B by omega)
 have : S (u % B) = ((u % B : Nat) : Int) := by unfold S; exact wrap64_fit _ (by omega)
 rw [this]
theorem S_zero {u : Nat} (h : u < 18446744073709551616) : S u = 0 ↔ u = 0 := by unfold S wrap64; omega
theorem pow_half {u r B : Nat} (h : u < 2 ^ (r + 1)) (hB : 2 ≤ B) : u / B < 2 ^ r := by
 rw [Nat.pow_succ] at h
 have := Nat.div_le_div_left hB (show 0 < 2 by omega) (a := u)
 omega
theorem chr_text (ds : List Nat) : strOfNums (digI ds).reverse = ⟨((ds.map chr).reverse).toArray⟩ := by
 unfold strOfNums chr digI
 congr 1
 rw [← List.map_reverse, List.map_map, ← List.map_reverse]
 rfl
set_option maxRecDepth 100000 in
set_option maxHeartbeats 1000000 in
theorem num_UShow (n b : Int) (w : World) (hn : Fit n) : Calls Tryz.prog 149 #[.int .i64 n, .int .i64 b] w fun e w' => e = .returned (.tuple #[.string ⟨(ushowS n b).1.toArray⟩, .int .i64 (ushowS n b).2]) ∧ Below w.heap.size w w' := by
 by_cases hb : isB b = true
 ·obtain ⟨B, rfl, h2, h3⟩ := base_nat hb
  have e : ushowS n (B : Int) = (ushowL (U n) B, 0) := by unfold ushowS; rw [if_pos hb, Int.toNat_natCast]
  have E := Lib.hid e
  have EN := Lib.hid (S_U n hn)
  obtain ⟨i0, hi, hz0, hz1, hz2⟩ := info_parts info8
  clear e
  go_enter Tryz.func149, Tryz.ntmps149
  go_wp2_with (go_at_call 236; refine (num_is _ _).mono ?_; rintro e w' ⟨rfl, rfl⟩)
  go_loopw [0, 6] (fun n0 v wr => ∃ (r u : Nat) (ds : List Nat), n0 = .int .i64 (S u) ∧ Hid (u < 18446744073709551616) ∧ Hid (u < 2 ^ r) ∧ 1 ≤ r ∧ Hid (ds.length + r = 64) ∧ Hid (ds ++ digL B r u = dig0 B (U n)) ∧
   wr.ownsRow w.heap.size 5 1 v ds.length ((digI ds).map (Value.int .u8)) ∧ Below w.heap.size w wr) (fun n0 _ _ => measU n0)
  case atStart => exact ⟨64, U n, [], by rw [EN.out], U_lt n, two64 (U_lt n), by omega, len_start, dig0_start _ _, own_start _ _, Below.refl _ _⟩
  case round =>
   obtain ⟨r, u, ds, rfl, hu, hur, hr1, hlen, hds, hown, hbel⟩ := hrel
   obtain ⟨r, rfl⟩ : ∃ r', r = r' + 1 := ⟨r - 1, by omega⟩
   have D0 := fun w => cell_UDiv (S u) 0 (B : Int) w
   rw [udivS_small u B hu.out h2 h3] at D0
   have D := Lib.hid D0
   clear D0
   have hm := Nat.mod_lt u (show 0 < B by omega)
   have hq : u / B < 18446744073709551616 := Nat.lt_of_le_of_lt (Nat.div_le_self _ _) hu.out
   have hds64 : ds.length ≤ 63 := by have := hlen.out; omega
   by_cases hz : u / B = 0
   ·have t : (S (u / B) == 0) = true := by rw [hz]; decide +kernel
    have hds' := Lib.hid (digL_end hds.out hz)
    have HZ := Lib.hid hz
    clear hq hz hds
    go_wp2_with (first
     | (go_at_call 96; refine (D.out _).mono ?_; rintro e w1 ⟨rfl, n1, hw1⟩; have hown1 := own_drewN hown hw1; have hbel1 := bel_drewN hbel hw1; clear hw1)
     | (go_at_call 237; refine (num_Digit _ _).mono ?_; rintro e w' ⟨rfl, rfl⟩)
     | (at_builtin; refine wpList_append_own _ rfl _ _ 24 rfl w.heap.size 5 i0 (.int .u8 0) 1 1 Tryz.underlying24 hi hz0 hz1 hz2 rfl (by decide) _ _ _ rfl (hown1.alloc _) ⟨w1.heap.size, 0, none⟩ 1 1 [.int .u8 (digS ((u : Int) % (B : Int)))] rfl rfl ?c1 ?c2 ?c3 ?c4 ?c5 ?_))
    case c1 => exact cell_one_new _ _ _
    case c2 => simp [Value.oneCell']
    case c3 => unfold maxLen; omega
    case c4 => omega
    case c5 => have := hbel1.size; simp; omega
    intro v' w2 hown2 hgrow _
    have hown3 : w2.ownsRow w.heap.size 5 1 v' (ds ++ [u % B]).length ((digI (ds ++ [u % B])).map (Value.int .u8)) := by
     rw [digI_snoc, List.map_append, List.length_append]; exact hown2
    have hbel2 : Below w.heap.size w w2 := (hbel1.alloc hbel1.size _).grown hgrow (by have := hbel1.size; simp; omega) (own_low hown1)
    have RV := Lib.hid (rev_own w2 w.heap.size v' _ _ hown3 (by simp; omega))
    clear hown hown1 hown2 hgrow hown3
    go_wp2_with fail
    refine RV.out.mono ?_
    rintro e w3 ⟨rfl, hown5, hb5⟩
    have hbel5 := hb5 w hbel2
    have hcv := text_own hown5
    rw [hds'.out, chr_text] at hcv
    clear hown5 hb5
    go_wp2
    go_ret2
    exact ⟨by rw [E.out]; rfl, hbel5⟩
   ·have t : (S (u / B) == 0) = false := by simp only [beq_eq_false_iff_ne]; intro h; exact hz ((S_zero hq).1 h)
    have HQ := Lib.hid hq
    have hds' := Lib.hid (digL_more hds.out hz)
    have HZ := Lib.hid hz
    clear hq hz hds
    go_wp2_with (first
     | (go_at_call 96; refine (D.out _).mono ?_; rintro e w1 ⟨rfl, n1, hw1⟩; have hown1 := own_drewN hown hw1; have hbel1 := bel_drewN hbel hw1; clear hw1)
     | (go_at_call 237; refine (num_Digit _ _).mono ?_; rintro e w' ⟨rfl, rfl⟩)
     | (at_builtin; refine wpList_append_own _ rfl _ _ 24 rfl w.heap.size 5 i0 (.int .u8 0) 1 1 Tryz.underlying24 hi hz0 hz1 hz2 rfl (by decide) _ _ _ rfl (hown1.alloc _) ⟨w1.heap.size, 0, none⟩ 1 1 [.int .u8 (digS ((u : Int) % (B : Int)))] rfl rfl ?c1 ?c2 ?c3 ?c4 ?c5 ?_))
    case c1 => exact cell_one_new _ _ _
    case c2 => simp [Value.oneCell']
    case c3 => unfold maxLen; omega
    case c4 => omega
    case c5 => have := hbel1.size; simp; omega
    intro v' w2 hown2 hgrow _
    have hown3 : w2.ownsRow w.heap.size 5 1 v' (ds ++ [u % B]).length ((digI (ds ++ [u % B])).map (Value.int .u8)) := by
     rw [digI_snoc, List.map_append, List.length_append]; exact hown2
    have hbel2 : Below w.heap.size w w2 := (hbel1.alloc hbel1.size _).grown hgrow (by have := hbel1.size; simp; omega) (own_low hown1)
    clear hown hown1 hown2 hgrow
    go_wp2_with fail
    go_roundw
    case rel => exact ⟨r, u / B, ds ++ [u % B], rfl, HQ.out, pow_half hur.out h2, r_pos HZ.out hur.out h2, by have := hlen.out; show _ = _; simp; omega, hds', hown3, hbel2⟩
    case measure => exact measU_less hu HZ h2
 ·have e : ushowS n b = ([], -24) := by unfold ushowS; rw [if_neg hb]
  have E := Lib.hid e
  simp only [Bool.not_eq_true] at hb
  clear e
  go_enter Tryz.func149, Tryz.ntmps149
  go_wp2_with (go_at_call 236; refine (num_is _ _).mono ?_; rintro e w' ⟨rfl, rfl⟩)
  go_ret2
  exact ⟨by rw [E.out]; rfl, Below.refl _ _⟩
end Go.Proofs.YtphgdofmjpdhaaaGreat
namespace Go.Proofs.YtphgdofmjpdhaaaGreat
open Go.RowKit
theorem str_eq {a b : ByteArray} (h : a.data.toList = b.data.toList) : a = b := by
 apply ByteArray.ext; exact Array.toList_inj.1 h
theorem ret_si {a b : ByteArray} {x y : Int} (h : a = b) (g : x = y) : Ending.returned (.tuple #[.string a, .int .i64 x]) = .returned (.tuple #[.string b, .int .i64 y]) := by rw [h, g]
theorem digL_le (B : Nat) : ∀ k u, (digL B k u).length ≤ k := by
  intro k
  induction k with
  | zero => intro u; simp [digL]
  | succ k ih => intro u; simp only [digL, List.length_cons]; split
                 · simp
                 · have := ih (u / B); omega
theorem ushowL_len (u B : Nat) : (ushowL u B).length ≤ 64 := by unfold ushowL; simpa using digL_le B 64 u
theorem num_Show (n b : Int) (w : World) (hn : Fit n) : Calls Tryz.prog 148 #[.int .i64 n, .int .i64 b] w fun e w' => e = .returned (.tuple #[.string ⟨(showS n b).1.toArray⟩, .int .i64 (showS n b).2]) ∧ Below w.heap.size w w' := by
 by_cases h0 : 0 ≤ n
 ·have e : showS n b = ushowS n b := by unfold showS ushowS; simp only [h0, if_true]
  rw [e]
  have H := Lib.hid (num_UShow n b w hn)
  go_enter Tryz.func148, Tryz.ntmps148
  go_wp2_with (go_at_call 149; refine H.out.mono ?_; rintro e w1 ⟨rfl, hb⟩)
  go_ret2
  exact ⟨rfl, hb⟩
 ·have h1 : decide (0 ≤ n) = false := by simp; omega
  by_cases hb : isB b = true
  ·have e : ushowS (wrap64 (-n)) b = (ushowL (U (wrap64 (-n))) b.toNat, 0) := by unfold ushowS; rw [if_pos hb]
   have e2 : showS n b = (45 :: ushowL (U (wrap64 (-n))) b.toNat, 0) := by unfold showS; rw [if_pos hb]; simp only [h0, if_false]
   have H0 := num_UShow (wrap64 (-n)) b w (wrap64_rng _)
   rw [e] at H0
   clear e
   have hl := ushowL_len (U (wrap64 (-n))) b.toNat
   generalize ushowL (U (wrap64 (-n))) b.toNat = l at H0 e2 hl
   have H := Lib.hid H0
   have E2 := Lib.hid e2
   clear e2 H0
   go_enter Tryz.func148, Tryz.ntmps148
   go_wp2_with (go_at_call 149; refine H.out.mono ?_; rintro e w1 ⟨rfl, hb⟩)
   go_ret2
   exact ⟨by rw [E2.out]; exact ret_si (str_eq (by simp)) rfl, hb⟩
  ·have e : ushowS (wrap64 (-n)) b = ([], -24) := by unfold ushowS; rw [if_neg hb]
   have e2 : showS n b = ([], -24) := by unfold showS; rw [if_neg hb]
   have H0 := num_UShow (wrap64 (-n)) b w (wrap64_rng _)
   rw [e] at H0
   have H := Lib.hid H0
   have E2 := Lib.hid e2
   clear e e2 H0
   go_enter Tryz.func148, Tryz.ntmps148
   go_wp2_with (go_at_call 149; refine H.out.mono ?_; rintro e w1 ⟨rfl, hb⟩)
   go_ret2
   exact ⟨by rw [E2.out]; rfl, hb⟩
end Go.Proofs.YtphgdofmjpdhaaaGreat
namespace Go.Proofs.YtphgdofmjpdhaaaGreat
open Go.ChangeShapes Go.WideShapes Go.ChangeAt Go.RowKit
open Go.ChangeMaps (open_string)
def Rd (w : World) (t : TypeId) (cs : List Value) : Prop := ∃ (H : Type) (enc : TypeId × Value → H) (fuel : Nat) (x : DataW H × List MemPlace), DataW.trod enc Tryz.prog w 0 (fun _ => true) true fuel t cs = some x
def Reads (w : World) (t : TypeId) (v : Value) : Prop := ∃ (H : Type) (enc : TypeId × Value → H) (d : DataW H) (p : List MemPlace) (base : Nat), Value.okWide Tryz.prog w .any base t v ∧ DataW.Trod enc Tryz.prog w 0 (fun _ => true) true t v d p
theorem reads_rd {w : World} {t : TypeId} {v : Value} (h : Reads w t v) : Rd w t v.cells.toList := by
 obtain ⟨H, enc, d, p, base, _, fuel, hf⟩ := h
 exact ⟨H, enc, fuel, _, hf⟩
set_option maxRecDepth 100000 in
theorem reads_int {w : World} {t : TypeId} {v : Value} {k : IntKind} (ht : Tryz.prog.underlying t = some (.int k)) (h : Reads w t v) : ∃ n, v = .int k n ∧ (Lit.int k n).wf = true := by
 obtain ⟨H, enc, d, p, base, hv, hd⟩ := h
 obtain ⟨n, hn, _, _, hw⟩ := open_int ht hv hd
 exact ⟨n, hn, hw⟩
set_option maxRecDepth 100000 in
theorem reads_slice {w : World} {t : TypeId} {v : Value} {e : TypeId} (ht : Tryz.prog.underlying t = some (.slice e)) (h : Reads w t v) : ∃ a len cap, v = .slice a len cap ∧ Rd w t [.slice a len cap] := by
 have hr := reads_rd h
 obtain ⟨H, enc, d, p, base, hv, hd⟩ := h
 obtain ⟨a, len, cap, rfl⟩ := okWide_slice ht hv
 exact ⟨a, len, cap, rfl, hr⟩
theorem rd_int {w : World} {t : TypeId} {cs : List Value} {k : IntKind} (ht : Tryz.prog.underlying t = some (.int k)) (h : Rd w t cs) : ∃ n, cs = [.int k n] ∧ (Lit.int k n).wf = true := by
 obtain ⟨H, enc, fuel, x, hf⟩ := h
 obtain ⟨n, hc, _, hw⟩ := DataW.trod_int ht hf
 exact ⟨n, hc, hw⟩
theorem rd_slice {w : World} {t : TypeId} {cs : List Value} {e : TypeId} (ht : Tryz.prog.underlying t = some (.slice e)) (h : Rd w t cs) :
  cs = [.slice none 0 0] ∨ ∃ (a : Addr) (len cap : Nat), cs = [.slice (some a) len cap] ∧ len ≤ cap ∧ cap ≤ maxLen ∧
   ∀ i, i < cap → ∃ es, w.cells? 0 (a.add (i * Tryz.prog.cellsOf e)) (Tryz.prog.cellsOf e) = some es ∧ Rd w e es := by
 obtain ⟨H, enc, fuel, x, hx⟩ := h
 rcases DataW.trod_slice ht hx with ⟨h0, _⟩ | ⟨a, len, cap, elems, rest, n, _, hc, _, _, hl, hm, hlen, hel, hsp, _⟩
 ·exact .inl h0
 ·refine .inr ⟨a, len, cap, hc, hl, hm, fun i hi => ?_⟩
  have key : ∀ (o : Option (List Value)) (y : Option (DataW H × List MemPlace)) (k : Nat) (l : List (DataW H × List MemPlace)), k < l.length → o.bind (DataW.trod enc Tryz.prog w 0 (fun _ => true) true n e) = l[k]? → ∃ es, o = some es ∧ Rd w e es := by
   intro o y k l hk ho
   rw [List.getElem?_eq_getElem hk] at ho
   cases o with
   | none => cases ho
   | some es => exact ⟨es, rfl, H, enc, n, _, ho⟩
  by_cases h1 : i < len
  ·exact key _ none i elems (by omega) (hel i h1)
  ·obtain ⟨hr1, hr2⟩ := hsp rfl
   have := hr2 (i - len) (by omega)
   rw [show len + (i - len) = i from by omega] at this
   exact key _ none (i - len) rest (by omega) this
theorem fit_wf {n : Int} (h : (Lit.int .i64 n).wf = true) : -9223372036854775808 ≤ n ∧ n ≤ 9223372036854775807 := by
 have := h; simp [Lit.wf, IntKind.min, IntKind.max, IntKind.bits, IntKind.signed] at this; omega
theorem byte_wf {n : Int} (h : (Lit.int .u8 n).wf = true) : 0 ≤ n ∧ n ≤ 255 := by
 have := h; simp [Lit.wf, IntKind.min, IntKind.max, IntKind.bits, IntKind.signed] at this; omega
end Go.Proofs.YtphgdofmjpdhaaaGreat
namespace Go.Proofs.YtphgdofmjpdhaaaGreat
open Go.RowKit
def tShow (r : List UInt8 × Int) : PV := tup2 (str r.1) (i64 r.2)
@[simp] theorem flat_tShow (r : List UInt8 × Int) : Flat (tShow r) := by simp [tShow]
theorem pureS {P : Program} {f : FuncId} {args : List Value} {r : List UInt8 × Int} (h : ∀ w, Calls P f args.toArray w fun e w' => e = .returned (.tuple #[.string ⟨r.1.toArray⟩, .int .i64 r.2]) ∧ Grows w w') : PureC P f (args.map .val) (tShow r) :=
 pure_of_calls (v := .tuple #[.string ⟨r.1.toArray⟩, .int .i64 r.2]) (fun c => by unfold tShow tup2 Rep; exact ⟨[_, _], rfl, repL_cons.2 ⟨rep_val _ _, repL_cons.2 ⟨rep_val _ _, repL_nil.2 rfl⟩⟩⟩) h
theorem gbelow {w : World} {v : Value} : ∀ {e : Ending} {w' : World}, (e = .returned v ∧ Below w.heap.size w w') → (e = .returned v ∧ Grows w w') := by rintro e w' ⟨h, k⟩; exact ⟨h, Grows.of_below k⟩
theorem k_Show (n b : Int) (hn : Fit n) : PureC Tryz.prog 148 [i64 n, i64 b] (tShow (showS n b)) := pureS (args := [.int .i64 n, .int .i64 b]) fun w => Calls.mono (num_Show n b w hn) fun _ _ h => gbelow h
theorem k_UShow (n b : Int) (hn : Fit n) : PureC Tryz.prog 149 [i64 n, i64 b] (tShow (ushowS n b)) := pureS (args := [.int .i64 n, .int .i64 b]) fun w => Calls.mono (num_UShow n b w hn) fun _ _ h => gbelow h
theorem k_Digit (n : Int) : PureC Tryz.prog 237 [i64 n] (.val (.int .u8 (digS n))) := pure_of_calls (args := [.int .i64 n]) (fun c => rep_val _ _) fun w => Calls.mono (num_Digit n w) fun _ _ h => gsame h
end Go.Proofs.YtphgdofmjpdhaaaGreat
namespace Go.Proofs.YtphgdofmjpdhaaaGreat
open Go.RowKit
set_option maxRecDepth 100000
@[simp] theorem flatc_patch (l : List VPatch) : Flat (sqc cPatch l) := flat_sqc flat_cPatch l
@[simp] theorem flatc_req (l : List VReq) : Flat (sqc cReq l) := flat_sqc flat_cReq l
@[simp] theorem flatc_byte (l : List UInt8) : Flat (sqc cByte l) := flat_sqc flat_cByte l
@[simp] theorem flatc_int (l : List Int) : Flat (sqc cInt l) := flat_sqc flat_cInt l
theorem bytes_Clone (l : List UInt8) (hl : l.length ≤ 140737488355328) : PureC Tryz.prog 235 [sq cByte l] (sq cByte l) := by
 refine pW tG (rs := [.tmp 2]) Tryz.func235 rfl rfl rfl (by simp) (by simp) (fun B => ?_)
 refine zu1 ?_
 refine Ws ?_
 refine zp1 ?_
 refine WO_nilS (lO tG rfl) rfl rfl rfl rfl rfl (fun bn1 hn1 => ?_)
 refine Wn ?_
 refine Wi rfl (fun hi1 => ?_) (fun hi1 => ?_)
 ·refine zu1 ?_
  refine zR ?_
  exact nilS (hn1 hi1)
 ·refine Wj ?_
  refine zp2 ?_
  refine Wd rfl rfl (does_append_clip (lO tG rfl) rfl (lO tG rfl) (lO tG rfl) rfl rfl (by exact ⟨_, rfl⟩) (by exact ⟨rfl, rfl, flatMap_len _ 1 (fun _ => rfl) _, okC_flat _ (fun _ => rfl) _⟩) (by rfl) (by (dsimp only; omega)) (by (omega))) ?_
  refine Wa 7 rfl (sq_none cByte) ?_
  refine zs1 ?_
  refine zR ?_
  rfl
theorem clone_ints (l : List Int) (hl : l.length ≤ 1000000) : PureC Tryz.prog 28 [sq cInt l] (sq cInt l) := by
 refine pW tG (rs := [.tmp 2]) Tryz.func28 rfl rfl rfl (by simp) (by simp) (fun B => ?_)
 refine zu1 ?_
 refine Ws ?_
 refine zp1 ?_
 refine WO_nilS (lO tG rfl) rfl rfl rfl rfl rfl (fun bn1 hn1 => ?_)
 refine Wn ?_
 refine Wi rfl (fun hi1 => ?_) (fun hi1 => ?_)
 ·refine zu1 ?_
  refine zR ?_
  exact nilS (hn1 hi1)
 ·refine Wj ?_
  refine zp2 ?_
  refine Wd rfl rfl (does_append_clip (lO tG rfl) rfl (lO tG rfl) (lO tG rfl) rfl rfl (by exact ⟨_, rfl⟩) (by exact ⟨rfl, rfl, flatMap_len _ 1 (fun _ => rfl) _, okC_flat _ (fun _ => rfl) _⟩) (by rfl) (by (dsimp only; omega)) (by (omega))) ?_
  refine Wa 7 rfl (sq_none cInt) ?_
  refine zs1 ?_
  refine zR ?_
  rfl
theorem clip_patches (l : List VPatch) (hl : l.length ≤ 1000000) : PureC Tryz.prog 241 [sq cPatch l] (sqc cPatch l) := by
 refine pW tG (rs := [.tmp 2]) Tryz.func241 rfl rfl rfl (by simp) (by simp) (fun B => ?_)
 refine zu1 ?_
 refine zp5 ?_
 refine z2 ?_ (q := (by (simp_all; done)))
 refine Wa 8 rfl (sq_slice cPatch 2 (fun _ => rfl) (by omega)) ?_
 refine zs1 ?_
 refine Wq ?_
 exact leafPx rfl (by simp [sqc]; rfl)
theorem clip_reqs (l : List VReq) (hl : l.length ≤ 1000000) : PureC Tryz.prog 245 [sq cReq l] (sqc cReq l) := by
 refine pW tG (rs := [.tmp 2]) Tryz.func245 rfl rfl rfl (by simp) (by simp) (fun B => ?_)
 refine zu1 ?_
 refine zp5 ?_
 refine z2 ?_ (q := (by (simp_all; done)))
 refine Wa 8 rfl (sq_slice cReq 6 (fun _ => rfl) (by omega)) ?_
 refine zs1 ?_
 refine Wq ?_
 exact leafPx rfl (by simp [sqc]; rfl)
theorem clip_bytes (l : List UInt8) (hl : l.length ≤ 140737488355328) : PureC Tryz.prog 258 [sq cByte l] (sqc cByte l) := by
 refine pW tG (rs := [.tmp 2]) Tryz.func258 rfl rfl rfl (by simp) (by simp) (fun B => ?_)
 refine zu1 ?_
 refine zp5 ?_
 refine z2 ?_ (q := (by (simp_all; done)))
 refine Wa 8 rfl (sq_slice cByte 1 (fun _ => rfl) (by omega)) ?_
 refine zs1 ?_
 refine Wq ?_
 exact leafPx rfl (by simp [sqc]; rfl)
end Go.Proofs.YtphgdofmjpdhaaaGreat
namespace Go.Proofs.YtphgdofmjpdhaaaGreat
open Go.RowKit
def bytes8 (u : Nat) : List Int := [(u : Int) % 256, (u : Int) / 256 % 256, (u : Int) / 65536 % 256, (u : Int) / 16777216 % 256,
  (u : Int) / 4294967296 % 256, (u : Int) / 1099511627776 % 256, (u : Int) / 281474976710656 % 256, (u : Int) / 72057594037927936 % 256]
theorem bytes8_len (u : Nat) : (bytes8 u).length = 8 := rfl
def putW (w : World) (x : List Value) : World :=
 ((w.alloc (.cells x.toArray 262)).alloc (.cells #[.int .u8 0, .int .u8 0, .int .u8 0, .int .u8 0, .int .u8 0, .int .u8 0, .int .u8 0, .int .u8 0] 5)).setRow (w.heap.size + 1) x.toArray
theorem putW_heap (w : World) (x : List Value) : (putW w x).heap[w.heap.size + 1]? = some (.cells x.toArray 5 (0, 0)) := by
 unfold putW
 exact setRow_heap _ (w.heap.size + 1) #[.int .u8 0, .int .u8 0, .int .u8 0, .int .u8 0, .int .u8 0, .int .u8 0, .int .u8 0, .int .u8 0] _ _ _ (by simpa using heap_alloc_new (w.alloc (.cells x.toArray 262)) _)
theorem putW_below (w : World) (x : List Value) : Below w.heap.size w (putW w x) :=
 below_setRow (((Below.refl _ _).alloc (Nat.le_refl _) _).alloc (by simp) _) (by omega) _
theorem run_copy8 (w : World) (x0 x1 x2 x3 x4 x5 x6 x7 : Int) :
  (Builtin.copy_ #[24, 24] 3 #[.slice (some ⟨w.heap.size + 1, 0, none⟩) 8 8, .slice (some ⟨w.heap.size, 0, none⟩) 8 8]).run Tryz.prog
   ((w.alloc (.cells #[.int .u8 x0, .int .u8 x1, .int .u8 x2, .int .u8 x3, .int .u8 x4, .int .u8 x5, .int .u8 x6, .int .u8 x7] 262)).alloc (.cells #[.int .u8 0, .int .u8 0, .int .u8 0, .int .u8 0, .int .u8 0, .int .u8 0, .int .u8 0, .int .u8 0] 5)) =
   .ok (.int .i64 8) (putW w [.int .u8 x0, .int .u8 x1, .int .u8 x2, .int .u8 x3, .int .u8 x4, .int .u8 x5, .int .u8 x6, .int .u8 x7]) := by
 have h := run_copy_row (P := Tryz.prog) ((w.alloc (.cells #[.int .u8 x0, .int .u8 x1, .int .u8 x2, .int .u8 x3, .int .u8 x4, .int .u8 x5, .int .u8 x6, .int .u8 x7] 262)).alloc (.cells #[.int .u8 0, .int .u8 0, .int .u8 0, .int .u8 0, .int .u8 0, .int .u8 0, .int .u8 0, .int .u8 0] 5))
  24 24 3 5 (w.heap.size + 1) 0 8 8 ⟨w.heap.size, 0, none⟩ 8 8 #[.int .u8 0, .int .u8 0, .int .u8 0, .int .u8 0, .int .u8 0, .int .u8 0, .int .u8 0, .int .u8 0] 5
  [.int .u8 x0, .int .u8 x1, .int .u8 x2, .int .u8 x3, .int .u8 x4, .int .u8 x5, .int .u8 x6, .int .u8 x7]
  Tryz.underlying24 (by kernel_rfl) (by simpa using heap_alloc_new (w.alloc _) _) rfl ?_ (by simp) (by simp [Value.oneCell'])
 ·exact h
 ·intro j v hj
  have hg : ((w.alloc (.cells #[.int .u8 x0, .int .u8 x1, .int .u8 x2, .int .u8 x3, .int .u8 x4, .int .u8 x5, .int .u8 x6, .int .u8 x7] 262)).alloc (.cells #[.int .u8 0, .int .u8 0, .int .u8 0, .int .u8 0, .int .u8 0, .int .u8 0, .int .u8 0, .int .u8 0] 5)).heap[w.heap.size]? =
    some (.cells #[.int .u8 x0, .int .u8 x1, .int .u8 x2, .int .u8 x3, .int .u8 x4, .int .u8 x5, .int .u8 x6, .int .u8 x7] 262 (0, 0)) := by
   rw [Below.heap_alloc _ _ _ (by simp)]; exact heap_alloc_new w _
  rw [show (⟨w.heap.size, 0, none⟩ : Addr).add j = ⟨w.heap.size, j, none⟩ from by unfold Addr.add; split <;> simp_all, cell_of_row _ _ _ _ _ _ hg]
  simpa using hj
def GivesBytes (xs : List Int) (w : World) (e : Ending) (w' : World) : Prop :=
 ∃ b c, e = .returned (.slice (some ⟨b, 0, none⟩) xs.length c) ∧ w.heap.size ≤ b ∧ xs.length ≤ c ∧ (∀ i, i < xs.length → w'.cell? ⟨b, i, none⟩ = some (.int .u8 (xs.getD i 0))) ∧ Below w.heap.size w w'
set_option maxRecDepth 100000 in
theorem cell_Put (n : Int) (w : World) :
  Calls Tryz.prog 221 #[.int .i64 n] w (GivesBytes (bytes8 (U n)) w) := by
 have u := U_wrap n
 have hmk : ∀ w, (Instr.makeSlice 24 (.int .i64 8) (.int .i64 8)).run Tryz.prog w = .ok (.slice (some ⟨w.heap.size, 0, none⟩) 8 8) (w.alloc (.cells #[.int .u8 0, .int .u8 0, .int .u8 0, .int .u8 0, .int .u8 0, .int .u8 0, .int .u8 0, .int .u8 0] 5)) := fun _ => by kernel_rfl
 have hcp := run_copy8 w ((U n : Int) % 256) ((U n : Int) / 256 % 256) ((U n : Int) / 65536 % 256) ((U n : Int) / 16777216 % 256) ((U n : Int) / 4294967296 % 256) ((U n : Int) / 1099511627776 % 256) ((U n : Int) / 281474976710656 % 256) ((U n : Int) / 72057594037927936 % 256)
 go_enter Tryz.func221, Tryz.ntmps221
 go_wp2_with fail
 go_rounds 9
 go_ret
 refine ⟨w.heap.size + 1, 8, rfl, by omega, by rw [bytes8_len]; exact Nat.le_refl _, fun i hi => ?_, putW_below _ _⟩
 rw [cell_of_row _ _ _ _ _ _ (putW_heap _ _)]
 have h8 : i < 8 := hi
 have : i = 0 ∨ i = 1 ∨ i = 2 ∨ i = 3 ∨ i = 4 ∨ i = 5 ∨ i = 6 ∨ i = 7 := by omega
 rcases this with rfl | rfl | rfl | rfl | rfl | rfl | rfl | rfl <;> rfl
theorem Tryz.infoByte : (Tryz.prog.info? 5).map (fun i => (i.zero, i.size, i.bytes)) = some (some (.int .u8 0), 1, 1) := by kernel_rfl
end Go.Proofs.YtphgdofmjpdhaaaGreat
namespace Go.Proofs.YtphgdofmjpdhaaaGreat
open Go.RowKit
def valB : List Int → Nat
 | [] => 0
 | x :: t => x.toNat + 256 * valB t
theorem valB_append (xs ys : List Int) : valB (xs ++ ys) = valB xs + 256 ^ xs.length * valB ys := by
 induction xs with
 | nil => simp [valB]
 | cons x t ih =>
  simp only [List.cons_append, valB, ih, List.length_cons, Nat.pow_succ, Nat.mul_add, Nat.add_assoc]
  rw [← Nat.mul_assoc 256, Nat.mul_comm 256 (256 ^ _)]
theorem valB_lt (xs : List Int) (h : ∀ x ∈ xs, 0 ≤ x ∧ x < 256) : valB xs < 256 ^ xs.length := by
 induction xs with
 | nil => simp [valB]
 | cons x t ih =>
  have h1 := ih fun y hy => h y (List.mem_cons_of_mem _ hy)
  have h2 := h x List.mem_cons_self
  simp only [valB, List.length_cons, Nat.pow_succ]
  omega
theorem getD_byte {xs : List Int} (h : ∀ x ∈ xs, 0 ≤ x ∧ x < 256) (k : Nat) (hk : k < xs.length) : 0 ≤ xs.getD k 0 ∧ xs.getD k 0 < 256 := by
 have e : xs.getD k 0 = xs[k] := by simp [List.getD, hk]
 rw [e]; exact h _ (List.getElem_mem hk)
theorem take_more (xs : List Int) (k : Nat) (hk : k < xs.length) : xs.take (k + 1) = xs.take k ++ [xs.getD k 0] := by
 rw [List.take_add_one, List.getElem?_eq_getElem hk]; simp [List.getD, hk]
theorem or_byte (acc x k : Nat) (hacc : acc < 256 ^ k) (hx : x < 256) (hk : k < 8) :
  bits .or .u64 (acc : Int) (IntKind.u64.wrap ((x : Int) * 2 ^ (8 * k))) = ((acc + 256 ^ k * x : Nat) : Int) := by
 have e0 : (256 : Nat) ^ k = 2 ^ (8 * k) := by rw [show (256 : Nat) = 2 ^ 8 from rfl, ← Nat.pow_mul]
 have e1 : (x : Int) * 2 ^ (8 * k) = ((x * 2 ^ (8 * k) : Nat) : Int) := by simp
 have hp : 2 ^ (8 * k) ≤ 2 ^ 56 := Nat.pow_le_pow_right (by omega) (by omega)
 have hq : x * 2 ^ (8 * k) ≤ 255 * 2 ^ 56 := Nat.mul_le_mul (by omega) hp
 have h56 : (2 : Nat) ^ 56 = 72057594037927936 := by decide
 rw [e0] at hacc
 rw [e1, IntWalk.u64_in _ (by omega), u64_or_nat _ _ (by omega) (by omega), e0]
 congr 1
 have := Nat.shiftLeft_add_eq_or_of_lt hacc x
 rw [Nat.shiftLeft_eq] at this
 rw [Nat.or_comm, ← this, Nat.mul_comm, Nat.add_comm]
set_option maxRecDepth 100000 in
theorem cell_Get (b o c : Nat) (xs : List Int) (w : World) (hl : xs.length = 8) (hb : ∀ x ∈ xs, 0 ≤ x ∧ x < 256) (hc : ∀ i, i < 8 → w.cell? ⟨b, o + i, none⟩ = some (.int .u8 (xs.getD i 0))) :
  Calls Tryz.prog 218 #[.slice (some ⟨b, o, none⟩) 8 c] w fun e w' => e = .returned (.tuple #[.int .i64 (wrap64 (valB xs)), .int .i64 0]) ∧ w = w' := by
 have HC := Lib.hid hc
 have HL := Lib.hid hl
 have HB := Lib.hid hb
 clear hc hl hb
 go_enter Tryz.func218, Tryz.ntmps218
 go_wp2_with fail
 go_loop [4, 12] (fun a i => ∃ k m : Nat, k ≤ 8 ∧ i = .int .i64 k ∧ a = .int .u64 m ∧ Hid (m = valB (xs.take k))) (fun _ i => 8 - (intOf i).toNat)
 case atStart => exact ⟨0, 0, by omega, rfl, rfl, rfl⟩
 case round =>
  obtain ⟨k, m, hk, rfl, rfl, hm⟩ := hrel
  by_cases hlt : k < 8
  ·obtain ⟨x, hx, hx2, hcell⟩ : ∃ x : Nat, (xs.getD k 0 = (x : Int)) ∧ x < 256 ∧ w.cell? ⟨b, o + k, none⟩ = some (.int .u8 (x : Int)) := by
    have h1 := getD_byte HB.out k (by have := HL.out; omega)
    refine ⟨(xs.getD k 0).toNat, by omega, by omega, ?_⟩
    rw [HC.out k hlt]
    congr 2
    omega
   have hmlt : m < 256 ^ k := by
    have := valB_lt (xs.take k) fun y hy => HB.out y (List.mem_of_mem_take hy)
    rw [← hm.out, List.length_take] at this
    rwa [Nat.min_eq_left (by have := HL.out; omega)] at this
   have hor := or_byte m x k hmlt hx2 hlt
   have hm' : Hid (m + 256 ^ k * x = valB (xs.take (k + 1))) := by
    show _ = _
    rw [take_more _ _ (by have := HL.out; omega), valB_append, ← hm.out, hx, List.length_take, Nat.min_eq_left (by have := HL.out; omega)]
    simp [valB]
   generalize m + 256 ^ k * x = m' at *
   clear hm hmlt hx
   go_wp2
   go_round
   case rel => exact ⟨k + 1, m', by omega, by go_num, rfl, hm'⟩
   case measure => simp [intOf]; omega
  ·have e : m = valB xs := by rw [hm.out, List.take_of_length_le (by have := HL.out; omega)]
   clear hm
   go_wp2
   go_ret2
   exact ⟨rfl, rfl⟩
end Go.Proofs.YtphgdofmjpdhaaaGreat
namespace Go.Proofs.YtphgdofmjpdhaaaGreat
open Go.RowKit
set_option maxRecDepth 100000
def Fit64 (n : Int) : Prop := -9223372036854775808 ≤ n ∧ n ≤ 9223372036854775807
def memThere (m : VMem) (at_ n : Int) : Bool := decide (n = 0 ∨ (0 < n ∧ 0 ≤ at_ ∧ at_ + n ≤ m.b.length))
def memCellAt (m : VMem) (at_ : Int) : Int := if memThere m at_ 8 then (if at_.tmod 8 = 0 then 0 else -23) else -9
def getC (l : List UInt8) : Int := wrap64 (valB (l.map fun b => (b.toNat : Int)))
def memFetch (m : VMem) (at_ : Int) : Int × Int := if memCellAt m at_ = 0 then (getC ((m.b.drop at_.toNat).take 8), 0) else (0, memCellAt m at_)
theorem mem_there (m : VMem) (at_ n : Int) (hm : m.b.length ≤ 9223372036854775807) (ha : Fit64 at_) (hn : Fit64 n) : PureC Tryz.prog 219 [eMem m, i64 at_, i64 n] (boo (memThere m at_ n)) := by
 unfold Fit64 at ha hn
 refine pW tG (rs := [.tmp 6]) Tryz.func219 rfl rfl rfl (by simp) (by simp) (fun B => ?_)
 refine zu2 ?_
 refine zp3 ?_
 refine Wb 9 rfl (fun hg1 => ?_) (fun hg1 => ?_)
 ·refine z6 ?_
  iterate 21 refine z6 ?_
  refine zs2 ?_
  refine zR ?_
  exact congrArg boo (by (simp only [memThere, i64w]; rw [Bool.eq_iff_iff]; simp only [dnL] at *; (try simp only [i64w, wrap64] at *); omega))
 ·refine zy3 ?_
  refine Wb 12 rfl (fun hg2 => ?_) (fun hg2 => ?_)
  ·refine zy4 ?_
   refine Wb 16 rfl (fun hg3 => ?_) (fun hg3 => ?_)
   ·refine zy5 ?_
    refine zy2 ?_
    refine Wb 23 rfl (fun hg4 => ?_) (fun hg4 => ?_)
    ·refine zy5 ?_
     refine zs5 ?_
     refine zR ?_
     exact congrArg boo (by (simp only [memThere, i64w]; rw [Bool.eq_iff_iff]; simp only [dnL] at *; (try simp only [i64w, wrap64] at *); omega))
    ·refine z6 ?_
     iterate 6 refine z6 ?_
     refine zs3 ?_
     refine zR ?_
     exact congrArg boo (by (simp only [memThere, i64w]; rw [Bool.eq_iff_iff]; simp only [dnL] at *; (try simp only [i64w, wrap64] at *); omega))
   ·refine z6 ?_
    iterate 4 refine z6 ?_
    refine zy2 ?_
    iterate 7 refine z6 ?_
    refine zs3 ?_
    refine zR ?_
    exact congrArg boo (by (simp only [memThere, i64w]; rw [Bool.eq_iff_iff]; simp only [dnL] at *; (try simp only [i64w, wrap64] at *); omega))
  ·refine z6 ?_
   refine z6 ?_
   refine zy2 ?_
   iterate 5 refine z6 ?_
   refine zy2 ?_
   iterate 7 refine z6 ?_
   refine zs3 ?_
   refine zR ?_
   exact congrArg boo (by (simp only [memThere, i64w]; rw [Bool.eq_iff_iff]; simp only [dnL] at *; (try simp only [i64w, wrap64] at *); omega))
theorem fit8 : Fit64 8 := by unfold Fit64; omega
theorem mem_cellAt (m : VMem) (at_ : Int) (hm : m.b.length ≤ 9223372036854775807) (ha : Fit64 at_) : PureC Tryz.prog 217 [eMem m, i64 at_] (i64 (memCellAt m at_)) := by
 refine pW tG (rs := [.tmp 4]) Tryz.func217 rfl rfl rfl (by simp) (by simp) (fun B => ?_)
 refine zu2 ?_
 refine Ws ?_
 refine Wl ?_
 refine zp2 ?_
 refine Wc rfl rfl (dC rfl Tryz.func219 rfl rfl ((mem_there m at_ 8 hm ha fit8) _)) ?_
 refine zs2 ?_
 refine Wi rfl (fun hi1 => ?_) (fun hi1 => ?_)
 ·refine zu1 ?_
  refine zR ?_
  simp_all [memCellAt, tup2, tup3, tup4, i64, boo, str]
 ·refine zu4 ?_
  refine Wi rfl (fun hi2 => ?_) (fun hi2 => ?_)
  ·refine zu1 ?_
   refine zR ?_
   simp_all [memCellAt, tup2, tup3, tup4, i64, boo, str]
  ·refine Wj ?_
   refine zu1 ?_
   refine zR ?_
   simp_all [memCellAt, tup2, tup3, tup4, i64, boo, str]
theorem mem_cell8 (m : VMem) (at_ : Int) (h : memCellAt m at_ = 0) (ha : Fit64 at_) (hm : m.b.length ≤ 140737488355328) : 0 ≤ at_ ∧ at_ + 8 ≤ m.b.length ∧ wrap64 (at_ + 8) = at_ + 8 := by
 unfold memCellAt memThere at h
 simp only [decide_eq_true_eq] at h
 split at h
 ·rename_i h0
  refine ⟨by omega, by omega, ?_⟩
  unfold wrap64 Fit64 at *; omega
 ·omega
theorem bytes_lies {c : Cx} {l : List UInt8} {b : Addr} {vs : List Value} (hrl : RepL c (l.flatMap cByte) vs) : vs = l.map (fun x => Value.int .u8 (x.toNat : Int)) := by
 rw [cByte_map] at hrl
 rw [repL_bytes hrl, List.map_map]
 rfl
theorem cell_of_get {f : FuncId} (l : List UInt8) (hl : l.length = 8) (H0 : ∀ (b o c : Nat) (xs : List Int) (w : World) (hl : xs.length = 8) (hb : ∀ x ∈ xs, 0 ≤ x ∧ x < 256) (hc : ∀ i, i < 8 → w.cell? ⟨b, o + i, none⟩ = some (.int .u8 (xs.getD i 0))), Calls Tryz.prog f #[.slice (some ⟨b, o, none⟩) 8 c] w fun e w' => e = .returned (.tuple #[.int .i64 (wrap64 (valB xs)), .int .i64 0]) ∧ w = w') :
  PureC Tryz.prog f [sq cByte l] (tup2 (i64 (getC l)) (i64 0)) := by
 intro H B σ w vs s hv
 match vs, hv with
 | [], hv => unfold RepL at hv; obtain ⟨u, us, h1, _⟩ := hv; cases h1
 | v :: vs, hv =>
  rw [repL_cons, repL_nil] at hv
  obtain ⟨hv, rfl⟩ := hv
  unfold sq at hv
  obtain ⟨ad, cap, ws, rfl, hle, hnil, hrl, hlies, _⟩ := rep_seq hv
  have hws := bytes_lies (b := default) hrl
  have hwl : ws.length = 8 := by rw [hws]; simpa using hl
  match ad, hnil, hlies with
  | none, hnil, _ => have := (hnil rfl).1; omega
  | some b, _, hlies =>
   have hl2 := (hlies b rfl).resolve_right (by rintro ⟨_, h3⟩; rw [h3] at hwl; simp at hwl)
   have hbe := lies_addr hl2
   rw [hbe, hl]
   refine Calls.mono (H0 b.block b.off cap (l.map fun x => (x.toNat : Int)) w (by simpa using hl) (fun x hx => ?_) (fun i hi => (hl2.2 i _ (by rw [hws, List.getElem?_map, List.getElem?_eq_getElem (by omega)]; simp [List.getD, show i < l.length by omega])).1)) ?_
   ·obtain ⟨y, _, rfl⟩ := List.mem_map.1 hx
    have := y.toNat_lt; omega
   rintro e w' ⟨rfl, rfl⟩
   refine ⟨_, σ, rfl, ?_, s, Step.refl _ _ _ _⟩
   unfold tup2 Rep
   exact ⟨[_, _], rfl, repL_cons.2 ⟨rep_val _ _, repL_cons.2 ⟨rep_val _ _, repL_nil.2 rfl⟩⟩⟩
theorem cell_get8 (l : List UInt8) (hl : l.length = 8) : PureC Tryz.prog 218 [sq cByte l] (tup2 (i64 (getC l)) (i64 0)) := cell_of_get l hl cell_Get
theorem len8 {m : VMem} {at_ : Int} (h0 : 0 ≤ at_) (h1 : at_ + 8 ≤ m.b.length) (h2 : wrap64 (at_ + 8) = at_ + 8) : ((m.b.take (IntKind.i64.wrap (at_ + 8)).toNat).drop at_.toNat).length = 8 := by
 rw [i64w, h2]; simp; omega
theorem sub8 {m : VMem} {at_ : Int} (h0 : 0 ≤ at_) (h1 : at_ + 8 ≤ m.b.length) (h2 : wrap64 (at_ + 8) = at_ + 8) : (m.b.take (IntKind.i64.wrap (at_ + 8)).toNat).drop at_.toNat = (m.b.drop at_.toNat).take 8 := by
 rw [i64w, h2, List.drop_take]; congr 1; omega
def tFetch (r : Int × Int) : PV := tup2 (i64 r.1) (i64 r.2)
@[simp] theorem flat_tFetch (r : Int × Int) : Flat (tFetch r) := by simp [tFetch]
theorem mem_Fetch (m : VMem) (at_ : Int) (hm : m.b.length ≤ 140737488355328) (ha : Fit64 at_) : PureC Tryz.prog 105 [eMem m, i64 at_] (tFetch (memFetch m at_)) := by
 have hF : memCellAt m at_ = 0 → 0 ≤ at_ ∧ at_ + 8 ≤ m.b.length ∧ wrap64 (at_ + 8) = at_ + 8 := fun h => mem_cell8 m at_ h ha hm
 refine pW tG (rs := [.tmp 4, .tmp 5]) Tryz.func105 rfl rfl rfl (by simp) (by simp) (fun B => ?_)
 refine zu3 ?_
 refine Ws ?_
 refine zp2 ?_
 refine Wc rfl rfl (dC rfl Tryz.func217 rfl rfl ((mem_cellAt m at_ (by omega) ha) _)) ?_
 refine zs1 ?_
 refine zu2 ?_
 refine Wi rfl (fun hi1 => ?_) (fun hi1 => ?_)
 ·refine zu3 ?_
  refine zR ?_
  simp_all [tFetch, memFetch, tup2, i64]
 ·have h0 : memCellAt m at_ = 0 := by simpa using hi1
  obtain ⟨k0, k1, k2⟩ := hF h0
  refine Wj ?_
  refine zp5 ?_
  refine z2 ?_ (q := (by rw [i64w, k2]; omega))
  refine Wa 18 rfl (sq_slice cByte 1 (fun _ => rfl) (by rw [i64w, k2]; omega)) ?_
  refine Wc rfl rfl (dC rfl Tryz.func218 rfl rfl ((cell_get8 _ (len8 k0 k1 k2)) _)) ?_
  refine zs4 ?_
  refine zR ?_
  (rw [sub8 k0 k1 k2]; simp [tFetch, memFetch, tup2, i64, h0])
end Go.Proofs.YtphgdofmjpdhaaaGreat
namespace Go.Proofs.YtphgdofmjpdhaaaGreat
open Go.RowKit
set_option maxRecDepth 100000
theorem rep_new_bytes {B : Nat → Nat → Prop} {H : List Ob} {σ : Nat → Option Nat} {w w' : World} (s : Sim B H σ w) (g : Grows w w') {xs : List Int} {b c : Nat} (hb : w.heap.size ≤ b) (hl : xs.length ≤ c) (hc : ∀ i, i < xs.length → w'.cell? ⟨b, i, none⟩ = some (.int .u8 (xs.getD i 0))) :
  Rep (cx B H σ w') (.seq xs.length (xs.map byteP) .any) (.slice (some ⟨b, 0, none⟩) xs.length c) := by
 unfold Rep
 refine ⟨_, c, xs.map (Value.int .u8), rfl, hl, (fun h => by cases h), ?_, fun a ha => ?_, trivial⟩
 ·clear hc hl
  induction xs with
  | nil => exact repL_nil.2 rfl
  | cons x l ih => exact repL_cons.2 ⟨rep_val _ _, ih⟩
 ·cases ha
  refine .inl ⟨rfl, fun j u hj => ⟨?_, ?_⟩⟩
  ·have hjl : j < xs.length := by have := lt_of_get hj; simpa using this
   show w'.cell? ⟨b, 0 + j, none⟩ = some u
   rw [Nat.zero_add, hc j hjl]
   rw [List.getElem?_map, List.getElem?_eq_getElem hjl] at hj
   simp only [Option.map_some, Option.some.injEq] at hj
   rw [← hj]; simp [List.getD, hjl]
  ·rintro (h | ⟨i, oi, h1, h2, h3⟩)
   ·have := s.base _ _ h; dsimp only at this; omega
   ·have hl : oi.live = true := by cases oi <;> first | rfl | cases h3
    have := (s.holds i oi h1).lt hl h2
    simp only [cx] at this; omega
theorem b8_rng (u : Nat) : ∀ x ∈ bytes8 u, 0 ≤ x ∧ x < 256 := by
 intro x hx
 simp only [bytes8, List.mem_cons, List.not_mem_nil, or_false] at hx
 omega
def putC (n : Int) : List UInt8 := (bytes8 (U n)).map fun x => UInt8.ofNat x.toNat
theorem putC_len (n : Int) : (putC n).length = 8 := rfl
theorem putC_row (n : Int) : PV.seq 8 ((bytes8 (U n)).map byteP) .any = sq cByte (putC n) := by
 unfold sq putC
 rw [cByte_map, List.map_map, List.map_map]
 have : ∀ x ∈ bytes8 (U n), byteP x = (byteP ∘ (fun b : UInt8 => (b.toNat : Int)) ∘ fun x => UInt8.ofNat x.toNat) x := by
  intro x hx
  have := b8_rng (U n) x hx
  simp only [Function.comp]
  rw [UInt8.toNat_ofNat']
  congr 1
  omega
 rw [List.map_congr_left this]
 rfl
theorem put_of_gives {f : FuncId} (n : Int) (h : ∀ w, Calls Tryz.prog f #[.int .i64 n] w (GivesBytes (bytes8 (U n)) w)) : PureC Tryz.prog f [i64 n] (sq cByte (putC n)) := by
 rw [← putC_row]
 intro H B σ w vs s hv
 have := repL_vals (l := [.int .i64 n]) hv
 subst this
 refine Calls.mono (h w) ?_
 rintro e w' ⟨b, c, rfl, hb, hl, hc, hbel⟩
 have g := Grows.of_below hbel
 obtain ⟨s', st⟩ := grow_sim s g
 exact ⟨_, σ, rfl, rep_new_bytes s g hb hl hc, s', st⟩
theorem cell_put8 (n : Int) : PureC Tryz.prog 221 [i64 n] (sq cByte (putC n)) := put_of_gives n (cell_Put n)
def laidB (l : List UInt8) (k : Nat) (b : List UInt8) : List UInt8 := l.take k ++ b ++ l.drop (k + b.length)
theorem laidB_len {l b : List UInt8} {k : Nat} (h : k + b.length ≤ l.length) : (laidB l k b).length = l.length := by simp [laidB]; omega
theorem splice_all {xs ys : List PV} (h : ys.length = xs.length) : splice xs 0 ys = ys := by simp [splice, h]
theorem cB_take (l : List UInt8) (k : Nat) : (l.flatMap cByte).take k = (l.take k).flatMap cByte := by
 have := flatMap_take cByte 1 (fun _ => rfl) k l
 rwa [Nat.mul_one] at this
theorem cB_drop (l : List UInt8) (k : Nat) : (l.flatMap cByte).drop k = (l.drop k).flatMap cByte := by
 have := flatMap_drop cByte 1 (fun _ => rfl) k l
 rwa [Nat.mul_one] at this
theorem cB_len (l : List UInt8) : (l.flatMap cByte).length = l.length := by rw [flatMap_len cByte 1 (fun _ => rfl), Nat.mul_one]
theorem laid_flat (l b : List UInt8) (k : Nat) : splice (l.flatMap cByte) k (b.flatMap cByte) = (laidB l k b).flatMap cByte := by
 unfold splice laidB
 rw [cB_take, cB_len, cB_drop, List.flatMap_append, List.flatMap_append]
theorem laid_copy {l b : List UInt8} {k c : Nat} (h : k + b.length ≤ l.length) (hc : c = if l.length = k then 0 else 0 + k * 1) : splice (l.flatMap cByte) c ((b.flatMap cByte).take (min b.length (l.length - k) * 1)) = (laidB l k b).flatMap cByte := by
 rw [Nat.min_eq_left (by omega), Nat.mul_one, List.take_of_length_le (by rw [cB_len]; exact Nat.le_refl _)]
 rw [← laid_flat]
 split at hc
 ·have : b = [] := List.eq_nil_of_length_eq_zero (by omega)
  subst this
  subst hc
  simp [splice]
 ·rw [hc]; congr 1; omega
theorem laid_zero {l : List UInt8} {d : TD} (hs : d.size = 1) (hz : d.zero.length = 1) {e : TypeId} : [Ob.cells (l.flatMap cByte) e] = [Ob.cells (splice (zerosPV (l.length : Int).toNat d) 0 (List.take (min l.length (l.length : Int).toNat * d.size) (List.flatMap cByte l))) e] := by
 rw [Int.toNat_natCast, Nat.min_self, hs, Nat.mul_one, List.take_of_length_le (by rw [cB_len]; exact Nat.le_refl _), splice_all (by rw [zerosPV_len _ _ (by rw [hs, hz]), cB_len, hs, Nat.mul_one])]
theorem laid_sq {l b : List UInt8} {k : Nat} (h : k + b.length ≤ l.length) : PV.seq (l.length : Int).toNat (((laidB l k b).flatMap cByte).take (laidB l k b).length) .any = sq cByte (laidB l k b) := by
 rw [cB_take, List.take_length, Int.toNat_natCast]
 unfold sq
 rw [laidB_len h]
theorem mem_laid (l : List UInt8) (at_ : Int) (b : List UInt8) (hl : l.length ≤ 1000000) (h0 : 0 ≤ at_) (h1 : at_ + b.length ≤ l.length) : PureC Tryz.prog 242 [sq cByte l, i64 at_, sq cByte b] (sq cByte (laidB l at_.toNat b)) := by
 refine pW tG (rs := [.tmp 6]) Tryz.func242 rfl rfl rfl (by simp) (by simp) (fun B => ?_)
 refine zu1 ?_
 refine zp2 ?_
 refine z2 ?_ (q := (by (simp_all; omega)))
 refine zs1 ?_
 refine zp2 ?_
 refine Wd rfl rfl (does_copy (lO tG rfl) rfl (lO tG rfl) rfl rfl rfl rfl (flatMap_len _ 1 (fun _ => rfl) _) (okC_flat _ (fun _ => rfl) _) (by rw [zerosPV_len _ _ rfl]; simp)) ?_
 refine WO_ob (H' := [.cells (l.flatMap cByte) 5]) (laid_zero rfl rfl) ?_
 refine Wn ?_
 refine zp2 ?_
 refine z2 ?_ (q := (by (simp_all; omega)))
 refine z1 ?_
 refine Wd rfl rfl (does_copy (lO tG rfl) rfl (lO tG rfl) rfl rfl rfl rfl (flatMap_len _ 1 (fun _ => rfl) _) (okC_flat _ (fun _ => rfl) _) (by rw [cB_len]; dsimp only; split <;> omega)) ?_
 refine WO_ob (H' := [.cells ((laidB l at_.toNat b).flatMap cByte) 5]) (congrArg (fun z => [Ob.cells z 5]) (laid_copy (by omega) rfl).symm) ?_
 refine Wn ?_
 refine zp1 ?_
 refine Wm 19 rfl (imp_arr_arw (Nat.le_refl _)) ?_
 refine WO_freeze 19 0 _ (laidB l at_.toNat b).length rfl rfl (by rw [cB_len]; exact Nat.le_refl _) ?_
 refine Wa 19 rfl (laid_sq (by omega)) ?_
 refine zs1 ?_
 refine zR ?_
 rfl
end Go.Proofs.YtphgdofmjpdhaaaGreat
namespace Go.Proofs.YtphgdofmjpdhaaaGreat
open Go.RowKit
set_option maxRecDepth 100000
structure MemOk (m : VMem) : Prop where
 b : m.b.length ≤ 1000000
 old : m.old.length ≤ 1000000
def memWrite (m : VMem) (at_ : Int) (b : List UInt8) : VMem × Int :=
 if memThere m at_ b.length then (if b = [] then (m, 0) else (⟨laidB m.b at_.toNat b, m.old ++ [⟨at_, (m.b.drop at_.toNat).take b.length⟩]⟩, 0)) else (m, -9)
def tMem (r : VMem × Int) : PV := tup2 (eMem r.1) (i64 r.2)
@[simp] theorem flat_tMem (r : VMem × Int) : Flat (tMem r) := by simp [tMem]
theorem fitN {n : Nat} (h : n ≤ 1000000) : Fit64 n := by unfold Fit64; omega
theorem there_in {m : VMem} {at_ : Int} {n : Nat} (h : memThere m at_ n = true) (h0 : n ≠ 0) : 0 ≤ at_ ∧ at_ + n ≤ m.b.length := by
 unfold memThere at h
 simp only [decide_eq_true_eq] at h
 omega
theorem wrap_in {x : Int} (h0 : 0 ≤ x) (h1 : x ≤ 1000000) : IntKind.i64.wrap x = x := by rw [i64w]; unfold wrap64; omega
theorem sub_row {l : List UInt8} {a b : Nat} : (l.take b).drop a = (l.drop a).take (b - a) := by rw [List.drop_take]
theorem cut_row {l : List UInt8} {x : Int} {n : Nat} (h0 : 0 ≤ x) (h : IntKind.i64.wrap (x + n) = x + n) : sq cByte ((l.take (IntKind.i64.wrap (x + n)).toNat).drop x.toNat) = sq cByte ((l.drop x.toNat).take n) := by
 rw [h, sub_row]; congr 2; omega
theorem memWrite_no {m : VMem} {at_ : Int} {b : List UInt8} (h : memThere m at_ b.length = false) : memWrite m at_ b = (m, -9) := by unfold memWrite; rw [h]; rfl
theorem memWrite_nil {m : VMem} {at_ : Int} {b : List UInt8} (h : memThere m at_ b.length = true) (h0 : b.length = 0) : memWrite m at_ b = (m, 0) := by unfold memWrite; rw [h, if_pos rfl, if_pos (List.eq_nil_of_length_eq_zero h0)]
theorem memWrite_yes {m : VMem} {at_ : Int} {b : List UInt8} (h : memThere m at_ b.length = true) (h0 : b.length ≠ 0) : memWrite m at_ b = (⟨laidB m.b at_.toNat b, m.old ++ [⟨at_, (m.b.drop at_.toNat).take b.length⟩]⟩, 0) := by
 unfold memWrite; rw [h, if_pos rfl, if_neg (fun e => h0 (by rw [e]; rfl))]
theorem mem_Write (m : VMem) (at_ : Int) (b : List UInt8) (hm : MemOk m) (ha : Fit64 at_) (hb : b.length ≤ 1000000) : PureC Tryz.prog 162 [eMem m, i64 at_, sq cByte b] (tMem (memWrite m at_ b)) := by
 have hm1 := hm.b
 have hm2 := hm.old
 refine pW tG (rs := [.cell 6 27, .tmp 7]) Tryz.func162 rfl rfl rfl (by simp) (by simp) (fun B => ?_)
 refine zu3 ?_
 refine Ws ?_
 refine zp4 ?_
 refine Wc rfl rfl (dC rfl Tryz.func219 rfl rfl ((mem_there m at_ b.length (by omega) ha (fitN hb)) _)) ?_
 refine zs1 ?_
 refine Wi rfl (fun hi1 => ?_) (fun hi1 => ?_)
 ·rw [memWrite_no (by simpa using hi1)]
  refine zu3 ?_
  refine zR ?_
  rfl
 ·have ht : memThere m at_ b.length = true := by simpa using hi1
  refine Wj ?_
  refine Ws ?_
  refine zu3 ?_
  refine Wi rfl (fun hi2 => ?_) (fun hi2 => ?_)
  ·rw [memWrite_nil ht (by simpa using hi2)]
   refine zu3 ?_
   refine zR ?_
   rfl
  ·have hne : b.length ≠ 0 := by simpa using hi2
   obtain ⟨k0, k1⟩ := there_in ht hne
   have k2 : IntKind.i64.wrap (at_ + b.length) = at_ + b.length := wrap_in (by omega) (by omega)
   refine Wj ?_
   refine Ws ?_
   refine W_drawU [0, 1, 0, 0, 0, 1, 0, 0, 0, 0, 0, 0, 0, 0, 0, 0, 0, 3] [0, 1, 2, 3, 4, 5, 6, 7, 8, 9, 10, 11, 12, 13, 14, 15, 16, 17] mG rfl (by kernel_rfl) ?_
   refine z3 ?_
   refine z5 ?_
   refine Xc rfl rfl rfl rfl (fun _ => dC rfl Tryz.func241 rfl rfl ((clip_patches m.old (by omega)) _)) ?_
   iterate 2 refine z3 ?_
   refine z5 ?_
   iterate 5 refine z3 ?_
   refine z4 ?_ (q := (by rw [k2]; omega))
   refine Xa 30 rfl (sq_slice cByte 1 (fun _ => rfl) (by rw [k2]; omega)) ?_
   refine Xc rfl rfl rfl rfl (fun _ => dC rfl Tryz.func235 rfl rfl ((bytes_Clone _ (by simp; omega)) _)) ?_
   refine Xa 31 rfl (cut_row k0 k2) ?_
   iterate 2 refine z3 ?_
   refine Xa 33 rfl ((show PV.seq 1 _ .clip = .seq (List.length [(⟨at_, (m.b.drop at_.toNat).take b.length⟩ : VPatch)]) (List.flatMap cPatch [(⟨at_, (m.b.drop at_.toNat).take b.length⟩ : VPatch)]) .clip from rfl)) ?_
   refine WU_does0 rfl rfl rfl rfl (fun _ => does_append_drawn (lO tG rfl) rfl (lO tG rfl) (lO tG rfl) rfl rfl (by exact ⟨_, rfl⟩) (by exact ⟨rfl, rfl, flatMap_len _ 2 (fun _ => rfl) _, okC_flat _ (fun _ => rfl) _⟩) (by exact flatMap_len _ 2 (fun _ => rfl) _) (by ((simp_all; omega))) (by ((simp_all; omega))) (by exact flatL_app (flatL_map' (fun x => by simp) _) (flatL_map' (fun x => by simp) _))) ?_
   refine Xa 34 rfl (sq_append cPatch) ?_
   refine z3 ?_
   refine WU_ev3 tG rfl rfl rfl rfl rfl trivial ?_
   refine WU_nil ?_
   refine zp4 ?_
   refine Wc rfl rfl (dC rfl Tryz.func242 rfl rfl ((mem_laid _ _ _ hm1 k0 k1) _)) ?_
   refine zs2 ?_
   refine zu3 ?_
   refine zR ?_
   rw [memWrite_yes ht hne]; rfl
end Go.Proofs.YtphgdofmjpdhaaaGreat
namespace Go.Proofs.YtphgdofmjpdhaaaGreat
open Go.RowKit
set_option maxRecDepth 100000
def loB (n : Int) : UInt8 := UInt8.ofNat (n % 256).toNat
theorem loB_wrap (n : Int) : IntKind.u8.wrap n = ((loB n).toNat : Int) := by
 unfold loB
 rw [UInt8.toNat_ofNat']
 simp [IntKind.wrap, IntKind.bits, IntKind.signed]
 omega
theorem loB_pv (n : Int) : PV.val (.int .u8 (IntKind.u8.wrap n)) = .val (.int .u8 ((loB n).toNat : Int)) := by rw [loB_wrap]
def memStore (m : VMem) (at_ n : Int) : VMem × Int := if memCellAt m at_ = 0 then memWrite m at_ (putC n) else (m, memCellAt m at_)
def memStoreByte (m : VMem) (at_ n : Int) : VMem × Int := memWrite m at_ [loB n]
def memFetchByte (m : VMem) (at_ : Int) : Int × Int := if memThere m at_ 1 then (((m.b.getD at_.toNat 0).toNat : Int), 0) else (0, -9)
def memText (m : VMem) (at_ n : Int) : List UInt8 × Int := if memThere m at_ n then ((m.b.drop at_.toNat).take n.toNat, 0) else ([], -9)
def memMove (m : VMem) (x to_ n : Int) : VMem × Int := if (memText m x n).2 = 0 then memWrite m to_ (memText m x n).1 else (m, (memText m x n).2)
def memFill (m : VMem) (at_ n c : Int) : VMem × Int := if memThere m at_ n then memWrite m at_ (List.replicate n.toNat (loB c)) else (m, -9)
def tText (r : List UInt8 × Int) : PV := tup2 (sq cByte r.1) (i64 r.2)
@[simp] theorem flat_tText (r : List UInt8 × Int) : Flat (tText r) := by simp [tText]
theorem mem_Store (m : VMem) (at_ n : Int) (hm : MemOk m) (ha : Fit64 at_) : PureC Tryz.prog 109 [eMem m, i64 at_, i64 n] (tMem (memStore m at_ n)) := by
 have hm1 := hm.b
 have hm2 := hm.old
 refine pW tG (rs := [.cell 6 27, .tmp 7]) Tryz.func109 rfl rfl rfl (by simp) (by simp) (fun B => ?_)
 refine zu3 ?_
 refine Ws ?_
 refine zp2 ?_
 refine Wc rfl rfl (dC rfl Tryz.func217 rfl rfl ((mem_cellAt m at_ (by omega) ha) _)) ?_
 refine zs1 ?_
 refine zu2 ?_
 refine Wi rfl (fun hi1 => ?_) (fun hi1 => ?_)
 ·have h0 : memCellAt m at_ ≠ 0 := by simpa using hi1
  refine zu4 ?_
  refine zR ?_
  rw [memStore, if_neg h0]; rfl
 ·have h0 : memCellAt m at_ = 0 := by simpa using hi1
  refine Wj ?_
  refine Ws ?_
  refine W_drawU [1, 0, 0, 0, 0, 0, 0, 3, 0] [0, 1, 2, 3, 4, 5, 6, 7, 8] mG rfl (by kernel_rfl) ?_
  refine z5 ?_
  iterate 2 refine z3 ?_
  refine Xc rfl rfl rfl rfl (fun _ => dC rfl Tryz.func221 rfl rfl ((cell_put8 n) _)) ?_
  refine Xc rfl rfl rfl rfl (fun _ => dC rfl Tryz.func162 rfl rfl ((mem_Write m at_ (putC n) hm ha (by rw [putC_len]; omega)) _)) ?_
  iterate 2 refine z3 ?_
  refine WU_ev3 tG rfl rfl rfl rfl rfl trivial ?_
  refine z3 ?_
  refine WU_nil ?_
  refine zR ?_
  rw [memStore, if_pos h0]; rfl
theorem mem_StoreByte (m : VMem) (at_ n : Int) (hm : MemOk m) (ha : Fit64 at_) : PureC Tryz.prog 111 [eMem m, i64 at_, i64 n] (tMem (memStoreByte m at_ n)) := by
 refine pW tG (rs := [.cell 6 27, .tmp 7]) Tryz.func111 rfl rfl rfl (by simp) (by simp) (fun B => ?_)
 refine zu3 ?_
 refine zp4 ?_
 refine Wa 11 rfl (loB_pv n) ?_
 refine z1 ?_
 refine Wa 12 rfl (bsL cByte [_] rfl rfl) ?_
 refine Wc rfl rfl (dC rfl Tryz.func162 rfl rfl ((mem_Write m at_ [loB n] hm ha (by simp)) _)) ?_
 refine zs4 ?_
 refine zR ?_
 rfl
theorem wrapB (b : UInt8) : IntKind.i64.wrap (b.toNat : Int) = b.toNat := by have := b.toNat_lt; rw [i64w]; unfold wrap64; omega
theorem mem_FetchByte (m : VMem) (at_ : Int) (hm : MemOk m) (ha : Fit64 at_) : PureC Tryz.prog 106 [eMem m, i64 at_] (tFetch (memFetchByte m at_)) := by
 have hm1 := hm.b
 refine pW tG (rs := [.tmp 4, .tmp 5]) Tryz.func106 rfl rfl rfl (by simp) (by simp) (fun B => ?_)
 refine zu3 ?_
 refine Ws ?_
 refine zp2 ?_
 refine Wc rfl rfl (dC rfl Tryz.func219 rfl rfl ((mem_there m at_ 1 (by omega) ha (fitN (n := 1) (by omega))) _)) ?_
 refine zs1 ?_
 refine Wi rfl (fun hi1 => ?_) (fun hi1 => ?_)
 ·refine zu2 ?_
  refine zR ?_
  rw [memFetchByte, if_neg (by simpa using hi1)]; rfl
 ·have ht : memThere m at_ 1 = true := by simpa using hi1
  obtain ⟨k0, k1⟩ := there_in (n := 1) ht (by omega)
  refine Wj ?_
  refine zp3 ?_
  refine Wv tG rfl rfl rfl (by omega) (iR cByte 1 (fun _ => rfl) 0 (by omega)) ?_
  refine zs4 ?_
  refine zR ?_
  rw [memFetchByte, if_pos ht]; exact congrArg (fun z => tup2 (i64 z) (i64 0)) (wrapB _)
theorem thereN {m : VMem} {at_ n : Int} (h : memThere m at_ n = true) (h0 : n ≠ 0) : 0 < n ∧ 0 ≤ at_ ∧ at_ + n ≤ m.b.length := by
 unfold memThere at h
 simp only [decide_eq_true_eq] at h
 omega
theorem cut_rowI {l : List UInt8} {x n : Int} (h0 : 0 ≤ x) (h1 : 0 ≤ n) (h : IntKind.i64.wrap (x + n) = x + n) : sq cByte ((l.take (IntKind.i64.wrap (x + n)).toNat).drop x.toNat) = sq cByte ((l.drop x.toNat).take n.toNat) := by
 rw [h, sub_row]; congr 2; omega
theorem mem_Text (m : VMem) (at_ n : Int) (hm : MemOk m) (ha : Fit64 at_) (hn : Fit64 n) : PureC Tryz.prog 147 [eMem m, i64 at_, i64 n] (tText (memText m at_ n)) := by
 have hm1 := hm.b
 refine pW tG (rs := [.tmp 6, .tmp 7]) Tryz.func147 rfl rfl rfl (by simp) (by simp) (fun B => ?_)
 refine zu3 ?_
 refine Ws ?_
 refine zp3 ?_
 refine Wc rfl rfl (dC rfl Tryz.func219 rfl rfl ((mem_there m at_ n (by omega) ha hn) _)) ?_
 refine zs1 ?_
 refine Wi rfl (fun hi1 => ?_) (fun hi1 => ?_)
 ·have ht : ¬ memThere m at_ n = true := by simpa using hi1
  refine zu2 ?_
  refine zR ?_
  rw [memText, if_neg ht]; rfl
 ·have ht : memThere m at_ n = true := by simpa using hi1
  refine Wj ?_
  refine Ws ?_
  refine zu2 ?_
  refine Wi rfl (fun hi2 => ?_) (fun hi2 => ?_)
  ·have hz : n = 0 := by simpa using hi2
   refine zu2 ?_
   refine zR ?_
   rw [memText, if_pos ht, hz]; rfl
  ·obtain ⟨k0, k1, k3⟩ := thereN ht (by simpa using hi2)
   have k2 : IntKind.i64.wrap (at_ + n) = at_ + n := wrap_in (by omega) (by omega)
   refine Wj ?_
   refine zp5 ?_
   refine z1 ?_
   refine z2 ?_ (q := (by rw [k2]; omega))
   refine Wa 21 rfl (sq_slice cByte 1 (fun _ => rfl) (by rw [k2]; omega)) ?_
   refine Wa 21 rfl (cut_rowI k1 (by omega) k2) ?_
   refine Wc rfl rfl (dC rfl Tryz.func235 rfl rfl ((bytes_Clone _ (by simp; omega)) _)) ?_
   refine zs2 ?_
   refine zR ?_
   rw [memText, if_pos ht]; rfl
theorem memText_len {m : VMem} {at_ n : Int} (hm : MemOk m) : (memText m at_ n).1.length ≤ 1000000 := by
 have := hm.b
 unfold memText
 split
 ·simp; omega
 ·simp
theorem mem_Move (m : VMem) (x to_ n : Int) (hm : MemOk m) (hx : Fit64 x) (ht : Fit64 to_) (hn : Fit64 n) : PureC Tryz.prog 118 [eMem m, i64 x, i64 to_, i64 n] (tMem (memMove m x to_ n)) := by
 refine pW tG (rs := [.cell 8 27, .tmp 9]) Tryz.func118 rfl rfl rfl (by simp) (by simp) (fun B => ?_)
 refine zu3 ?_
 refine zp3 ?_
 refine Wc rfl rfl (dC rfl Tryz.func147 rfl rfl ((mem_Text m x n hm hx hn) _)) ?_
 refine zs5 ?_
 refine Ws ?_
 refine zu2 ?_
 refine Wi rfl (fun hi1 => ?_) (fun hi1 => ?_)
 ·have h0 : ¬ (memText m x n).2 = 0 := by simpa using hi1
  refine zu4 ?_
  refine zR ?_
  rw [memMove, if_neg h0]; rfl
 ·have h0 : (memText m x n).2 = 0 := by simpa using hi1
  refine Wj ?_
  refine zp3 ?_
  refine Wc rfl rfl (dC rfl Tryz.func162 rfl rfl ((mem_Write m to_ _ hm ht (memText_len hm)) _)) ?_
  refine zs4 ?_
  refine zR ?_
  rw [memMove, if_pos h0]; rfl
end Go.Proofs.YtphgdofmjpdhaaaGreat
namespace Go.Proofs.YtphgdofmjpdhaaaGreat
open Go.RowKit
set_option maxRecDepth 100000
set_option maxHeartbeats 4000000
def picHold (p : VPic) (c : Int) : VPic × Int := if p.on = true ∧ p.b.length < 130 then (⟨p.b ++ [loB c], p.on⟩, 0) else (p, -17)
def picSign (p : VPic) (n : Int) : VPic × Int := if 0 ≤ n then (p, 0) else picHold p 45
def tPic (r : VPic × Int) : PV := tup2 (ePic r.1) (i64 r.2)
@[simp] theorem flat_tPic (r : VPic × Int) : Flat (tPic r) := by simp [tPic]
theorem pic_Begin : PureC Tryz.prog 153 [] (ePic ⟨[], true⟩) := by
 refine pW tG (rs := [.cell 0 32]) Tryz.func153 rfl rfl rfl (by simp) (by simp) (fun B => ?_)
 refine zu1 ?_
 refine zu2 ?_
 refine zR ?_
 rfl
theorem picHold_no {p : VPic} {c : Int} (h : ¬ (p.on = true ∧ p.b.length < 130)) : picHold p c = (p, -17) := by unfold picHold; rw [if_neg h]
theorem picHold_yes {p : VPic} {c : Int} (h : p.on = true ∧ p.b.length < 130) : picHold p c = (⟨p.b ++ [loB c], p.on⟩, 0) := by unfold picHold; rw [if_pos h]
theorem pic_Hold (p : VPic) (c : Int) (hp : p.b.length ≤ 1000000) : PureC Tryz.prog 158 [ePic p, i64 c] (tPic (picHold p c)) := by
 refine pW tG (rs := [.cell 4 32, .tmp 5]) Tryz.func158 rfl rfl rfl (by simp) (by simp) (fun B => ?_)
 refine zu3 ?_
 refine Ws ?_
 refine zp4 ?_
 refine Wb 10 rfl (fun hg1 => ?_) (fun hg1 => ?_)
 ·refine z6 ?_
  iterate 3 refine z6 ?_
  refine zs1 ?_
  refine Wt rfl rfl ?_
  refine zu3 ?_
  refine zR ?_
  have hno : ¬ (p.on = true ∧ p.b.length < 130) := by rintro ⟨q1, q2⟩; (try simp only [dnL] at *); (try simp_all) <;> omega
  rw [picHold_no hno]; rfl
 ·refine zs5 ?_
  refine Wi rfl (fun hi1 => ?_) (fun hi1 => ?_)
  ·refine zu3 ?_
   refine zR ?_
   have hno : ¬ (p.on = true ∧ p.b.length < 130) := by rintro ⟨q1, q2⟩; (try simp only [dnL] at *); (try simp_all) <;> omega
   rw [picHold_no hno]; rfl
  ·refine Wj ?_
   refine zu4 ?_
   refine zp4 ?_
   refine z2 ?_ (q := (by (simp_all; done)))
   refine Wa 24 rfl (sq_slice cByte 1 (fun _ => rfl) (by omega)) ?_
   refine Wa 24 rfl ((show _ = sqc cByte p.b by simp [sqc]; rfl)) ?_
   refine zy2 ?_
   refine Wa 26 rfl (loB_pv c) ?_
   refine z1 ?_
   refine Wa 27 rfl (bsL cByte [_] rfl rfl) ?_
   refine Wd rfl rfl (does_append_clip (lO tG rfl) rfl (lO tG rfl) (lO tG rfl) rfl rfl (by exact ⟨_, rfl⟩) (by exact ⟨rfl, rfl, flatMap_len _ 1 (fun _ => rfl) _, okC_flat _ (fun _ => rfl) _⟩) (by exact flatMap_len _ 1 (fun _ => rfl) _) (by ((simp_all; omega))) (by ((simp_all; omega)))) ?_
   refine Wa 28 rfl (sq_append cByte) ?_
   refine zs2 ?_
   refine zu3 ?_
   refine zR ?_
   have hon : p.on = true := by (try simp only [dnL] at *); simp_all
   have hyes : p.on = true ∧ p.b.length < 130 := ⟨hon, by (try simp only [dnL] at *); omega⟩
   rw [picHold_yes hyes]; rfl
end Go.Proofs.YtphgdofmjpdhaaaGreat
namespace Go.Proofs.YtphgdofmjpdhaaaGreat
open Go.RowKit
set_option maxRecDepth 100000
set_option maxHeartbeats 4000000
inductive Op1 where
 | abs
 | neg
 | inv
 | inc
 | dec
 | dbl
 | half
 | cells
 | algn
 | cellp
 | eq0
 | lt0
 | ne0
 | gt0
deriving DecidableEq
def names1 : List (Str × Op1) := [([65, 66, 83], .abs), ([78, 69, 71, 65, 84, 69], .neg), ([73, 78, 86, 69, 82, 84], .inv), ([49, 43], .inc), ([49, 45], .dec), ([50, 42], .dbl), ([50, 47], .half), ([67, 69, 76, 76, 83], .cells), ([65, 76, 73, 71, 78, 69, 68], .algn), ([67, 69, 76, 76, 43], .cellp), ([48, 61], .eq0), ([48, 60], .lt0), ([48, 60, 62], .ne0), ([48, 62], .gt0)]
def op1 (s : Str) : Option Op1 := names1.lookup s
def flagS (b : Bool) : Int := if b then -1 else 0
def one (o : Op1) (a : Int) : Int := match o with
 | .abs => if 0 ≤ a then a else wrap64 (-a)
 | .neg => wrap64 (-a)
 | .inv => -1 - a
 | .inc => wrap64 (a + 1)
 | .dec => wrap64 (a - 1)
 | .dbl => wrap64 (a + a)
 | .half => a / 2
 | .cells => wrap64 (a * 8)
 | .algn => if a % 8 = 0 then a else wrap64 (a - a % 8 + 8)
 | .cellp => wrap64 (a + 8)
 | .eq0 => flagS (decide (a = 0))
 | .lt0 => flagS (decide (a < 0))
 | .ne0 => flagS (!decide (a = 0))
 | .gt0 => flagS (decide (0 < a))
def oneS (name : Str) (a : Int) : Int × Bool := match op1 name with
 | some o => (one o a, true)
 | none => (0, false)
def tOne (r : Int × Bool) : PV := tup2 (i64 r.1) (boo r.2)
@[simp] theorem flat_tOne (r : Int × Bool) : Flat (tOne r) := by simp [tOne]
theorem oneS_of {name : Str} {o : Op1} {a : Int} (h : op1 name = some o) : oneS name a = (one o a, true) := by unfold oneS; rw [h]
theorem oneS_no {name : Str} {a : Int} (h : op1 name = none) : oneS name a = (0, false) := by unfold oneS; rw [h]
theorem op1_none {s : Str} (h0 : s ≠ [65, 66, 83]) (h1 : s ≠ [78, 69, 71, 65, 84, 69]) (h2 : s ≠ [73, 78, 86, 69, 82, 84]) (h3 : s ≠ [49, 43]) (h4 : s ≠ [49, 45]) (h5 : s ≠ [50, 42]) (h6 : s ≠ [50, 47]) (h7 : s ≠ [67, 69, 76, 76, 83]) (h8 : s ≠ [65, 76, 73, 71, 78, 69, 68]) (h9 : s ≠ [67, 69, 76, 76, 43]) (h10 : s ≠ [48, 61]) (h11 : s ≠ [48, 60]) (h12 : s ≠ [48, 60, 62]) (h13 : s ≠ [48, 62]) : op1 s = none := by
 unfold op1 names1
 simp only [List.lookup]
 simp [beq_eq_false_iff_ne.2 h0, beq_eq_false_iff_ne.2 h1, beq_eq_false_iff_ne.2 h2, beq_eq_false_iff_ne.2 h3, beq_eq_false_iff_ne.2 h4, beq_eq_false_iff_ne.2 h5, beq_eq_false_iff_ne.2 h6, beq_eq_false_iff_ne.2 h7, beq_eq_false_iff_ne.2 h8, beq_eq_false_iff_ne.2 h9, beq_eq_false_iff_ne.2 h10, beq_eq_false_iff_ne.2 h11, beq_eq_false_iff_ne.2 h12, beq_eq_false_iff_ne.2 h13]
theorem ar_neg (a : Int) : wrap64 (0 - a) = wrap64 (-a) := congrArg wrap64 (by omega)
theorem ar_inv {a : Int} (ha : -9223372036854775808 ≤ a ∧ a ≤ 9223372036854775807) : wrap64 ((BitVec.ofInt 64 (-1) ^^^ BitVec.ofInt 64 a).toNat : Int) = -1 - a := by
 have h1 : BitVec.ofInt 64 (-1) = BitVec.allOnes 64 := by decide
 rw [h1, BitVec.allOnes_xor, BitVec.toNat_not, BitVec.toNat_ofInt]
 have h2 : ((2 ^ 64 : Nat) : Int) = 18446744073709551616 := by decide
 have h3 : (2 ^ 64 : Nat) = 18446744073709551616 := by decide
 rw [h2, h3]
 unfold wrap64
 omega
theorem ar_dbl (a : Int) : wrap64 (a * 2 ^ min (Int.toNat 1) IntKind.i64.bits) = wrap64 (a + a) := by
 have : (2 : Int) ^ min (Int.toNat 1) IntKind.i64.bits = 2 := rfl
 rw [this]; exact congrArg wrap64 (by omega)
theorem ar_half (a : Int) : a.fdiv (2 ^ min (Int.toNat 1) IntKind.i64.bits) = a / 2 := by
 have : (2 : Int) ^ min (Int.toNat 1) IntKind.i64.bits = 2 := rfl
 rw [this, Int.fdiv_eq_ediv_of_nonneg _ (by omega)]
theorem bv_split (x m : BitVec 64) : (x &&& m) + (x &&& ~~~ m) = x := by
 have h1 : (x &&& m) &&& (x &&& ~~~ m) = 0#64 := by
  ext i hi
  simp only [BitVec.getElem_and, BitVec.getElem_not, BitVec.getElem_zero]
  cases x[i] <;> cases m[i] <;> rfl
 rw [BitVec.add_eq_or_of_and_eq_zero _ _ h1]
 ext i hi
 simp only [BitVec.getElem_or, BitVec.getElem_and, BitVec.getElem_not]
 cases x[i] <;> cases m[i] <;> rfl
theorem bv_low (x : BitVec 64) : (x &&& ~~~ 7#64).toNat = x.toNat - x.toNat % 8 := by
 have h2 := bv_split x 7#64
 have h4 := congrArg BitVec.toNat h2
 rw [BitVec.toNat_add] at h4
 have h5 : (x &&& 7#64).toNat = x.toNat % 8 := by rw [BitVec.toNat_and]; exact Nat.and_two_pow_sub_one_eq_mod x.toNat 3
 have h6 : (x &&& ~~~ 7#64).toNat ≤ x.toNat := by rw [BitVec.toNat_and]; exact Nat.and_le_left
 have h7 : (2 ^ 64 : Nat) = 18446744073709551616 := by decide
 have h8 := x.isLt
 rw [h5] at h4
 rw [h7] at h4 h8
 omega
theorem ar_algn {a : Int} (ha : -9223372036854775808 ≤ a ∧ a ≤ 9223372036854775807) : wrap64 ((BitVec.ofInt 64 (IntKind.i64.wrap (IntKind.i64.wrap (a + 8) - 1)) &&& ~~~ BitVec.ofInt 64 7).toNat : Int) = if a % 8 = 0 then a else wrap64 (a - a % 8 + 8) := by
 have h1 : BitVec.ofInt 64 7 = 7#64 := by decide
 rw [h1, bv_low, BitVec.toNat_ofInt]
 have h2 : ((2 ^ 64 : Nat) : Int) = 18446744073709551616 := by decide
 rw [h2, i64w, i64w]
 unfold wrap64
 split <;> omega
theorem pv_one {x y : Int} (h : x = y) : tup2 (.val (.int .i64 x)) (.val (.bool true)) = tOne (y, true) := by rw [h]; rfl
theorem alu_flag (b : Bool) : PureC Tryz.prog 207 [boo b] (i64 (flagS b)) := by
 refine pW tG (rs := [.tmp 2]) Tryz.func207 rfl rfl rfl (by simp) (by simp) (fun B => ?_)
 refine zu1 ?_
 refine Ws ?_
 refine zu1 ?_
 refine Wi rfl (fun hi1 => ?_) (fun hi1 => ?_)
 ·refine zu1 ?_
  refine zR ?_
  simp_all [flagS, i64]
 ·refine Wj ?_
  refine zu1 ?_
  refine zR ?_
  simp_all [flagS, i64]
theorem alu_asked1 (b : Bool) : PureC Tryz.prog 209 [boo b] (tOne (flagS b, true)) := by
 refine pW tG (rs := [.tmp 2, .tmp 3]) Tryz.func209 rfl rfl rfl (by simp) (by simp) (fun B => ?_)
 refine zu2 ?_
 refine zp1 ?_
 refine Wc rfl rfl (dC rfl Tryz.func207 rfl rfl ((alu_flag b) _)) ?_
 refine zs2 ?_
 refine zR ?_
 rfl
def askS (name : Str) (a : Int) : Int × Bool := if name = [48, 61] then (one .eq0 a, true) else if name = [48, 60] then (one .lt0 a, true) else if name = [48, 60, 62] then (one .ne0 a, true) else if name = [48, 62] then (one .gt0 a, true) else (0, false)
theorem askS_one {s : Str} {a : Int} (h0 : s ≠ [65, 66, 83]) (h1 : s ≠ [78, 69, 71, 65, 84, 69]) (h2 : s ≠ [73, 78, 86, 69, 82, 84]) (h3 : s ≠ [49, 43]) (h4 : s ≠ [49, 45]) (h5 : s ≠ [50, 42]) (h6 : s ≠ [50, 47]) (h7 : s ≠ [67, 69, 76, 76, 83]) (h8 : s ≠ [65, 76, 73, 71, 78, 69, 68]) (h9 : s ≠ [67, 69, 76, 76, 43]) : askS s a = oneS s a := by
 unfold askS
 by_cases h10 : s = [48, 61]
 ·subst h10; rfl
 rw [if_neg h10]
 by_cases h11 : s = [48, 60]
 ·subst h11; rfl
 rw [if_neg h11]
 by_cases h12 : s = [48, 60, 62]
 ·subst h12; rfl
 rw [if_neg h12]
 by_cases h13 : s = [48, 62]
 ·subst h13; rfl
 rw [if_neg h13]
 exact (oneS_no (op1_none h0 h1 h2 h3 h4 h5 h6 h7 h8 h9 h10 h11 h12 h13)).symm
theorem alu_asked (name : Str) (a : Int) : PureC Tryz.prog 84 [str name, i64 a] (tOne (askS name a)) := by
 refine pW tG (rs := [.tmp 4, .tmp 5]) Tryz.func84 rfl rfl rfl (by simp) (by simp) (fun B => ?_)
 refine zu2 ?_
 refine zu1 ?_
 refine Ws ?_
 refine zu1 ?_
 refine Wl ?_
 refine zp1 ?_
 refine Wa 9 rfl (str_eql _ _) ?_
 refine zs1 ?_
 refine Wi rfl (fun hi1 => ?_) (fun hi1 => ?_)
 ·obtain rfl := oT hi1
  refine zp3 ?_
  refine Wc rfl rfl (doesCWv rfl rfl Tryz.func209 rfl rfl (alu_asked1 _ _)) ?_
  refine zs4 ?_
  refine zR ?_
  exact congrArg tOne (Prod.ext (congrArg flagS (by rfl)) rfl)
 ·refine zp1 ?_
  refine Wa 17 rfl (str_eql _ _) ?_
  refine zs1 ?_
  refine Wi rfl (fun hi2 => ?_) (fun hi2 => ?_)
  ·obtain rfl := oT hi2
   refine zp3 ?_
   refine Wc rfl rfl (doesCWv rfl rfl Tryz.func209 rfl rfl (alu_asked1 _ _)) ?_
   refine zs4 ?_
   refine zR ?_
   exact congrArg tOne (Prod.ext (congrArg flagS (by rfl)) rfl)
  ·refine zp1 ?_
   refine Wa 25 rfl (str_eql _ _) ?_
   refine zs1 ?_
   refine Wi rfl (fun hi3 => ?_) (fun hi3 => ?_)
   ·obtain rfl := oT hi3
    refine zp3 ?_
    refine Wc rfl rfl (doesCWv rfl rfl Tryz.func209 rfl rfl (alu_asked1 _ _)) ?_
    refine zs4 ?_
    refine zR ?_
    exact congrArg tOne (Prod.ext (congrArg flagS (by rfl)) rfl)
   ·refine zp1 ?_
    refine Wa 33 rfl (str_eql _ _) ?_
    refine zs1 ?_
    refine Wi rfl (fun hi4 => ?_) (fun hi4 => ?_)
    ·obtain rfl := oT hi4
     refine zp3 ?_
     refine Wc rfl rfl (doesCWv rfl rfl Tryz.func209 rfl rfl (alu_asked1 _ _)) ?_
     refine zs4 ?_
     refine zR ?_
     exact congrArg tOne (Prod.ext (congrArg flagS (by rfl)) rfl)
    ·refine Wj ?_
     refine zu2 ?_
     refine zR ?_
     have h1 := oF hi1
     have h2 := oF hi2
     have h3 := oF hi3
     have h4 := oF hi4
     rw [askS, if_neg h1, if_neg h2, if_neg h3, if_neg h4]; rfl
theorem alu_One (name : Str) (a : Int) (ha : -9223372036854775808 ≤ a ∧ a ≤ 9223372036854775807) : PureC Tryz.prog 54 [str name, i64 a] (tOne (oneS name a)) := by
 refine pW tG (rs := [.tmp 4, .tmp 5]) Tryz.func54 rfl rfl rfl (by simp) (by simp) (fun B => ?_)
 refine zu2 ?_
 refine Ws ?_
 refine zu1 ?_
 refine Wl ?_
 refine Ws ?_
 refine Wl ?_
 refine Ws ?_
 refine Wl ?_
 refine Ws ?_
 refine Wl ?_
 refine Ws ?_
 refine Wl ?_
 refine Ws ?_
 refine Wl ?_
 refine Ws ?_
 refine Wl ?_
 refine Ws ?_
 refine Wl ?_
 refine Ws ?_
 refine Wl ?_
 refine Ws ?_
 refine Wl ?_
 refine Ws ?_
 refine Wl ?_
 iterate 2 refine Ws ?_
 refine zp1 ?_
 refine Wa 8 rfl (str_eql _ _) ?_
 refine zs1 ?_
 refine Wi rfl (fun hi1 => ?_) (fun hi1 => ?_)
 ·obtain rfl := oT hi1
  refine W_exit ?_
  refine zu2 ?_
  refine Wi rfl (fun hi2 => ?_) (fun hi2 => ?_)
  ·refine zu3 ?_
   refine zR ?_
   refine (pv_one (y := one .abs a) ?_).trans (congrArg tOne (oneS_of (o := .abs) rfl).symm)
   simp only [one]; (((try simp only [dnL] at *); rw [if_pos (by omega)]))
  ·refine Wj ?_
   refine Ws ?_
   refine zu4 ?_
   refine zR ?_
   refine (pv_one (y := one .abs a) ?_).trans (congrArg tOne (oneS_of (o := .abs) rfl).symm)
   simp only [one]; (((try simp only [dnL] at *); rw [if_neg (by omega), i64w]; exact ar_neg a))
 ·refine Wj ?_
  refine Ws ?_
  refine zp1 ?_
  refine Wa 10 rfl (str_eql _ _) ?_
  refine zs1 ?_
  refine Wi rfl (fun hi3 => ?_) (fun hi3 => ?_)
  ·obtain rfl := oT hi3
   refine W_exit ?_
   refine Ws ?_
   refine zu4 ?_
   refine zR ?_
   refine (pv_one (y := one .neg a) ?_).trans (congrArg tOne (oneS_of (o := .neg) rfl).symm)
   simp only [one]; ((rw [i64w]; exact ar_neg a))
  ·refine Wj ?_
   refine Ws ?_
   refine zp1 ?_
   refine Wa 12 rfl (str_eql _ _) ?_
   refine zs1 ?_
   refine Wi rfl (fun hi4 => ?_) (fun hi4 => ?_)
   ·obtain rfl := oT hi4
    refine W_exit ?_
    refine Ws ?_
    refine zu4 ?_
    refine zR ?_
    refine (pv_one (y := one .inv a) ?_).trans (congrArg tOne (oneS_of (o := .inv) rfl).symm)
    simp only [one]; ((rw [i64w]; exact ar_inv ha))
   ·refine Wj ?_
    refine Ws ?_
    refine zp1 ?_
    refine Wa 14 rfl (str_eql _ _) ?_
    refine zs1 ?_
    refine Wi rfl (fun hi5 => ?_) (fun hi5 => ?_)
    ·obtain rfl := oT hi5
     refine W_exit ?_
     refine Ws ?_
     refine zu4 ?_
     refine zR ?_
     refine (pv_one (y := one .inc a) ?_).trans (congrArg tOne (oneS_of (o := .inc) rfl).symm)
     simp only [one]; ((rw [i64w]; done))
    ·refine Wj ?_
     refine Ws ?_
     refine zp1 ?_
     refine Wa 16 rfl (str_eql _ _) ?_
     refine zs1 ?_
     refine Wi rfl (fun hi6 => ?_) (fun hi6 => ?_)
     ·obtain rfl := oT hi6
      refine W_exit ?_
      refine Ws ?_
      refine zu4 ?_
      refine zR ?_
      refine (pv_one (y := one .dec a) ?_).trans (congrArg tOne (oneS_of (o := .dec) rfl).symm)
      simp only [one]; ((rw [i64w]; done))
     ·refine Wj ?_
      refine Ws ?_
      refine zp1 ?_
      refine Wa 18 rfl (str_eql _ _) ?_
      refine zs1 ?_
      refine Wi rfl (fun hi7 => ?_) (fun hi7 => ?_)
      ·obtain rfl := oT hi7
       refine W_exit ?_
       refine Ws ?_
       refine zu4 ?_
       refine zR ?_
       refine (pv_one (y := one .dbl a) ?_).trans (congrArg tOne (oneS_of (o := .dbl) rfl).symm)
       simp only [one]; ((rw [i64w]; exact ar_dbl a))
      ·refine Wj ?_
       refine Ws ?_
       refine zp1 ?_
       refine Wa 20 rfl (str_eql _ _) ?_
       refine zs1 ?_
       refine Wi rfl (fun hi8 => ?_) (fun hi8 => ?_)
       ·obtain rfl := oT hi8
        refine W_exit ?_
        refine Ws ?_
        refine zu4 ?_
        refine zR ?_
        refine (pv_one (y := one .half a) ?_).trans (congrArg tOne (oneS_of (o := .half) rfl).symm)
        simp only [one]; exact ar_half a
       ·refine Wj ?_
        refine Ws ?_
        refine zp1 ?_
        refine Wa 22 rfl (str_eql _ _) ?_
        refine zs1 ?_
        refine Wi rfl (fun hi9 => ?_) (fun hi9 => ?_)
        ·obtain rfl := oT hi9
         refine W_exit ?_
         refine Ws ?_
         refine zu4 ?_
         refine zR ?_
         refine (pv_one (y := one .cells a) ?_).trans (congrArg tOne (oneS_of (o := .cells) rfl).symm)
         simp only [one]; ((rw [i64w]; done))
        ·refine Wj ?_
         refine Ws ?_
         refine zp1 ?_
         refine Wa 24 rfl (str_eql _ _) ?_
         refine zs1 ?_
         refine Wi rfl (fun hi10 => ?_) (fun hi10 => ?_)
         ·obtain rfl := oT hi10
          refine W_exit ?_
          refine Ws ?_
          refine zp5 ?_
          refine zs1 ?_
          refine zR ?_
          refine (pv_one (y := one .algn a) ?_).trans (congrArg tOne (oneS_of (o := .algn) rfl).symm)
          simp only [one]; ((rw [i64w]; exact ar_algn ha))
         ·refine Wj ?_
          refine zp1 ?_
          refine Wa 26 rfl (str_eql _ _) ?_
          refine zs1 ?_
          refine Wi rfl (fun hi11 => ?_) (fun hi11 => ?_)
          ·obtain rfl := oT hi11
           refine W_exit ?_
           refine Ws ?_
           refine zu4 ?_
           refine zR ?_
           refine (pv_one (y := one .cellp a) ?_).trans (congrArg tOne (oneS_of (o := .cellp) rfl).symm)
           simp only [one]; ((rw [i64w]; done))
          ·refine Wj ?_
           refine W_exit ?_
           refine zp2 ?_
           refine Wc rfl rfl (dC rfl Tryz.func84 rfl rfl ((alu_asked name a) _)) ?_
           refine zs4 ?_
           refine zR ?_
           rw [askS_one (oF hi1) (oF hi3) (oF hi4) (oF hi5) (oF hi6) (oF hi7) (oF hi8) (oF hi9) (oF hi10) (oF hi11)]; rfl
end Go.Proofs.YtphgdofmjpdhaaaGreat
namespace Go.Proofs.YtphgdofmjpdhaaaGreat
open Go.RowKit
set_option maxRecDepth 100000
set_option maxHeartbeats 4000000
inductive Op2 where
 | quo
 | rem
 | add
 | sub
 | mul
 | and
 | or
 | xor
 | shl
 | shr
 | min
 | max
 | eq
 | ne
 | lt
 | gt
 | le
 | ge
 | ult
 | ugt
deriving DecidableEq
def names2 : List (Str × Op2) := [([47], .quo), ([77, 79, 68], .rem), ([43], .add), ([45], .sub), ([42], .mul), ([65, 78, 68], .and), ([79, 82], .or), ([88, 79, 82], .xor), ([76, 83, 72, 73, 70, 84], .shl), ([82, 83, 72, 73, 70, 84], .shr), ([77, 73, 78], .min), ([77, 65, 88], .max), ([61], .eq), ([60, 62], .ne), ([60], .lt), ([62], .gt), ([60, 61], .le), ([62, 61], .ge), ([85, 60], .ult), ([85, 62], .ugt)]
def op2 (s : Str) : Option Op2 := names2.lookup s
def andS (a b : Int) : Int := wrap64 ((BitVec.ofInt 64 a &&& BitVec.ofInt 64 b).toNat : Int)
def orS (a b : Int) : Int := wrap64 ((BitVec.ofInt 64 a ||| BitVec.ofInt 64 b).toNat : Int)
def xorS (a b : Int) : Int := wrap64 ((BitVec.ofInt 64 a ^^^ BitVec.ofInt 64 b).toNat : Int)
def shiftS (a by_ : Int) (up : Bool) : Int := if 63 < U by_ then 0 else if up then S (U a * 2 ^ U by_ % 18446744073709551616) else S (U a / 2 ^ U by_)
def two (o : Op2) (a b : Int) : Int × Int := match o with
 | .quo => ((divS a b).1, (divS a b).2.2)
 | .rem => ((divS a b).2.1, (divS a b).2.2)
 | .add => (wrap64 (a + b), 0)
 | .sub => (wrap64 (a - b), 0)
 | .mul => (wrap64 (a * b), 0)
 | .and => (andS a b, 0)
 | .or => (orS a b, 0)
 | .xor => (xorS a b, 0)
 | .shl => (shiftS a b true, 0)
 | .shr => (shiftS a b false, 0)
 | .min => (if b < a then b else a, 0)
 | .max => (if a < b then b else a, 0)
 | .eq => (flagS (decide (a = b)), 0)
 | .ne => (flagS (!decide (a = b)), 0)
 | .lt => (flagS (decide (a < b)), 0)
 | .gt => (flagS (decide (b < a)), 0)
 | .le => (flagS (decide (a ≤ b)), 0)
 | .ge => (flagS (decide (b ≤ a)), 0)
 | .ult => (flagS (decide (U a < U b)), 0)
 | .ugt => (flagS (decide (U b < U a)), 0)
def twoS (name : Str) (a b : Int) : Int × Bool × Int := match op2 name with
 | some o => ((two o a b).1, true, (two o a b).2)
 | none => (0, false, 0)
def tTwo (r : Int × Bool × Int) : PV := tup3 (i64 r.1) (boo r.2.1) (i64 r.2.2)
@[simp] theorem flat_tTwo (r : Int × Bool × Int) : Flat (tTwo r) := by simp [tTwo]
theorem twoS_no {name : Str} {a b : Int} (h : op2 name = none) : twoS name a b = (0, false, 0) := by unfold twoS; rw [h]
theorem op2_none {s : Str} (h0 : s ≠ [47]) (h1 : s ≠ [77, 79, 68]) (h2 : s ≠ [43]) (h3 : s ≠ [45]) (h4 : s ≠ [42]) (h5 : s ≠ [65, 78, 68]) (h6 : s ≠ [79, 82]) (h7 : s ≠ [88, 79, 82]) (h8 : s ≠ [76, 83, 72, 73, 70, 84]) (h9 : s ≠ [82, 83, 72, 73, 70, 84]) (h10 : s ≠ [77, 73, 78]) (h11 : s ≠ [77, 65, 88]) (h12 : s ≠ [61]) (h13 : s ≠ [60, 62]) (h14 : s ≠ [60]) (h15 : s ≠ [62]) (h16 : s ≠ [60, 61]) (h17 : s ≠ [62, 61]) (h18 : s ≠ [85, 60]) (h19 : s ≠ [85, 62]) : op2 s = none := by
 unfold op2 names2
 simp only [List.lookup]
 simp [beq_eq_false_iff_ne.2 h0, beq_eq_false_iff_ne.2 h1, beq_eq_false_iff_ne.2 h2, beq_eq_false_iff_ne.2 h3, beq_eq_false_iff_ne.2 h4, beq_eq_false_iff_ne.2 h5, beq_eq_false_iff_ne.2 h6, beq_eq_false_iff_ne.2 h7, beq_eq_false_iff_ne.2 h8, beq_eq_false_iff_ne.2 h9, beq_eq_false_iff_ne.2 h10, beq_eq_false_iff_ne.2 h11, beq_eq_false_iff_ne.2 h12, beq_eq_false_iff_ne.2 h13, beq_eq_false_iff_ne.2 h14, beq_eq_false_iff_ne.2 h15, beq_eq_false_iff_ne.2 h16, beq_eq_false_iff_ne.2 h17, beq_eq_false_iff_ne.2 h18, beq_eq_false_iff_ne.2 h19]
def heldS (name : Str) (a b : Int) : Int × Bool := if name = [61] then ((two .eq a b).1, true) else if name = [60, 62] then ((two .ne a b).1, true) else if name = [62] then ((two .gt a b).1, true) else if name = [60] then ((two .lt a b).1, true) else if name = [60, 61] then ((two .le a b).1, true) else if name = [62, 61] then ((two .ge a b).1, true) else if name = [85, 62] then ((two .ugt a b).1, true) else if name = [85, 60] then ((two .ult a b).1, true) else (0, false)
theorem alu_held (name : Str) (a b : Int) : PureC Tryz.prog 83 [str name, i64 a, i64 b] (tOne (heldS name a b)) := by
 refine pW tG (rs := [.tmp 6, .tmp 7]) Tryz.func83 rfl rfl rfl (by simp) (by simp) (fun B => ?_)
 refine zu2 ?_
 refine Ws ?_
 refine zu1 ?_
 refine Wl ?_
 refine Ws ?_
 refine Wl ?_
 refine Ws ?_
 refine Wl ?_
 refine Ws ?_
 refine Wl ?_
 refine Ws ?_
 refine Wl ?_
 refine Ws ?_
 refine Wl ?_
 refine Ws ?_
 refine Wl ?_
 refine Ws ?_
 refine Wl ?_
 refine Ws ?_
 refine Wl ?_
 iterate 2 refine Ws ?_
 refine zp1 ?_
 refine Wa 10 rfl (str_eql _ _) ?_
 refine zs1 ?_
 refine Wi rfl (fun hi1 => ?_) (fun hi1 => ?_)
 ·obtain rfl := oT hi1
  refine W_exit ?_
  refine Ws ?_
  refine zp3 ?_
  refine Wc rfl rfl (dC rfl Tryz.func207 rfl rfl ((alu_flag _) _)) ?_
  refine zs2 ?_
  refine zR ?_
  refine congrArg tOne (show (flagS _, true) = ((two .eq a b).1, true) from ?_)
  simp only [two] <;> rfl
 ·refine Wj ?_
  refine Ws ?_
  refine zp1 ?_
  refine Wa 12 rfl (str_eql _ _) ?_
  refine zs1 ?_
  refine Wi rfl (fun hi2 => ?_) (fun hi2 => ?_)
  ·obtain rfl := oT hi2
   refine W_exit ?_
   refine Ws ?_
   refine zp3 ?_
   refine Wc rfl rfl (dC rfl Tryz.func207 rfl rfl ((alu_flag _) _)) ?_
   refine zs2 ?_
   refine zR ?_
   refine congrArg tOne (show (flagS _, true) = ((two .ne a b).1, true) from ?_)
   simp only [two] <;> rfl
  ·refine Wj ?_
   refine Ws ?_
   refine zp1 ?_
   refine Wa 14 rfl (str_eql _ _) ?_
   refine zs1 ?_
   refine Wi rfl (fun hi3 => ?_) (fun hi3 => ?_)
   ·obtain rfl := oT hi3
    refine W_exit ?_
    refine W_region rfl ?_
    refine zs4 ?_
    refine Ws ?_
    refine zp3 ?_
    refine Wc rfl rfl (dC rfl Tryz.func207 rfl rfl ((alu_flag _) _)) ?_
    refine zs2 ?_
    refine zR ?_
    refine congrArg tOne (show (flagS _, true) = ((two .gt a b).1, true) from ?_)
    simp only [two] <;> first | rfl | (congr 2; done) | (congr 2; rw [Bool.eq_iff_iff] <;> simp)
   ·refine Wj ?_
    refine Ws ?_
    refine zp1 ?_
    refine Wa 16 rfl (str_eql _ _) ?_
    refine zs1 ?_
    refine Wi rfl (fun hi4 => ?_) (fun hi4 => ?_)
    ·obtain rfl := oT hi4
     refine W_exit ?_
     refine Ws ?_
     refine zp3 ?_
     refine Wc rfl rfl (dC rfl Tryz.func207 rfl rfl ((alu_flag _) _)) ?_
     refine zs2 ?_
     refine zR ?_
     refine congrArg tOne (show (flagS _, true) = ((two .lt a b).1, true) from ?_)
     simp only [two] <;> first | rfl | (congr 2; done) | (congr 2; rw [Bool.eq_iff_iff] <;> simp)
    ·refine Wj ?_
     refine Ws ?_
     refine zp1 ?_
     refine Wa 18 rfl (str_eql _ _) ?_
     refine zs1 ?_
     refine Wi rfl (fun hi5 => ?_) (fun hi5 => ?_)
     ·obtain rfl := oT hi5
      refine W_exit ?_
      refine W_region rfl ?_
      refine zs4 ?_
      refine Ws ?_
      refine zp3 ?_
      refine Wc rfl rfl (dC rfl Tryz.func207 rfl rfl ((alu_flag _) _)) ?_
      refine zs2 ?_
      refine zR ?_
      refine congrArg tOne (show (flagS _, true) = ((two .le a b).1, true) from ?_)
      simp only [two] <;> first | rfl | (congr 2; done) | (congr 2; rw [Bool.eq_iff_iff] <;> simp)
     ·refine Wj ?_
      refine Ws ?_
      refine zp1 ?_
      refine Wa 20 rfl (str_eql _ _) ?_
      refine zs1 ?_
      refine Wi rfl (fun hi6 => ?_) (fun hi6 => ?_)
      ·obtain rfl := oT hi6
       refine W_exit ?_
       refine Ws ?_
       refine zp3 ?_
       refine Wc rfl rfl (dC rfl Tryz.func207 rfl rfl ((alu_flag _) _)) ?_
       refine zs2 ?_
       refine zR ?_
       refine congrArg tOne (show (flagS _, true) = ((two .ge a b).1, true) from ?_)
       simp only [two] <;> first | rfl | (congr 2; done) | (congr 2; rw [Bool.eq_iff_iff] <;> simp)
      ·refine Wj ?_
       refine Ws ?_
       refine zp1 ?_
       refine Wa 22 rfl (str_eql _ _) ?_
       refine zs1 ?_
       refine Wi rfl (fun hi7 => ?_) (fun hi7 => ?_)
       ·obtain rfl := oT hi7
        refine W_exit ?_
        refine W_region rfl ?_
        refine zs4 ?_
        refine Ws ?_
        refine zp2 ?_
        refine Wc rfl rfl (dC rfl Tryz.func208 rfl rfl ((k_ULess _ _) _)) ?_
        refine Wc rfl rfl (dC rfl Tryz.func207 rfl rfl ((alu_flag _) _)) ?_
        refine zs2 ?_
        refine zR ?_
        refine congrArg tOne (show (flagS _, true) = ((two .ugt a b).1, true) from ?_)
        simp only [two] <;> first | rfl | (congr 2; done) | (congr 2; rw [Bool.eq_iff_iff] <;> simp)
       ·refine Wj ?_
        refine zp1 ?_
        refine Wa 24 rfl (str_eql _ _) ?_
        refine zs1 ?_
        refine Wi rfl (fun hi8 => ?_) (fun hi8 => ?_)
        ·obtain rfl := oT hi8
         refine W_exit ?_
         refine Ws ?_
         refine zp2 ?_
         refine Wc rfl rfl (dC rfl Tryz.func208 rfl rfl ((k_ULess _ _) _)) ?_
         refine Wc rfl rfl (dC rfl Tryz.func207 rfl rfl ((alu_flag _) _)) ?_
         refine zs2 ?_
         refine zR ?_
         refine congrArg tOne (show (flagS _, true) = ((two .ult a b).1, true) from ?_)
         simp only [two] <;> first | rfl | (congr 2; done) | (congr 2; rw [Bool.eq_iff_iff] <;> simp)
        ·refine Wj ?_
         refine W_exit ?_
         refine zu2 ?_
         refine zR ?_
         rw [heldS, if_neg (oF hi1), if_neg (oF hi2), if_neg (oF hi3), if_neg (oF hi4), if_neg (oF hi5), if_neg (oF hi6), if_neg (oF hi7), if_neg (oF hi8)]; rfl
theorem alu_Within (x lo hi : Int) : PureC Tryz.prog 103 [i64 x, i64 lo, i64 hi] (boo (decide (U (wrap64 (x - lo)) < U (wrap64 (hi - lo))))) := by
 refine pW tG (rs := [.tmp 6]) Tryz.func103 rfl rfl rfl (by simp) (by simp) (fun B => ?_)
 refine zu1 ?_
 refine zp5 ?_
 refine z1 ?_
 refine Wc rfl rfl (dC rfl Tryz.func208 rfl rfl ((k_ULess _ _) _)) ?_
 refine zs1 ?_
 refine zR ?_
 simp only [i64w]; rfl
theorem bin_shl {t : TypeId} {x y : Operand} {a b : Int} (h : 0 ≤ b) : binA .shl t x y (.int .u64 a) (.int .u64 b) = some (.int .u64 (IntKind.u64.wrap (a * 2 ^ min b.toNat 64))) := by
 have h1 : ¬ b < 0 := by omega
 simp only [binA, eqGuard, binOp, Op.shift, if_neg h1]; rfl
theorem bin_shr {t : TypeId} {x y : Operand} {a b : Int} (h : 0 ≤ b) : binA .shr t x y (.int .u64 a) (.int .u64 b) = some (.int .u64 (a.fdiv (2 ^ min b.toNat 64))) := by
 have h1 : ¬ b < 0 := by omega
 simp only [binA, eqGuard, binOp, Op.shift, if_neg h1]; rfl
theorem pvU (x : Int) : PV.val (.int .u64 (IntKind.u64.wrap x)) = .val (.int .u64 (U x : Int)) := by rw [U_wrap]
theorem U_lt2 (x : Int) : U x < 18446744073709551616 := by unfold U; omega
theorem shl_val (a b : Int) : IntKind.i64.wrap (IntKind.u64.wrap ((U a : Int) * 2 ^ min ((U b : Int)).toNat 64)) = shiftS a b true := by
 unfold shiftS
 rw [Int.toNat_natCast, i64w, IntKind.wrap_u64]
 by_cases h : 63 < U b
 ·rw [if_pos h, Nat.min_eq_right (by omega)]
  have e : (2 : Int) ^ 64 = 18446744073709551616 := by decide
  rw [e, Int.mul_emod_left]; unfold wrap64; omega
 ·rw [if_neg h, Nat.min_eq_left (by omega), if_pos rfl]
  unfold S
  congr 1
theorem shr_val (a b : Int) : IntKind.i64.wrap ((U a : Int).fdiv (2 ^ min ((U b : Int)).toNat 64)) = shiftS a b false := by
 unfold shiftS
 have hp : ∀ n : Nat, (0 : Int) ≤ 2 ^ n := fun n => Int.pow_nonneg (by omega)
 rw [Int.toNat_natCast, i64w, Int.fdiv_eq_ediv_of_nonneg _ (hp _)]
 by_cases h : 63 < U b
 ·rw [if_pos h, Nat.min_eq_right (by omega)]
  have e : (2 : Int) ^ 64 = 18446744073709551616 := by decide
  have := U_lt2 a
  rw [e, Int.ediv_eq_zero_of_lt (by omega) (by omega)]; unfold wrap64; omega
 ·rw [if_neg h, Nat.min_eq_left (by omega), if_neg (by simp)]
  unfold S
  congr 1
theorem alu_shift (a by_ : Int) (up : Bool) : PureC Tryz.prog 82 [i64 a, i64 by_, boo up] (i64 (shiftS a by_ up)) := by
 refine pW tG (rs := [.tmp 6]) Tryz.func82 rfl rfl rfl (by simp) (by simp) (fun B => ?_)
 refine zu1 ?_
 refine zp2 ?_
 refine Wa 9 rfl (pvU by_) ?_
 refine zs1 ?_
 refine Ws ?_
 refine zu1 ?_
 refine Wi rfl (fun hi1 => ?_) (fun hi1 => ?_)
 ·obtain rfl := hi1
  refine zp2 ?_
  refine Wa 12 rfl (pvU a) ?_
  refine z1 ?_
  refine Wd rfl rfl (does_bin rfl rfl rfl (bin_shl (by omega))) ?_
  refine zs2 ?_
  refine zR ?_
  exact congrArg i64 (shl_val a by_)
 ·obtain rfl := hi1
  refine Wj ?_
  refine zp2 ?_
  refine Wa 17 rfl (pvU a) ?_
  refine z1 ?_
  refine Wd rfl rfl (does_bin rfl rfl rfl (bin_shr (by omega))) ?_
  refine zs2 ?_
  refine zR ?_
  exact congrArg i64 (shr_val a by_)
end Go.Proofs.YtphgdofmjpdhaaaGreat
namespace Go.Proofs.YtphgdofmjpdhaaaGreat
open Go.RowKit
set_option maxRecDepth 100000
set_option maxHeartbeats 40000000
theorem tw_quo (a b : Int) : twoS [47] a b = ((two .quo a b).1, true, (two .quo a b).2) := rfl
theorem tw_rem (a b : Int) : twoS [77, 79, 68] a b = ((two .rem a b).1, true, (two .rem a b).2) := rfl
theorem tw_add (a b : Int) : twoS [43] a b = ((two .add a b).1, true, (two .add a b).2) := rfl
theorem tw_sub (a b : Int) : twoS [45] a b = ((two .sub a b).1, true, (two .sub a b).2) := rfl
theorem tw_mul (a b : Int) : twoS [42] a b = ((two .mul a b).1, true, (two .mul a b).2) := rfl
theorem tw_and (a b : Int) : twoS [65, 78, 68] a b = ((two .and a b).1, true, (two .and a b).2) := rfl
theorem tw_or (a b : Int) : twoS [79, 82] a b = ((two .or a b).1, true, (two .or a b).2) := rfl
theorem tw_xor (a b : Int) : twoS [88, 79, 82] a b = ((two .xor a b).1, true, (two .xor a b).2) := rfl
theorem tw_shl (a b : Int) : twoS [76, 83, 72, 73, 70, 84] a b = ((two .shl a b).1, true, (two .shl a b).2) := rfl
theorem tw_shr (a b : Int) : twoS [82, 83, 72, 73, 70, 84] a b = ((two .shr a b).1, true, (two .shr a b).2) := rfl
theorem tw_min (a b : Int) : twoS [77, 73, 78] a b = ((two .min a b).1, true, (two .min a b).2) := rfl
theorem tw_max (a b : Int) : twoS [77, 65, 88] a b = ((two .max a b).1, true, (two .max a b).2) := rfl
theorem held_two {s : Str} {a b : Int} (h0 : s ≠ [47]) (h1 : s ≠ [77, 79, 68]) (h2 : s ≠ [43]) (h3 : s ≠ [45]) (h4 : s ≠ [42]) (h5 : s ≠ [65, 78, 68]) (h6 : s ≠ [79, 82]) (h7 : s ≠ [88, 79, 82]) (h8 : s ≠ [76, 83, 72, 73, 70, 84]) (h9 : s ≠ [82, 83, 72, 73, 70, 84]) (h10 : s ≠ [77, 73, 78]) (h11 : s ≠ [77, 65, 88]) : tTwo (twoS s a b) = tup3 (i64 (heldS s a b).1) (boo (heldS s a b).2) (i64 0) := by
 unfold heldS
 by_cases h12 : s = [61]
 ·subst h12; rfl
 rw [if_neg h12]
 by_cases h13 : s = [60, 62]
 ·subst h13; rfl
 rw [if_neg h13]
 by_cases h15 : s = [62]
 ·subst h15; rfl
 rw [if_neg h15]
 by_cases h14 : s = [60]
 ·subst h14; rfl
 rw [if_neg h14]
 by_cases h16 : s = [60, 61]
 ·subst h16; rfl
 rw [if_neg h16]
 by_cases h17 : s = [62, 61]
 ·subst h17; rfl
 rw [if_neg h17]
 by_cases h19 : s = [85, 62]
 ·subst h19; rfl
 rw [if_neg h19]
 by_cases h18 : s = [85, 60]
 ·subst h18; rfl
 rw [if_neg h18]
 rw [twoS_no (op2_none h0 h1 h2 h3 h4 h5 h6 h7 h8 h9 h10 h11 h12 h13 h14 h15 h16 h17 h18 h19)]; rfl
theorem alu_Two (name : Str) (a b : Int) (hb : Fit b) : PureC Tryz.prog 52 [str name, i64 a, i64 b] (tTwo (twoS name a b)) := by
 refine pW tG (rs := [.tmp 6, .tmp 7, .tmp 8]) Tryz.func52 rfl rfl rfl (by simp) (by simp) (fun B => ?_)
 refine zu3 ?_
 refine Ws ?_
 refine zu1 ?_
 refine Wl ?_
 refine Ws ?_
 refine zp1 ?_
 refine Wa 16 rfl (str_eql _ _) ?_
 refine zs1 ?_
 refine Wi rfl (fun hi1 => ?_) (fun hi1 => ?_)
 ·refine Wj ?_
  refine Wt rfl hi1 ?_
  refine zp2 ?_
  refine Wc rfl rfl (dC rfl Tryz.func81 rfl rfl ((k_Div a b hb) _)) ?_
  refine zy5 ?_
  refine zs2 ?_
  refine Ws ?_
  refine zp2 ?_
  refine Wa 26 rfl (str_eql _ _) ?_
  refine Wn ?_
  refine Wi rfl (fun hi2 => ?_) (fun hi2 => ?_)
  ·refine W_region rfl ?_
   refine zs2 ?_
   refine zu5 ?_
   refine zR ?_
   (exfalso; (try simp only [dnL] at *); simp_all; done)
  ·refine Wj ?_
   refine zu5 ?_
   refine zR ?_
   ((try simp only [dnL] at *); simp_all [tTwo, tup3, i64, boo, i64w, two, andS, orS, xorS, IntKind.bits, tw_quo, tw_rem, tw_add, tw_sub, tw_mul, tw_and, tw_or, tw_xor, tw_shl, tw_shr, tw_min, tw_max]; done)
 ·refine W_region rfl ?_
  refine z1 ?_
  refine Wa 17 rfl (str_eql _ _) ?_
  refine zs1 ?_
  refine Wi rfl (fun hi3 => ?_) (fun hi3 => ?_)
  ·refine zp2 ?_
   refine Wc rfl rfl (dC rfl Tryz.func81 rfl rfl ((k_Div a b hb) _)) ?_
   refine zy5 ?_
   refine zs2 ?_
   refine Ws ?_
   refine zp2 ?_
   refine Wa 26 rfl (str_eql _ _) ?_
   refine Wn ?_
   refine Wi rfl (fun hi2 => ?_) (fun hi2 => ?_)
   ·refine W_region rfl ?_
    refine zs2 ?_
    refine zu5 ?_
    refine zR ?_
    ((try simp only [dnL] at *); simp_all [tTwo, tup3, i64, boo, i64w, two, andS, orS, xorS, IntKind.bits, tw_quo, tw_rem, tw_add, tw_sub, tw_mul, tw_and, tw_or, tw_xor, tw_shl, tw_shr, tw_min, tw_max]; done)
   ·refine Wj ?_
    refine zu5 ?_
    refine zR ?_
    (exfalso; (try simp only [dnL] at *); simp_all; done)
  ·refine zp1 ?_
   refine Wa 31 rfl (str_eql _ _) ?_
   refine zs1 ?_
   refine Wi rfl (fun hi4 => ?_) (fun hi4 => ?_)
   ·refine zp5 ?_
    refine zs1 ?_
    refine zR ?_
    ((try simp only [dnL] at *); simp_all [tTwo, tup3, i64, boo, i64w, two, andS, orS, xorS, IntKind.bits, tw_quo, tw_rem, tw_add, tw_sub, tw_mul, tw_and, tw_or, tw_xor, tw_shl, tw_shr, tw_min, tw_max]; done)
   ·refine zp1 ?_
    refine Wa 36 rfl (str_eql _ _) ?_
    refine zs1 ?_
    refine Wi rfl (fun hi5 => ?_) (fun hi5 => ?_)
    ·refine zp5 ?_
     refine zs1 ?_
     refine zR ?_
     ((try simp only [dnL] at *); simp_all [tTwo, tup3, i64, boo, i64w, two, andS, orS, xorS, IntKind.bits, tw_quo, tw_rem, tw_add, tw_sub, tw_mul, tw_and, tw_or, tw_xor, tw_shl, tw_shr, tw_min, tw_max]; done)
    ·refine zp1 ?_
     refine Wa 41 rfl (str_eql _ _) ?_
     refine zs1 ?_
     refine Wi rfl (fun hi6 => ?_) (fun hi6 => ?_)
     ·refine zp5 ?_
      refine zs1 ?_
      refine zR ?_
      ((try simp only [dnL] at *); simp_all [tTwo, tup3, i64, boo, i64w, two, andS, orS, xorS, IntKind.bits, tw_quo, tw_rem, tw_add, tw_sub, tw_mul, tw_and, tw_or, tw_xor, tw_shl, tw_shr, tw_min, tw_max]; done)
     ·refine zp1 ?_
      refine Wa 46 rfl (str_eql _ _) ?_
      refine zs1 ?_
      refine Wi rfl (fun hi7 => ?_) (fun hi7 => ?_)
      ·refine zp5 ?_
       refine zs1 ?_
       refine zR ?_
       ((try simp only [dnL] at *); subst_vars; exact congrArg (fun z => tup3 (i64 z) (boo true) (i64 0)) (i64w _))
      ·refine zp1 ?_
       refine Wa 51 rfl (str_eql _ _) ?_
       refine zs1 ?_
       refine Wi rfl (fun hi8 => ?_) (fun hi8 => ?_)
       ·refine zp5 ?_
        refine zs1 ?_
        refine zR ?_
        ((try simp only [dnL] at *); subst_vars; exact congrArg (fun z => tup3 (i64 z) (boo true) (i64 0)) (i64w _))
       ·refine zp1 ?_
        refine Wa 56 rfl (str_eql _ _) ?_
        refine zs1 ?_
        refine Wi rfl (fun hi9 => ?_) (fun hi9 => ?_)
        ·refine zp5 ?_
         refine zs1 ?_
         refine zR ?_
         ((try simp only [dnL] at *); subst_vars; exact congrArg (fun z => tup3 (i64 z) (boo true) (i64 0)) (i64w _))
        ·refine Ws ?_
         refine zp1 ?_
         refine Wa 61 rfl (str_eql _ _) ?_
         refine zs1 ?_
         refine Wi rfl (fun hi10 => ?_) (fun hi10 => ?_)
         ·refine Wj ?_
          refine Wt rfl hi10 ?_
          refine zp4 ?_
          refine Wa 66 rfl (str_eql _ _) ?_
          refine Wc rfl rfl (dC rfl Tryz.func82 rfl rfl ((alu_shift a b _) _)) ?_
          refine zs3 ?_
          refine zR ?_
          ((try simp only [dnL] at *); simp_all [tTwo, tup3, i64, boo, i64w, two, andS, orS, xorS, IntKind.bits, tw_quo, tw_rem, tw_add, tw_sub, tw_mul, tw_and, tw_or, tw_xor, tw_shl, tw_shr, tw_min, tw_max]; done)
         ·refine W_region rfl ?_
          refine z1 ?_
          refine Wa 62 rfl (str_eql _ _) ?_
          refine zs1 ?_
          refine Wi rfl (fun hi11 => ?_) (fun hi11 => ?_)
          ·refine zp4 ?_
           refine Wa 66 rfl (str_eql _ _) ?_
           refine Wc rfl rfl (dC rfl Tryz.func82 rfl rfl ((alu_shift a b _) _)) ?_
           refine zs3 ?_
           refine zR ?_
           ((try simp only [dnL] at *); simp_all [tTwo, tup3, i64, boo, i64w, two, andS, orS, xorS, IntKind.bits, tw_quo, tw_rem, tw_add, tw_sub, tw_mul, tw_and, tw_or, tw_xor, tw_shl, tw_shr, tw_min, tw_max]; done)
          ·refine zp1 ?_
           refine Wa 69 rfl (str_eql _ _) ?_
           refine zs1 ?_
           refine Wi rfl (fun hi12 => ?_) (fun hi12 => ?_)
           ·refine zp5 ?_
            refine zs1 ?_
            refine zR ?_
            ((try simp only [dnL] at *); simp_all [tTwo, tup3, i64, boo, i64w, two, andS, orS, xorS, IntKind.bits, tw_quo, tw_rem, tw_add, tw_sub, tw_mul, tw_and, tw_or, tw_xor, tw_shl, tw_shr, tw_min, tw_max]; done)
           ·refine zp1 ?_
            refine Wa 74 rfl (str_eql _ _) ?_
            refine zs1 ?_
            refine Wi rfl (fun hi13 => ?_) (fun hi13 => ?_)
            ·refine zp5 ?_
             refine zs1 ?_
             refine zR ?_
             ((try simp only [dnL] at *); simp_all [tTwo, tup3, i64, boo, i64w, two, andS, orS, xorS, IntKind.bits, tw_quo, tw_rem, tw_add, tw_sub, tw_mul, tw_and, tw_or, tw_xor, tw_shl, tw_shr, tw_min, tw_max]; done)
            ·refine Wj ?_
             refine zp3 ?_
             refine Wc rfl rfl (dC rfl Tryz.func83 rfl rfl ((alu_held name a b) _)) ?_
             refine zs5 ?_
             refine zu5 ?_
             refine zR ?_
             ((try simp only [dnL] at *); exact (held_two (by assumption) (by assumption) (by assumption) (by assumption) (by assumption) (by assumption) (by assumption) (by assumption) (by assumption) (by assumption) (by assumption) (by assumption)).symm)
end Go.Proofs.YtphgdofmjpdhaaaGreat
namespace Go.Proofs.YtphgdofmjpdhaaaGreat
open Go.RowKit
set_option maxRecDepth 100000
set_option maxHeartbeats 4000000
theorem pic_Sign (p : VPic) (n : Int) (hp : p.b.length ≤ 1000000) : PureC Tryz.prog 159 [ePic p, i64 n] (tPic (picSign p n)) := by
 refine pW tG (rs := [.cell 4 32, .tmp 5]) Tryz.func159 rfl rfl rfl (by simp) (by simp) (fun B => ?_)
 refine zu3 ?_
 refine Ws ?_
 refine zu2 ?_
 refine Wi rfl (fun hi1 => ?_) (fun hi1 => ?_)
 ·have h0 : 0 ≤ n := by (try simp only [dnL] at *); omega
  refine zu3 ?_
  refine zR ?_
  rw [picSign, if_pos h0]; rfl
 ·have h0 : ¬ 0 ≤ n := by (try simp only [dnL] at *); omega
  refine Wj ?_
  refine zp1 ?_
  refine Wc rfl rfl (dC rfl Tryz.func158 rfl rfl ((pic_Hold p 45 hp) _)) ?_
  refine zs4 ?_
  refine zR ?_
  rw [picSign, if_neg h0]; rfl
def digOf (p : VPic) (lo hi base : Int) : VPic × Int := picHold p (digS (udivS lo (udivS hi 0 base).2.1 base).2.1)
def picDigit (p : VPic) (lo hi base : Int) : VPic × Int × Int × Int :=
 if base < 2 ∨ 36 < base then (p, lo, hi, -24) else
  if (digOf p lo hi base).2 = 0 then ((digOf p lo hi base).1, (udivS lo (udivS hi 0 base).2.1 base).1, (udivS hi 0 base).1, 0) else (p, lo, hi, (digOf p lo hi base).2)
def tDig (r : VPic × Int × Int × Int) : PV := tup4 (ePic r.1) (i64 r.2.1) (i64 r.2.2.1) (i64 r.2.2.2)
@[simp] theorem flat_tDig (r : VPic × Int × Int × Int) : Flat (tDig r) := by simp [tDig]
theorem digS_wrap (n : Int) : IntKind.i64.wrap (digS n) = digS n := by rw [i64w]; unfold digS wrap64; split <;> (try split) <;> omega
theorem pic_Digit (p : VPic) (lo hi base : Int) (hp : p.b.length ≤ 1000000) : PureC Tryz.prog 155 [ePic p, i64 lo, i64 hi, i64 base] (tDig (picDigit p lo hi base)) := by
 refine pW tG (rs := [.cell 8 32, .tmp 9, .tmp 10, .tmp 11]) Tryz.func155 rfl rfl rfl (by simp) (by simp) (fun B => ?_)
 refine zu5 ?_
 refine Ws ?_
 refine zp3 ?_
 refine Wb 22 rfl (fun hg1 => ?_) (fun hg1 => ?_)
 ·refine z6 ?_
  refine z6 ?_
  refine zs1 ?_
  refine Wt rfl rfl ?_
  refine zp5 ?_
  refine zs2 ?_
  refine zR ?_
  rw [picDigit, if_pos (by (try simp only [dnL] at *); omega)]; rfl
 ·refine zs3 ?_
  refine Wi rfl (fun hi1 => ?_) (fun hi1 => ?_)
  ·have hb : base < 2 ∨ 36 < base := by (try simp only [dnL] at *); omega
   refine zp5 ?_
   refine zs2 ?_
   refine zR ?_
   rw [picDigit, if_pos hb]; rfl
  ·have hb : ¬ (base < 2 ∨ 36 < base) := by (try simp only [dnL] at *); omega
   refine Wj ?_
   refine zp2 ?_
   refine Wc rfl rfl (dC rfl Tryz.func96 rfl rfl ((k_UDiv hi 0 base) _)) ?_
   refine zy5 ?_
   refine zs2 ?_
   refine zp3 ?_
   refine Wc rfl rfl (dC rfl Tryz.func96 rfl rfl ((k_UDiv lo _ base) _)) ?_
   refine zy5 ?_
   refine zs2 ?_
   refine Ws ?_
   refine W_drawU [1, 0, 0, 0, 0, 0, 0, 0, 2, 3, 0] [0, 1, 2, 3, 4, 5, 6, 7, 8, 9, 10] mG rfl (by kernel_rfl) ?_
   refine z5 ?_
   refine z3 ?_
   refine Xc rfl rfl rfl rfl (fun _ => dC rfl Tryz.func237 rfl rfl ((k_Digit _) _)) ?_
   refine z3 ?_
   refine Xa 48 rfl (congrArg (fun z => PV.val (Value.int .i64 z)) (digS_wrap _)) ?_
   refine Xc rfl rfl rfl rfl (fun _ => dC rfl Tryz.func158 rfl rfl ((pic_Hold p _ hp) _)) ?_
   iterate 3 refine z3 ?_
   refine WU_ev2 tG rfl rfl rfl rfl rfl trivial rfl ?_
   refine WU_ev3 tG rfl rfl rfl rfl rfl trivial ?_
   refine z3 ?_
   refine WU_nil ?_
   refine Ws ?_
   refine zu2 ?_
   refine Wi rfl (fun hi2 => ?_) (fun hi2 => ?_)
   ·have h0 : ¬ (digOf p lo hi base).2 = 0 := by (try simp only [dnL] at *); exact hi2
    refine zp5 ?_
    refine zs3 ?_
    refine zR ?_
    rw [picDigit, if_neg hb, if_neg h0]; rfl
   ·have h0 : (digOf p lo hi base).2 = 0 := by (try simp only [dnL] at *); exact hi2
    refine Wj ?_
    refine zp5 ?_
    refine zs2 ?_
    refine zR ?_
    rw [picDigit, if_neg hb, if_pos h0]; rfl
end Go.Proofs.YtphgdofmjpdhaaaGreat
namespace Go.Proofs.YtphgdofmjpdhaaaGreat
open Go.RowKit
set_option maxRecDepth 100000
set_option maxHeartbeats 4000000
def picEnd (p : VPic) : List UInt8 × Int := if p.on then (p.b.reverse, 0) else ([], -17)
end Go.Proofs.YtphgdofmjpdhaaaGreat
namespace Go.Proofs.YtphgdofmjpdhaaaGreat
def names : List Str := [[40, 101, 120, 105, 116, 41], [40, 108, 105, 116, 41], [40, 98, 114, 97, 110, 99, 104, 41], [40, 48, 98, 114, 97, 110, 99, 104, 41], [40, 100, 111, 41], [40, 63, 100, 111, 41], [40, 108, 111, 111, 112, 41], [40, 43, 108, 111, 111, 112, 41], [40, 104, 97, 108, 116, 41], [40, 99, 97, 117, 103, 104, 116, 41], [40, 100, 111, 101, 115, 41], [40, 115, 116, 114, 41], [69, 88, 69, 67, 85, 84, 69], [67, 65, 84, 67, 72], [84, 72, 82, 79, 87], [73], [74], [85, 78, 76, 79, 79, 80], [62, 82], [82, 62], [82, 64], [50, 62, 82], [50, 82, 62], [68, 85, 80], [68, 82, 79, 80], [83, 87, 65, 80], [79, 86, 69, 82], [82, 79, 84], [45, 82, 79, 84], [78, 73, 80], [84, 85, 67, 75], [63, 68, 85, 80], [50, 68, 85, 80], [50, 68, 82, 79, 80], [50, 83, 87, 65, 80], [50, 79, 86, 69, 82], [80, 73, 67, 75], [82, 79, 76, 76], [68, 69, 80, 84, 72], [43], [45], [42], [47], [77, 79, 68], [65, 78, 68], [79, 82], [88, 79, 82], [76, 83, 72, 73, 70, 84], [82, 83, 72, 73, 70, 84], [77, 73, 78], [77, 65, 88], [61], [60, 62], [60], [62], [60, 61], [62, 61], [85, 60], [85, 62], [78, 69, 71, 65, 84, 69], [65, 66, 83], [73, 78, 86, 69, 82, 84], [49, 43], [49, 45], [50, 42], [50, 47], [48, 61], [48, 60], [48, 60, 62], [48, 62], [67, 69, 76, 76, 83], [67, 69, 76, 76, 43], [65, 76, 73, 71, 78, 69, 68], [47, 77, 79, 68], [42, 47], [42, 47, 77, 79, 68], [85, 77, 42], [85, 77, 47, 77, 79, 68], [77, 42], [83, 77, 47, 82, 69, 77], [70, 77, 47, 77, 79, 68], [83, 62, 68], [87, 73, 84, 72, 73, 78], [64], [33], [43, 33], [67, 64], [67, 33], [50, 64], [50, 33], [70, 73, 76, 76], [77, 79, 86, 69], [67, 79, 85, 78, 84], [72, 69, 82, 69], [65, 76, 76, 79, 84], [44], [67, 44], [65, 76, 73, 71, 78], [66, 65, 83, 69], [83, 84, 65, 84, 69], [84, 82, 85, 69], [70, 65, 76, 83, 69], [66, 76], [68, 69, 67, 73, 77, 65, 76], [72, 69, 88], [69, 77, 73, 84], [67, 82], [83, 80, 65, 67, 69], [83, 80, 65, 67, 69, 83], [84, 89, 80, 69], [46], [85, 46], [60, 35], [35], [35, 83], [72, 79, 76, 68], [83, 73, 71, 78], [35, 62], [62, 66, 79, 68, 89], [65, 66, 79, 82, 84], [80, 79, 83, 84], [65, 70, 84, 69, 82], [69, 86, 69, 82, 89], [67, 65, 78, 67, 69, 76], [65, 82, 71], [83, 69, 76, 70], [78, 79, 87], [83, 69, 84, 45, 83, 84, 65, 84, 69], [65, 84, 45, 83, 84, 65, 84, 69], [71, 69, 84, 45, 83, 84, 65, 84, 69]]
def specials : List Str := [[58], [59], [67, 82, 69, 65, 84, 69], [68, 79, 69, 83, 62], [86, 65, 82, 73, 65, 66, 76, 69], [67, 79, 78, 83, 84, 65, 78, 84], [73, 77, 77, 69, 68, 73, 65, 84, 69], [39], [91, 39, 93], [67, 72, 65, 82], [91, 67, 72, 65, 82, 93], [76, 73, 84, 69, 82, 65, 76], [80, 79, 83, 84, 80, 79, 78, 69], [82, 69, 67, 85, 82, 83, 69], [73, 70], [69, 76, 83, 69], [84, 72, 69, 78], [66, 69, 71, 73, 78], [87, 72, 73, 76, 69], [82, 69, 80, 69, 65, 84], [85, 78, 84, 73, 76], [65, 71, 65, 73, 78], [68, 79], [63, 68, 79], [76, 79, 79, 80], [43, 76, 79, 79, 80], [76, 69, 65, 86, 69], [83, 34], [46, 34], [40], [92], [91], [93], [70, 79, 82, 71, 69, 84], [77, 65, 67, 72, 73, 78, 69], [79, 78, 58], [69, 88, 73, 84]]
theorem names_len : names.length = 130 := by decide +kernel
theorem specials_len : specials.length = 37 := by decide +kernel
end Go.Proofs.YtphgdofmjpdhaaaGreat
namespace Go.Proofs.YtphgdofmjpdhaaaGreat
open Go.RowKit
set_option maxRecDepth 100000
theorem vm_Names : PureC Tryz.prog 25 [] (sq cStr names) := by
 refine pW tG (rs := [.tmp 0]) Tryz.func25 rfl rfl rfl (by simp) (by simp) (fun B => ?_)
 refine zu1 ?_
 refine zp1 ?_
 refine Wa 1 rfl (bsL cStr [_, _, _, _, _, _, _, _, _, _, _, _, _, _, _, _, _, _, _, _, _, _, _, _, _, _, _, _, _, _, _, _, _, _, _, _, _, _, _, _, _, _, _, _, _, _, _, _, _, _, _, _, _, _, _, _, _, _, _, _, _, _, _, _, _, _, _, _, _, _, _, _, _, _, _, _, _, _, _, _, _, _, _, _, _, _, _, _, _, _, _, _, _, _, _, _, _, _, _, _, _, _, _, _, _, _, _, _, _, _, _, _, _, _, _, _, _, _, _, _, _, _, _, _, _, _, _, _, _, _] rfl rfl) ?_
 refine zs1 ?_
 refine zR ?_
 exact rfl
end Go.Proofs.YtphgdofmjpdhaaaGreat
namespace Go.Proofs.YtphgdofmjpdhaaaGreat
open Go.RowKit
def c0 (w : World) : Cx := cx (fun _ _ => False) [] (fun _ => none) w
theorem sim0 (w : World) : Sim (fun _ _ => False) [] (fun _ => none) w :=
 ⟨fun i j b oi oj h => by simp at h, fun i b oi h => by simp at h, fun b off h => h.elim, fun i oi h => by simp at h⟩
theorem wr0 (w : World) (b off : Nat) : ¬ (c0 w).Wr b off := by
 rintro (h | ⟨i, oi, h1, _⟩)
 ·exact h
 ·simp at h1
theorem law_calls {P : Program} {f : FuncId} {args : List PV} {vs : List Value} {w : World} (h : PureC P f args (.val (.bool true))) (hr : RepL (c0 w) args vs) :
  Calls P f vs.toArray w fun e w' => e = .returned (.bool true) ∧ Below w.heap.size w w' := by
 refine Calls.mono (h [] (fun _ _ => False) (fun _ => none) w vs (sim0 w) hr) ?_
 rintro e w' ⟨v, σ', rfl, h1, _, h3⟩
 unfold Rep at h1
 subst h1
 exact ⟨rfl, ⟨h3.os, h3.tape, h3.output, h3.size, fun b hb => h3.block b hb (fun i oi hi => by simp at hi)⟩⟩
theorem rd_int_rep {w : World} {t : TypeId} {cs : List Value} {k : IntKind} (ht : Tryz.prog.underlying t = some (.int k)) (h : Rd w t cs) : ∃ n, (Lit.int k n).wf = true ∧ RepL (c0 w) [.val (.int k n)] cs := by
 obtain ⟨n, rfl, hw⟩ := rd_int ht h
 exact ⟨n, hw, repL_cons.2 ⟨rep_val _ _, repL_nil.2 rfl⟩⟩
set_option maxRecDepth 100000 in
theorem rd_slice_rep {α : Type} (enc : α → List PV) (Ok : α → Prop) {w : World} {t e : TypeId} {cs : List Value} (k : Nat) (ht : Tryz.prog.underlying t = some (.slice e)) (hk : Tryz.prog.cellsOf e = k) (hk0 : 0 < k) (hel : ∀ es, Rd w e es → ∃ x, Ok x ∧ RepL (c0 w) (enc x) es) (h : Rd w t cs) :
  ∃ l : List α, (∀ x ∈ l, Ok x) ∧ l.length ≤ maxLen ∧ RepL (c0 w) [.seq l.length (l.flatMap enc) .any] cs := by
 rcases rd_slice ht h with rfl | ⟨a, len, cap, rfl, hlc, hcap, hc⟩
 ·refine ⟨[], by simp, by simp, repL_cons.2 ⟨?_, repL_nil.2 rfl⟩⟩
  have := rep_nil (c0 w)
  exact imp_seq _ _ _ _ _ this
 ·rw [hk] at hc
  have build : ∀ n, n ≤ len → a.spot = none → ∃ (l : List α) (vs : List Value), l.length = n ∧ (∀ x ∈ l, Ok x) ∧ RepL (c0 w) (l.flatMap enc) vs ∧ vs.length = n * k ∧ ∀ j, j < n * k → w.cell? ⟨a.block, a.off + j, none⟩ = vs[j]? := by
   intro n hn hs
   induction n with
   | zero => exact ⟨[], [], rfl, by simp, repL_nil.2 rfl, by simp, fun j hj => by simp at hj⟩
   | succ n ih =>
    obtain ⟨l, vs, h1, h2, h3, h4, h5⟩ := ih (by omega)
    obtain ⟨es, h6, h7⟩ := hc n (by omega)
    obtain ⟨_, h8, h9⟩ := World.cells?_some h6
    obtain ⟨x, hx, hr⟩ := hel es h7
    refine ⟨l ++ [x], vs ++ es, by simp [h1], ?_, ?_, by rw [List.length_append, h4, h8, Nat.succ_mul], fun j hj => ?_⟩
    ·intro y hy; rcases List.mem_append.1 hy with hy | hy
     ·exact h2 y hy
     ·simp at hy; subst hy; exact hx
    ·rw [List.flatMap_append]; refine RepL.append h3 ?_; simpa using hr
    ·by_cases hj' : j < n * k
     ·rw [List.getElem?_append_left (by omega)]; exact h5 j hj'
     ·rw [List.getElem?_append_right (by omega), h4]
      rw [Nat.succ_mul] at hj
      rw [← h9 (j - n * k) (by omega)]
      have e : (a.add (n * k)).add (j - n * k) = ⟨a.block, a.off + j, none⟩ := by
       obtain ⟨b, o, sp⟩ := a
       simp only at hs
       subst hs
       rw [Addr.add_lit, Addr.add_lit]
       have : o + n * k + (j - n * k) = o + j := by omega
       rw [this]
      rw [e]
  by_cases h0 : cap = 0
  ·have hl0 : len = 0 := by omega
   subst hl0
   refine ⟨[], by simp, by simp, repL_cons.2 ⟨?_, repL_nil.2 rfl⟩⟩
   unfold Rep
   exact ⟨some a, cap, [], rfl, by simp, (fun h => by cases h), repL_nil.2 rfl, (fun b hb => .inr ⟨h0, rfl⟩), trivial⟩
  ·have hs : a.spot = none := by
    obtain ⟨es, h6, _⟩ := hc 0 (by omega)
    obtain ⟨_, h8, h9⟩ := World.cells?_some h6
    have h10 := h9 0 hk0
    simp only [Nat.zero_mul] at h10
    have e : (a.add 0).add 0 = a := by simp [Addr.add]
    rw [e, List.getElem?_eq_getElem (by omega)] at h10
    unfold World.cell? at h10
    cases hsp : a.spot with
    | none => rfl
    | some q => rw [hsp] at h10; split at h10 <;> simp at h10
   obtain ⟨l, vs, h1, h2, h3, h4, h5⟩ := build len (Nat.le_refl _) hs
   refine ⟨l, h2, by omega, repL_cons.2 ⟨?_, repL_nil.2 rfl⟩⟩
   unfold Rep
   refine ⟨some a, cap, vs, by rw [h1], by omega, (fun h => by cases h), h3, fun b hb => .inl ?_, trivial⟩
   cases hb
   refine ⟨hs, fun j u hj => ⟨?_, wr0 w _ _⟩⟩
   have hjl := lt_of_get hj
   have := h5 j (by omega)
   rw [hj] at this
   exact this
end Go.Proofs.YtphgdofmjpdhaaaGreat
namespace Go.Proofs.YtphgdofmjpdhaaaGreat
open Go.RowKit
set_option maxRecDepth 100000
set_option maxHeartbeats 4000000
theorem grow_some (n : Nat) (h0 : 0 < n) (hn : n ≤ 1000000) (w : World) : Calls Tryz.prog 62 #[.slice none 0 0, .int .i64 n] w fun e w' =>
  ∃ cs : Array Value, e = .returned (.slice (some ⟨w.heap.size, 0, none⟩) 0 (grownCap w n 0 3)) ∧ w' = w.drew.alloc (.cells cs 3) ∧ grownCap w n 0 3 ≤ cs.size := by
 have h1 : ¬ ((n : Int) < 0) := by omega
 have h3 : wrap64 ((n : Int) - 0) = (n : Int) := by unfold wrap64; omega
 have h4 : (n : Int) > 0 := by omega
 have fe : TyFacts Tryz.prog 3 ⟨1, 8, [.val (.int .i64 0)], .int .i64⟩ := lO (G := tys) tG rfl
 have fs : TyFacts Tryz.prog 28 ⟨1, 24, [.seq 0 [] .clip], .slice 3⟩ := lO (G := tys) tG rfl
 obtain ⟨i, z, hi, hsz, hby, hz, hzr⟩ := fe.info
 have hr := fun ty => Lib.run_append_nil_zeros (P := Tryz.prog) w 28 3 ty 3 i z .i64 .i64 (fs.slice rfl) (by kernel_rfl) hi hz n h0 (by rw [hsz]; exact Nat.one_pos) (by omega) (by rw [hby]; show n * 8 ≤ _; omega)
 have hGn : n ≤ grownCap w n 0 3 := grownCap_ge w _ _ _
 have hzl : z.cells.size = 1 := by have := RepL.length (hzr (c0 w)); rw [Array.length_toList] at this; rw [this]; rfl
 have hG63 : grownCap w n 0 3 ≤ 9223372036854775807 := by
  have := grownCap_le_maxLen w n 0 3 (by unfold maxLen; omega)
  unfold maxLen at this
  omega
 obtain ⟨G, hG⟩ : ∃ G, G = grownCap w n 0 3 := ⟨_, rfl⟩
 rw [← hG] at hr hGn hG63 ⊢
 have hcs : ∀ q : Array Value, q.size = 1 → G ≤ (Builtin.zeroCells q n ++ Builtin.zeroCells q (G - n)).size := by
  intro q hq
  rw [Array.size_append, size_zeroCells, size_zeroCells, hq]; omega
 clear hG
 go_enter Tryz.func62, Tryz.ntmps62
 go_wp2_with (at_builtin; refine Lib.wpList_append_run _ rfl _ _ _ _ rfl _ _ rfl rfl _ _ (hr _) ?_)
 all_goals (go_ret; exact ⟨rfl, _, rfl, hcs _ (by first | exact hzl | rfl)⟩)
theorem grow_zero (w : World) : Calls Tryz.prog 62 #[.slice none 0 0, .int .i64 0] w fun e w' => e = .returned (.slice none 0 0) ∧ w' = w := by
 go_enter Tryz.func62, Tryz.ntmps62
 go_wp2
 go_ret
 exact ⟨rfl, rfl⟩
theorem does_grow {B : Nat → Nat → Prop} {o : Oper} {T : Nat → PV} {H : List Ob} {x : Operand} {ats : Array TypeId} {n : Nat} (ho : o.op = .call { callee := .value (.func 62), args := #[.const (.slice none 0 0), x], argTypes := ats }) (hx : opv T x = .val (.int .i64 (n : Int))) (hn : n ≤ 1000000) :
  DoesC Tryz.prog B o T H (.seq 0 [] (.own H.length 1)) (H ++ [.free 0]) := by
 intro σ w a s ha
 have k1 := ha x (by rw [ho]; simp [Op.operands, Call.operands])
 rw [hx] at k1
 unfold Rep at k1
 refine ⟨62, #[.slice none 0 0, .int .i64 n], ?_, ?_⟩
 ·unfold execOp
  simp only [ho, resolve, Act.eval, Deferred.ofValue, invoke, Sem.run_bind, Sem.run_pure, Result.andThen_ok]
  rw [run_callFunc_go Tryz.func62 rfl rfl]
  have hev : a.eval x = .int .i64 n := k1
  simp [Act.eval] at hev ⊢
  exact hev
 ·by_cases h0 : n = 0
  ·subst h0
   refine Calls.mono (grow_zero w) ?_
   rintro e w' ⟨rfl, rfl⟩
   obtain ⟨s', st⟩ := grow_name s (Grows.refl w') (.free 0) none (fun b hb => by cases hb) (fun b hb => by simp only [cx] at hb; rw [ext_new] at hb; cases hb)
   refine ⟨_, _, rfl, ?_, s', st⟩
   unfold Rep
   exact ⟨none, 0, [], rfl, Nat.le_refl _, fun _ => ⟨rfl, rfl, rfl⟩, repL_nil.2 rfl, (fun b h => by cases h), by simp [cx], rfl, .inl rfl⟩
  ·refine Calls.mono (grow_some n (by omega) hn w) ?_
   rintro e w' ⟨cs, rfl, rfl, hcs⟩
   have gr : Grows w (w.drew.alloc (.cells cs 3)) := (Grows.drew w).trans (Grows.alloc _ _)
   have hheap : (w.drew.alloc (.cells cs 3)).heap[w.heap.size]? = some (Obj.cells cs 3 (0, 0)) := by
    show (w.heap.push _)[w.heap.size]? = _; simp
   obtain ⟨s', st⟩ := grow_name s gr (.free 0) (some w.heap.size) (fun b hb => by cases hb; exact Nat.le_refl _) (fun b hb => by
    simp only [cx] at hb; rw [ext_new] at hb; cases hb
    exact ⟨_, 3, hheap, Nat.zero_le _⟩)
   refine ⟨_, _, rfl, rep_own_new (vs := []) (repL_nil.2 rfl) (by simp) (ext_new _ _ _) hheap rfl (Nat.zero_le _) (by rw [Nat.mul_one]; exact hcs) (fun j hj => by simp at hj) (fun off hoff => by simp at hoff), s', st⟩
end Go.Proofs.YtphgdofmjpdhaaaGreat
namespace Go.Proofs.YtphgdofmjpdhaaaGreat
open Go.RowKit
set_option maxRecDepth 100000
set_option maxHeartbeats 4000000
def cRow (l : List Int) : List PV := [sq cInt l]
@[simp] theorem flat_cRow (x : List Int) : FlatL (cRow x) := by simp [cRow, FlatL]
@[simp] theorem flat_sRow (l : List (List Int)) : Flat (sq cRow l) := flat_sq flat_cRow l
theorem sum2 {a b : Nat} (ha : a ≤ 500000) (hb : b ≤ 500000) : PV.val (.int .i64 (IntKind.i64.wrap (IntKind.i64.wrap (0 + (a : Int)) + (b : Int)))) = .val (.int .i64 ((a + b : Nat) : Int)) :=
 congrArg (fun z => PV.val (Value.int .i64 z)) (by simp only [i64w]; unfold wrap64; omega)
theorem concat2 (a b : List Int) (ha : a.length ≤ 500000) (hb : b.length ≤ 500000) : PureC Tryz.prog 29 [sq cRow [a, b]] (sq cInt (a ++ b)) := by
 refine pW tG (rs := [.tmp 2]) Tryz.func29 rfl rfl rfl (by simp) (by simp) (fun B => ?_)
 refine zu1 ?_
 refine zu1 ?_
 refine Ws ?_
 refine zu3 ?_
 refine Wl ?_
 refine W_rounds 3 ?_
 show W _ _ _ _ _ _ _
 refine zu1 ?_
 refine Ws ?_
 refine Wt rfl (by rfl) ?_
 refine Wj ?_
 refine Ws ?_
 refine Wl ?_
 refine z8 ?_
 refine Wv tG rfl rfl rfl (by (simp_all; done)) (iN cRow 1 (fun _ => rfl) [] (by (simp_all; done))) ?_
 refine z1 ?_
 refine Wa 14 rfl (show _ = sq cInt a from rfl) ?_
 refine zs1 ?_
 refine zu5 ?_
 refine zu2 ?_
 refine Wf rfl (by (simp only [i64w, decide_eq_false_iff_not]; unfold wrap64; omega)) ?_
 refine Wj ?_
 refine W_region rfl ?_
 refine z1 ?_
 refine Wa 22 rfl (show _ = PV.val (.int .i64 1) from rfl) ?_
 refine zs1 ?_
 show W _ _ _ _ _ _ _
 refine zu1 ?_
 refine Ws ?_
 refine Wt rfl (by rfl) ?_
 refine Wj ?_
 refine Ws ?_
 refine Wl ?_
 refine z8 ?_
 refine Wv tG rfl rfl rfl (by (simp_all; done)) (iN cRow 1 (fun _ => rfl) [] (by (simp_all; done))) ?_
 refine z1 ?_
 refine Wa 14 rfl (show _ = sq cInt b from rfl) ?_
 refine zs1 ?_
 refine zu5 ?_
 refine zu2 ?_
 refine Wf rfl (by (simp only [i64w, decide_eq_false_iff_not]; unfold wrap64; omega)) ?_
 refine Wj ?_
 refine W_region rfl ?_
 refine z1 ?_
 refine Wa 22 rfl (show _ = PV.val (.int .i64 2) from rfl) ?_
 refine zs1 ?_
 show W _ _ _ _ _ _ _
 refine zu1 ?_
 refine Ws ?_
 refine Wf rfl (by rfl) ?_
 refine W_exit ?_
 refine zp1 ?_
 refine Wa 23 rfl (sum2 ha hb) ?_
 refine Wc rfl rfl (does_grow rfl rfl (by omega)) ?_
 refine zs1 ?_
 refine Ws ?_
 refine zu3 ?_
 refine Wl ?_
 refine W_rounds 3 ?_
 show W _ _ _ _ _ _ _
 refine zu1 ?_
 refine Ws ?_
 refine Wt rfl (by rfl) ?_
 refine Wj ?_
 refine Ws ?_
 refine Wl ?_
 refine z8 ?_
 refine Wv tG rfl rfl rfl (by (simp_all; done)) (iN cRow 1 (fun _ => rfl) [] (by (simp_all; done))) ?_
 refine z1 ?_
 refine Wa 30 rfl (show _ = sq cInt a from rfl) ?_
 refine zs1 ?_
 refine W_region rfl ?_
 refine zy2 ?_
 refine Wd rfl rfl (does_append_own (lO tG rfl) rfl (lO tG rfl) (lO tG rfl) rfl rfl rfl rfl (by simp) (by exact ⟨_, rfl⟩) (by exact ⟨rfl, rfl, flatMap_len _ 1 (fun _ => rfl) _, okC_flat _ (fun _ => rfl) _⟩) (by (dsimp only; omega)) (by (omega))) ?_
 refine Wa 33 rfl (sq_none cInt) ?_
 refine zs1 ?_
 refine W_region rfl ?_
 refine z1 ?_
 refine Wa 34 rfl (show _ = PV.val (.int .i64 1) from rfl) ?_
 refine zs1 ?_
 show W _ _ _ _ _ _ _
 refine zu1 ?_
 refine Ws ?_
 refine Wt rfl (by rfl) ?_
 refine Wj ?_
 refine Ws ?_
 refine Wl ?_
 refine z8 ?_
 refine Wv tG rfl rfl rfl (by (simp_all; done)) (iN cRow 1 (fun _ => rfl) [] (by (simp_all; done))) ?_
 refine z1 ?_
 refine Wa 30 rfl (show _ = sq cInt b from rfl) ?_
 refine zs1 ?_
 refine W_region rfl ?_
 refine zy2 ?_
 refine Wd rfl rfl (does_append_own (lO tG rfl) rfl (lO tG rfl) (lO tG rfl) rfl rfl rfl rfl (by simp) (by exact ⟨_, rfl⟩) (by exact ⟨rfl, rfl, flatMap_len _ 1 (fun _ => rfl) _, okC_flat _ (fun _ => rfl) _⟩) (by (dsimp only; omega)) (by (omega))) ?_
 refine Wa 33 rfl (sq_append cInt) ?_
 refine zs1 ?_
 refine W_region rfl ?_
 refine z1 ?_
 refine Wa 34 rfl (show _ = PV.val (.int .i64 2) from rfl) ?_
 refine zs1 ?_
 show W _ _ _ _ _ _ _
 refine zu1 ?_
 refine Ws ?_
 refine Wf rfl (by rfl) ?_
 refine W_exit ?_
 refine zu2 ?_
 refine zR ?_
 rfl
end Go.Proofs.YtphgdofmjpdhaaaGreat
namespace Go.Proofs.YtphgdofmjpdhaaaGreat
open Go.RowKit
set_option maxRecDepth 100000
set_option maxHeartbeats 4000000
theorem take_same {α : Type} {a b : List α} {k : Nat} (d : α) (hl : a.length = b.length) (hk : k < a.length) (h : a.take k = b.take k) (he : a.getD k d = b.getD k d) : a.take (k + 1) = b.take (k + 1) := by
 rw [take_snoc' a k d hk, take_snoc' b k d (by omega), h, he]
theorem not_same {α : Type} {a b : List α} {k : Nat} (d : α) (he : a.getD k d ≠ b.getD k d) : a ≠ b := fun h => he (by rw [h])
theorem ref_Same4 (a b : List Int) (ha : a.length ≤ 1000000) (hb : b.length ≤ 1000000) : PureC Tryz.prog 23 [sq cInt a, sq cInt b] (boo (decide (a = b))) := by
 refine pW tG (rs := [.tmp 4]) Tryz.func23 rfl rfl rfl (by simp) (by simp) (fun B => ?_)
 refine zu1 ?_
 refine Ws ?_
 refine zu5 ?_
 refine Wi rfl (fun hi1 => ?_) (fun hi1 => ?_)
 ·have hne : a ≠ b := fun h => by subst h; simp at hi1
  refine zu1 ?_
  refine zR ?_
  exact congrArg boo (decide_eq_false hne).symm
 ·have hl : a.length = b.length := by (try simp only [dnL] at *); omega
  refine Wj ?_
  refine Ws ?_
  refine zu1 ?_
  refine Wl ?_
  show W _ _ _ _ _ _ _
  refine W_loopS (fun (k : Nat) => [(0, sq cInt a), (1, sq cInt b), (5, i64 k)]) (fun (k : Nat) => []) (fun (k : Nat) => []) (fun (k : Nat) => k ≤ a.length ∧ a.take k = b.take k) (fun (k : Nat) => a.length - k) (0) (by simp) [] ?_ ?_
  ·exact fitT
  ·intro k hk
   refine Ws ?_
   refine zu4 ?_
   refine Wi rfl (fun hi2 => ?_) (fun hi2 => ?_)
   ·have hlt : k < a.length := by have := oT hi2; omega
    refine Wj ?_
    refine Ws ?_
    refine Wl ?_
    refine Ws ?_
    refine W_drawU [0, 0, 0, 1, 0, 0, 0, 1, 0] [0, 1, 2, 3, 4, 5, 6, 7, 8] mG rfl (by kernel_rfl) ?_
    iterate 2 refine z3 ?_
    refine Xi tG rfl rfl rfl rfl (fun _ => rfl) (by omega) (iN cInt 1 (fun _ => rfl) 0 (by omega)) ?_
    refine z5 ?_
    iterate 2 refine z3 ?_
    refine Xi tG rfl rfl rfl rfl (fun _ => rfl) (by omega) (iN cInt 1 (fun _ => rfl) 0 (by omega)) ?_
    refine z5 ?_
    refine z3 ?_
    refine WU_nil ?_
    refine Wi rfl (fun hi3 => ?_) (fun hi3 => ?_)
    ·have hne : a ≠ b := not_same 0 (k := k) (by simpa using hi3)
     refine zu1 ?_
     refine zR ?_
     exact congrArg boo (decide_eq_false hne).symm
    ·have he : a.getD k 0 = b.getD k 0 := by simpa using hi3
     refine Wj ?_
     refine W_region rfl ?_
     refine zs3 ?_
     exact ⟨k + 1, [], (by exact ⟨by omega, take_same 0 hl hlt hk.2 he⟩), (by omega), fitT⟩
   ·have hge : a.length ≤ k := by have := oF hi2; omega
    refine W_exit ?_
    refine zu1 ?_
    refine zR ?_
    exact congrArg boo (decide_eq_true (by have h1 := hk.2; rw [take_all' a k hge, take_all' b k (by omega)] at h1; exact h1)).symm
end Go.Proofs.YtphgdofmjpdhaaaGreat
namespace Go.Proofs.YtphgdofmjpdhaaaGreat
open Go.RowKit
set_option maxRecDepth 100000
set_option maxHeartbeats 4000000
theorem ref_Same7 (a b : VPic) : PureC Tryz.prog 37 [ePic a, ePic b] (boo (decide (a = b))) := by
 refine pW tG (rs := [.tmp 4]) Tryz.func37 rfl rfl rfl (by simp) (by simp) (fun B => ?_)
 refine zu3 ?_
 refine zp5 ?_
 refine z1 ?_
 refine Wb 10 rfl (fun hg1 => ?_) (fun hg1 => ?_)
 ·refine zy2 ?_
  refine Wd rfl rfl (does_bytes_str (lO tG rfl) rfl (lO tG rfl) rfl (lO tG rfl) rfl rfl rfl) ?_
  refine zy2 ?_
  refine Wd rfl rfl (does_bytes_str (lO tG rfl) rfl (lO tG rfl) rfl (lO tG rfl) rfl rfl rfl) ?_
  refine z1 ?_
  refine Wa 17 rfl (str_eql _ _) ?_
  refine zs2 ?_
  refine zR ?_
  (refine congrArg boo ?_; cases a; cases b; simp_all; done)
 ·refine z6 ?_
  iterate 6 refine z6 ?_
  refine zs2 ?_
  refine zR ?_
  (refine congrArg boo ?_; cases a; cases b; simp_all; done)
theorem frame_ext {x y : VFrame} (h1 : x.d = y.d) (h2 : x.r = y.r) (h3 : x.ip = y.ip) : x = y := by cases x; cases y; simp_all
theorem ref_frames (a b : List VFrame) (ha : a.length ≤ 1000000) (hb : b.length ≤ 1000000) : PureC Tryz.prog 35 [sq cFrame a, sq cFrame b] (boo (decide (a = b))) := by
 refine pW tG (rs := [.tmp 4]) Tryz.func35 rfl rfl rfl (by simp) (by simp) (fun B => ?_)
 refine zu1 ?_
 refine Ws ?_
 refine zu5 ?_
 refine Wi rfl (fun hi1 => ?_) (fun hi1 => ?_)
 ·have hne : a ≠ b := fun h => by subst h; simp at hi1
  refine zu1 ?_
  refine zR ?_
  exact congrArg boo (decide_eq_false hne).symm
 ·have hl : a.length = b.length := by (try simp only [dnL] at *); omega
  refine Wj ?_
  refine Ws ?_
  refine zu1 ?_
  refine Wl ?_
  show W _ _ _ _ _ _ _
  refine W_loopS (fun (k : Nat) => [(0, sq cFrame a), (1, sq cFrame b), (5, i64 k)]) (fun (k : Nat) => []) (fun (k : Nat) => []) (fun (k : Nat) => k ≤ a.length ∧ a.take k = b.take k) (fun (k : Nat) => a.length - k) (0) (by simp) [] ?_ ?_
  ·exact fitT
  ·intro k hk
   refine Ws ?_
   refine zu4 ?_
   refine Wi rfl (fun hi2 => ?_) (fun hi2 => ?_)
   ·have hlt : k < a.length := by have := oT hi2; omega
    refine Wj ?_
    refine Ws ?_
    refine Wl ?_
    refine Ws ?_
    refine W_drawU [0, 0, 0, 0, 1, 0, 0, 0, 0, 1, 0, 0, 0, 0, 0, 0, 1, 0, 0, 0, 0, 1, 0, 0, 0, 0, 0, 0, 0, 1, 0, 0, 0, 0, 1, 0, 0] [0, 1, 2, 3, 4, 5, 6, 7, 8, 9, 10, 11, 12, 13, 14, 15, 16, 17, 18, 19, 20, 21, 22, 23, 24, 25, 26, 27, 28, 29, 30, 31, 32, 33, 34, 35, 36] mG rfl (by kernel_rfl) ?_
    iterate 2 refine z3 ?_
    refine Xi tG rfl rfl rfl rfl (fun _ => rfl) (by omega) (iN cFrame 3 (fun _ => rfl) default (by omega)) ?_
    refine z3 ?_
    refine z5 ?_
    iterate 2 refine z3 ?_
    refine Xi tG rfl rfl rfl rfl (fun _ => rfl) (by omega) (iN cFrame 3 (fun _ => rfl) default (by omega)) ?_
    refine z3 ?_
    refine z5 ?_
    iterate 2 refine z3 ?_
    refine WU_split 28 rfl (fun hg1 => ?_) (fun hg1 => ?_)
    ·refine z7 ?_
     iterate 10 refine z7 ?_
     iterate 2 refine z3 ?_
     iterate 11 refine z7 ?_
     refine z3 ?_
     refine WU_nil ?_
     refine Wt rfl rfl ?_
     refine zu1 ?_
     refine zR ?_
     refine congrArg boo (decide_eq_false fun h => ?_).symm; subst h; simp_all
    ·refine z3 ?_
     refine z3 ?_
     refine Xi tG rfl rfl rfl rfl (fun _ => rfl) (by omega) (iN cFrame 3 (fun _ => rfl) default (by omega)) ?_
     refine z3 ?_
     refine z5 ?_
     iterate 2 refine z3 ?_
     refine Xi tG rfl rfl rfl rfl (fun _ => rfl) (by omega) (iN cFrame 3 (fun _ => rfl) default (by omega)) ?_
     refine z3 ?_
     refine z5 ?_
     iterate 3 refine z3 ?_
     refine WU_split 41 rfl (fun hg2 => ?_) (fun hg2 => ?_)
     ·refine z7 ?_
      iterate 10 refine z7 ?_
      refine z3 ?_
      refine WU_nil ?_
      refine Wt rfl rfl ?_
      refine zu1 ?_
      refine zR ?_
      refine congrArg boo (decide_eq_false fun h => ?_).symm; subst h; simp_all
     ·refine z3 ?_
      refine z3 ?_
      refine Xi tG rfl rfl rfl rfl (fun _ => rfl) (by omega) (iN cFrame 3 (fun _ => rfl) default (by omega)) ?_
      refine z3 ?_
      refine z5 ?_
      iterate 2 refine z3 ?_
      refine Xi tG rfl rfl rfl rfl (fun _ => rfl) (by omega) (iN cFrame 3 (fun _ => rfl) default (by omega)) ?_
      refine z3 ?_
      refine z5 ?_
      iterate 2 refine z3 ?_
      refine WU_nil ?_
      refine Wi rfl (fun hi3 => ?_) (fun hi3 => ?_)
      ·refine zu1 ?_
       refine zR ?_
       refine congrArg boo (decide_eq_false fun h => ?_).symm; subst h; simp_all
      ·refine Wj ?_
       refine W_region rfl ?_
       refine zs3 ?_
       have he : a.getD k default = b.getD k default := (by (try simp only [dnL] at *); exact frame_ext (by omega) (by omega) (by omega))
       exact ⟨k + 1, [], (by exact ⟨by omega, take_same default hl hlt hk.2 he⟩), (by omega), fitT⟩
   ·have hge : a.length ≤ k := by have := oF hi2; omega
    refine W_exit ?_
    refine zu1 ?_
    refine zR ?_
    exact congrArg boo (decide_eq_true (by have h1 := hk.2; rw [take_all' a k hge, take_all' b k (by omega)] at h1; exact h1)).symm
end Go.Proofs.YtphgdofmjpdhaaaGreat
namespace Go.Proofs.YtphgdofmjpdhaaaGreat
open Go.RowKit
set_option maxRecDepth 100000
set_option maxHeartbeats 4000000
theorem patch_ext {x y : VPatch} (h1 : x.place = y.place) (h2 : x.old = y.old) : x = y := by cases x; cases y; simp_all
theorem ref_Same3 (a b : VMem) (ha : a.old.length ≤ 1000000) (hb : b.old.length ≤ 1000000) : PureC Tryz.prog 34 [eMem a, eMem b] (boo (decide (a = b))) := by
 refine pW tG (rs := [.tmp 4]) Tryz.func34 rfl rfl rfl (by simp) (by simp) (fun B => ?_)
 refine zu3 ?_
 refine Ws ?_
 refine zp2 ?_
 refine Wd rfl rfl (does_bytes_str (lO tG rfl) rfl (lO tG rfl) rfl (lO tG rfl) rfl rfl rfl) ?_
 refine zy2 ?_
 refine Wd rfl rfl (does_bytes_str (lO tG rfl) rfl (lO tG rfl) rfl (lO tG rfl) rfl rfl rfl) ?_
 refine z1 ?_
 refine Wa 12 rfl (str_neq _ _) ?_
 refine z1 ?_
 refine Wb 13 rfl (fun hg1 => ?_) (fun hg1 => ?_)
 ·refine z6 ?_
  iterate 6 refine z6 ?_
  refine zs1 ?_
  refine Wt rfl rfl ?_
  refine zu1 ?_
  refine zR ?_
  refine congrArg boo (decide_eq_false fun h => ?_).symm; subst h; simp_all
 ·refine zy5 ?_
  refine zs3 ?_
  refine Wi rfl (fun hi1 => ?_) (fun hi1 => ?_)
  ·have hne : a ≠ b := fun h => by subst h; simp at hi1
   refine zu1 ?_
   refine zR ?_
   refine congrArg boo (decide_eq_false fun h => ?_).symm; subst h; simp_all
  ·have hl : a.old.length = b.old.length := by (try simp only [dnL] at *); omega
   have hb0 : a.b = b.b := by (try simp only [dnL] at *); simp_all
   refine Wj ?_
   refine Ws ?_
   refine zu1 ?_
   refine Wl ?_
   show W _ _ _ _ _ _ _
   refine W_loopS (fun (k : Nat) => [(2, .ptr 0 0), (3, .ptr 1 0), (5, i64 k)]) (fun (k : Nat) => [.cells (cMem a) 27, .cells (cMem b) 27]) (fun (k : Nat) => []) (fun (k : Nat) => k ≤ a.old.length ∧ a.old.take k = b.old.take k) (fun (k : Nat) => a.old.length - k) (0) (by simp) [] ?_ ?_
   ·exact fitT
   ·intro k hk
    refine Ws ?_
    refine zu5 ?_
    refine Wi rfl (fun hi2 => ?_) (fun hi2 => ?_)
    ·have hlt : k < a.old.length := by have := oT hi2; omega
     refine Wj ?_
     refine Ws ?_
     refine Wl ?_
     refine Ws ?_
     refine W_drawU [0, 1, 0, 0, 0, 1, 0, 1, 0, 0, 0, 1, 0, 0, 0, 1, 0, 0, 0, 1, 0, 0, 1, 0, 0, 0, 1, 0, 0, 0] [0, 1, 2, 3, 4, 5, 6, 7, 8, 9, 10, 11, 12, 13, 14, 15, 16, 17, 18, 19, 20, 21, 22, 23, 24, 25, 26, 27, 28, 29] mG rfl (by kernel_rfl) ?_
     refine z3 ?_
     refine z5 ?_
     refine z3 ?_
     refine Xi tG rfl rfl rfl rfl (fun _ => rfl) (by omega) (iN cPatch 2 (fun _ => rfl) default (by omega)) ?_
     refine z3 ?_
     refine z5 ?_
     refine z3 ?_
     refine z5 ?_
     refine z3 ?_
     refine Xi tG rfl rfl rfl rfl (fun _ => rfl) (by omega) (iN cPatch 2 (fun _ => rfl) default (by omega)) ?_
     refine z3 ?_
     refine z5 ?_
     iterate 2 refine z3 ?_
     refine WU_split 42 rfl (fun hg2 => ?_) (fun hg2 => ?_)
     ·refine z7 ?_
      iterate 14 refine z7 ?_
      refine z3 ?_
      refine WU_nil ?_
      refine Wt rfl rfl ?_
      refine zu1 ?_
      refine zR ?_
      refine congrArg boo (decide_eq_false fun h => ?_).symm; subst h; simp_all
     ·refine z3 ?_
      refine z5 ?_
      refine z3 ?_
      refine Xi tG rfl rfl rfl rfl (fun _ => rfl) (by omega) (iN cPatch 2 (fun _ => rfl) default (by omega)) ?_
      refine z3 ?_
      refine z5 ?_
      refine WU_does0 rfl rfl rfl rfl (fun _ => does_bytes_str (lO tG rfl) rfl (lO tG rfl) rfl (lO tG rfl) rfl rfl rfl) ?_
      refine z3 ?_
      refine z5 ?_
      refine z3 ?_
      refine Xi tG rfl rfl rfl rfl (fun _ => rfl) (by omega) (iN cPatch 2 (fun _ => rfl) default (by omega)) ?_
      refine z3 ?_
      refine z5 ?_
      refine WU_does0 rfl rfl rfl rfl (fun _ => does_bytes_str (lO tG rfl) rfl (lO tG rfl) rfl (lO tG rfl) rfl rfl rfl) ?_
      refine z3 ?_
      refine Xa 57 rfl (str_neq _ _) ?_
      refine z3 ?_
      refine WU_nil ?_
      refine Wi rfl (fun hi3 => ?_) (fun hi3 => ?_)
      ·refine zu1 ?_
       refine zR ?_
       refine congrArg boo (decide_eq_false fun h => ?_).symm; subst h; simp_all
      ·refine Wj ?_
       refine W_region rfl ?_
       refine zs3 ?_
       have he : a.old.getD k default = b.old.getD k default := (by (try simp only [dnL] at *); exact patch_ext (by omega) (by assumption))
       exact ⟨k + 1, [], (by exact ⟨by omega, take_same default hl hlt hk.2 he⟩), (by omega), fitT⟩
    ·have hge : a.old.length ≤ k := by have := oF hi2; omega
     refine W_exit ?_
     refine zu1 ?_
     refine zR ?_
     exact congrArg boo (decide_eq_true (by have h1 := hk.2; rw [take_all' _ k hge, take_all' _ k (by omega)] at h1; cases a; cases b; simp_all)).symm
end Go.Proofs.YtphgdofmjpdhaaaGreat
namespace Go.Proofs.YtphgdofmjpdhaaaGreat
open Go.RowKit
set_option maxRecDepth 100000
set_option maxHeartbeats 4000000
def fitsV (c : VConf) : Prop := 2048 ≤ c.mem ∧ c.mem ≤ 65536 ∧ c.mem.tmod 8 = 0 ∧ 1 ≤ c.data ∧ c.data ≤ 256 ∧ 1 ≤ c.ret ∧ c.ret ≤ 256 ∧ 200 ≤ c.words ∧ c.words ≤ 1024 ∧ 0 ≤ c.out ∧ c.out ≤ 65536
instance (c : VConf) : Decidable (fitsV c) := by unfold fitsV; infer_instance
theorem ref_Fits (c : VConf) : PureC Tryz.prog 40 [eConf c] (boo (decide (fitsV c))) := by
 refine pW tG (rs := [.tmp 2]) Tryz.func40 rfl rfl rfl (by simp) (by simp) (fun B => ?_)
 refine zu2 ?_
 refine zp4 ?_
 refine Wb 6 rfl (fun hg1 => ?_) (fun hg1 => ?_)
 ·refine zy5 ?_
  refine Wb 11 rfl (fun hg2 => ?_) (fun hg2 => ?_)
  ·refine zy5 ?_
   refine z1 ?_
   refine Wb 17 rfl (fun hg3 => ?_) (fun hg3 => ?_)
   ·refine zy5 ?_
    refine Wb 22 rfl (fun hg4 => ?_) (fun hg4 => ?_)
    ·refine zy5 ?_
     refine Wb 27 rfl (fun hg5 => ?_) (fun hg5 => ?_)
     ·refine zy5 ?_
      refine Wb 32 rfl (fun hg6 => ?_) (fun hg6 => ?_)
      ·refine zy5 ?_
       refine Wb 37 rfl (fun hg7 => ?_) (fun hg7 => ?_)
       ·refine zy5 ?_
        refine Wb 42 rfl (fun hg8 => ?_) (fun hg8 => ?_)
        ·refine zy5 ?_
         refine Wb 47 rfl (fun hg9 => ?_) (fun hg9 => ?_)
         ·refine zy5 ?_
          refine Wb 52 rfl (fun hg10 => ?_) (fun hg10 => ?_)
          ·refine zs5 ?_
           refine zR ?_
           (refine congrArg boo (decide_eq_decide.2 ?_); unfold fitsV; (try simp only [dnL] at *); omega)
          ·refine z6 ?_
           iterate 2 refine z6 ?_
           refine zs2 ?_
           refine zR ?_
           (refine congrArg boo (decide_eq_false ?_).symm; unfold fitsV; (try simp only [dnL] at *); omega)
         ·refine z6 ?_
          iterate 2 refine z6 ?_
          refine zy2 ?_
          iterate 3 refine z6 ?_
          refine zs2 ?_
          refine zR ?_
          (refine congrArg boo (decide_eq_false ?_).symm; unfold fitsV; (try simp only [dnL] at *); omega)
        ·refine z6 ?_
         iterate 2 refine z6 ?_
         refine zy2 ?_
         iterate 3 refine z6 ?_
         refine zy2 ?_
         iterate 3 refine z6 ?_
         refine zs2 ?_
         refine zR ?_
         (refine congrArg boo (decide_eq_false ?_).symm; unfold fitsV; (try simp only [dnL] at *); omega)
       ·refine z6 ?_
        iterate 2 refine z6 ?_
        refine zy2 ?_
        iterate 3 refine z6 ?_
        refine zy2 ?_
        iterate 3 refine z6 ?_
        refine zy2 ?_
        iterate 3 refine z6 ?_
        refine zs2 ?_
        refine zR ?_
        (refine congrArg boo (decide_eq_false ?_).symm; unfold fitsV; (try simp only [dnL] at *); omega)
      ·refine z6 ?_
       iterate 2 refine z6 ?_
       refine zy2 ?_
       iterate 3 refine z6 ?_
       refine zy2 ?_
       iterate 3 refine z6 ?_
       refine zy2 ?_
       iterate 3 refine z6 ?_
       refine zy2 ?_
       iterate 3 refine z6 ?_
       refine zs2 ?_
       refine zR ?_
       (refine congrArg boo (decide_eq_false ?_).symm; unfold fitsV; (try simp only [dnL] at *); omega)
     ·refine z6 ?_
      iterate 2 refine z6 ?_
      refine zy2 ?_
      iterate 3 refine z6 ?_
      refine zy2 ?_
      iterate 3 refine z6 ?_
      refine zy2 ?_
      iterate 3 refine z6 ?_
      refine zy2 ?_
      iterate 3 refine z6 ?_
      refine zy2 ?_
      iterate 3 refine z6 ?_
      refine zs2 ?_
      refine zR ?_
      (refine congrArg boo (decide_eq_false ?_).symm; unfold fitsV; (try simp only [dnL] at *); omega)
    ·refine z6 ?_
     iterate 2 refine z6 ?_
     refine zy2 ?_
     iterate 3 refine z6 ?_
     refine zy2 ?_
     iterate 3 refine z6 ?_
     refine zy2 ?_
     iterate 3 refine z6 ?_
     refine zy2 ?_
     iterate 3 refine z6 ?_
     refine zy2 ?_
     iterate 3 refine z6 ?_
     refine zy2 ?_
     iterate 3 refine z6 ?_
     refine zs2 ?_
     refine zR ?_
     (refine congrArg boo (decide_eq_false ?_).symm; unfold fitsV; (try simp only [dnL] at *); omega)
   ·refine z6 ?_
    iterate 2 refine z6 ?_
    refine zy2 ?_
    iterate 3 refine z6 ?_
    refine zy2 ?_
    iterate 3 refine z6 ?_
    refine zy2 ?_
    iterate 3 refine z6 ?_
    refine zy2 ?_
    iterate 3 refine z6 ?_
    refine zy2 ?_
    iterate 3 refine z6 ?_
    refine zy2 ?_
    iterate 3 refine z6 ?_
    refine zy2 ?_
    iterate 3 refine z6 ?_
    refine zs2 ?_
    refine zR ?_
    (refine congrArg boo (decide_eq_false ?_).symm; unfold fitsV; (try simp only [dnL] at *); omega)
  ·refine z6 ?_
   iterate 3 refine z6 ?_
   refine zy2 ?_
   iterate 3 refine z6 ?_
   refine zy2 ?_
   iterate 3 refine z6 ?_
   refine zy2 ?_
   iterate 3 refine z6 ?_
   refine zy2 ?_
   iterate 3 refine z6 ?_
   refine zy2 ?_
   iterate 3 refine z6 ?_
   refine zy2 ?_
   iterate 3 refine z6 ?_
   refine zy2 ?_
   iterate 3 refine z6 ?_
   refine zy2 ?_
   iterate 3 refine z6 ?_
   refine zs2 ?_
   refine zR ?_
   (refine congrArg boo (decide_eq_false ?_).symm; unfold fitsV; (try simp only [dnL] at *); omega)
 ·refine z6 ?_
  iterate 2 refine z6 ?_
  refine zy2 ?_
  iterate 4 refine z6 ?_
  refine zy2 ?_
  iterate 3 refine z6 ?_
  refine zy2 ?_
  iterate 3 refine z6 ?_
  refine zy2 ?_
  iterate 3 refine z6 ?_
  refine zy2 ?_
  iterate 3 refine z6 ?_
  refine zy2 ?_
  iterate 3 refine z6 ?_
  refine zy2 ?_
  iterate 3 refine z6 ?_
  refine zy2 ?_
  iterate 3 refine z6 ?_
  refine zy2 ?_
  iterate 3 refine z6 ?_
  refine zs2 ?_
  refine zR ?_
  (refine congrArg boo (decide_eq_false ?_).symm; unfold fitsV; (try simp only [dnL] at *); omega)
def picRight (p : VPic) : Prop := p.b.length ≤ 130 ∧ (p.on = true ∨ p.b.length = 0)
instance (p : VPic) : Decidable (picRight p) := by unfold picRight; infer_instance
theorem ref_Right7 (p : VPic) : PureC Tryz.prog 43 [ePic p] (boo (decide (picRight p))) := by
 refine pW tG (rs := [.tmp 2]) Tryz.func43 rfl rfl rfl (by simp) (by simp) (fun B => ?_)
 refine zu2 ?_
 refine zp5 ?_
 refine Wb 7 rfl (fun hg1 => ?_) (fun hg1 => ?_)
 ·refine zy3 ?_
  refine Wb 10 rfl (fun hg2 => ?_) (fun hg2 => ?_)
  ·refine z6 ?_
   iterate 3 refine z6 ?_
   refine zs3 ?_
   refine zR ?_
   (refine congrArg boo ?_; rw [Bool.eq_iff_iff]; unfold picRight; (try simp only [dnL] at *); simp_all; omega)
  ·refine zy5 ?_
   refine zs2 ?_
   refine zR ?_
   (refine congrArg boo ?_; rw [Bool.eq_iff_iff]; unfold picRight; (try simp only [dnL] at *); simp_all; done)
 ·refine z6 ?_
  iterate 7 refine z6 ?_
  refine zs2 ?_
  refine zR ?_
  (refine congrArg boo ?_; rw [Bool.eq_iff_iff]; unfold picRight; (try simp only [dnL] at *); simp_all; omega)
end Go.Proofs.YtphgdofmjpdhaaaGreat
namespace Go.Proofs.YtphgdofmjpdhaaaGreat
open Go.RowKit
set_option maxRecDepth 100000
set_option maxHeartbeats 4000000
def memRight (m : VMem) : Bool := m.old.all (fun p => memThere m p.place p.old.length) && (decide (m.b.length ≤ 65536) && decide (m.b.length % 8 = 0))
theorem all_snoc {α : Type} {f : α → Bool} {l : List α} {k : Nat} (d : α) (hk : k < l.length) (h : (l.take k).all f = true) (hf : f (l.getD k d) = true) : (l.take (k + 1)).all f = true := by
 rw [take_snoc' l k d hk, List.all_append, h]; simp only [List.all_cons, List.all_nil, hf]; rfl
theorem all_no {α : Type} {f : α → Bool} {l : List α} {k : Nat} (d : α) (hk : k < l.length) (hf : f (l.getD k d) = false) : l.all f = false := by
 rw [List.all_eq_false]
 refine ⟨l.getD k d, ?_, by rw [hf]; simp⟩
 unfold List.getD
 rw [List.getElem?_eq_getElem hk]
 exact List.getElem_mem hk
theorem mem_getD {α : Type} {l : List α} {k : Nat} (d : α) (hk : k < l.length) : l.getD k d ∈ l := by
 unfold List.getD
 rw [List.getElem?_eq_getElem hk]
 exact List.getElem_mem hk
theorem ref_There2 (m : VMem) (at_ n : Int) (hm : m.b.length ≤ 9223372036854775807) (ha : n = 0 ∨ Fit64 at_) (hn : Fit64 n) : PureC Tryz.prog 75 [eMem m, i64 at_, i64 n] (boo (memThere m at_ n)) := by
 unfold Fit64 at ha hn
 refine pW tG (rs := [.tmp 6]) Tryz.func75 rfl rfl rfl (by simp) (by simp) (fun B => ?_)
 refine zu2 ?_
 refine Ws ?_
 refine zu2 ?_
 refine Wi rfl (fun hi1 => ?_) (fun hi1 => ?_)
 ·refine zu1 ?_
  refine zR ?_
  exact congrArg boo (by (simp only [memThere, i64w]; rw [Bool.eq_iff_iff]; simp only [dnL] at *; (try simp only [i64w, wrap64] at *); omega))
 ·refine Wj ?_
  refine zp3 ?_
  refine Wb 11 rfl (fun hg1 => ?_) (fun hg1 => ?_)
  ·refine zy4 ?_
   refine Wb 15 rfl (fun hg2 => ?_) (fun hg2 => ?_)
   ·refine zy5 ?_
    refine zy2 ?_
    refine Wb 22 rfl (fun hg3 => ?_) (fun hg3 => ?_)
    ·refine zy5 ?_
     refine zs4 ?_
     refine zR ?_
     exact congrArg boo (by (simp only [memThere, i64w]; rw [Bool.eq_iff_iff]; simp only [dnL] at *; (try simp only [i64w, wrap64] at *); omega))
    ·refine z6 ?_
     iterate 6 refine z6 ?_
     refine zs2 ?_
     refine zR ?_
     exact congrArg boo (by (simp only [memThere, i64w]; rw [Bool.eq_iff_iff]; simp only [dnL] at *; (try simp only [i64w, wrap64] at *); omega))
   ·refine z6 ?_
    iterate 4 refine z6 ?_
    refine zy2 ?_
    iterate 7 refine z6 ?_
    refine zs2 ?_
    refine zR ?_
    exact congrArg boo (by (simp only [memThere, i64w]; rw [Bool.eq_iff_iff]; simp only [dnL] at *; (try simp only [i64w, wrap64] at *); omega))
  ·refine z6 ?_
   refine z6 ?_
   refine zy2 ?_
   iterate 5 refine z6 ?_
   refine zy2 ?_
   iterate 7 refine z6 ?_
   refine zs2 ?_
   refine zR ?_
   exact congrArg boo (by (simp only [memThere, i64w]; rw [Bool.eq_iff_iff]; simp only [dnL] at *; (try simp only [i64w, wrap64] at *); omega))
theorem ref_Right3 (m : VMem) (hb : m.b.length ≤ 9223372036854775807) (ho : m.old.length ≤ 9223372036854775807) (hp : ∀ p ∈ m.old, (p.old.length = 0 ∨ Fit64 p.place) ∧ p.old.length ≤ 9223372036854775807) : PureC Tryz.prog 41 [eMem m] (boo (memRight m)) := by
 refine pW tG (rs := [.tmp 2]) Tryz.func41 rfl rfl rfl (by simp) (by simp) (fun B => ?_)
 refine zu2 ?_
 refine Ws ?_
 refine zu1 ?_
 refine Wl ?_
 show W _ _ _ _ _ _ _
 refine W_loopS (fun (k : Nat) => [(1, .ptr 0 0), (3, i64 k)]) (fun (k : Nat) => [.cells (cMem m) 27]) (fun (k : Nat) => []) (fun (k : Nat) => k ≤ m.old.length ∧ (m.old.take k).all (fun p => memThere m p.place p.old.length) = true) (fun (k : Nat) => m.old.length - k) (0) (by simp) [] ?_ ?_
 ·exact fitT
 ·intro k hk
  refine Ws ?_
  refine zu5 ?_
  refine Wi rfl (fun hi1 => ?_) (fun hi1 => ?_)
  ·have hlt : k < m.old.length := by have := oT hi1; omega
   have hq := hp _ (mem_getD default hlt)
   refine Wj ?_
   refine Ws ?_
   refine Wl ?_
   refine Ws ?_
   refine W_drawU [1, 0, 1, 0, 0, 0, 1, 0, 1, 0, 0, 0, 1, 0, 0, 0] [0, 1, 2, 3, 4, 5, 6, 7, 8, 9, 10, 11, 12, 13, 14, 15] mG rfl (by kernel_rfl) ?_
   refine z5 ?_
   refine z3 ?_
   refine z5 ?_
   refine z3 ?_
   refine Xi tG rfl rfl rfl rfl (fun _ => rfl) (by omega) (iN cPatch 2 (fun _ => rfl) default (by omega)) ?_
   refine z3 ?_
   refine z5 ?_
   refine z3 ?_
   refine z5 ?_
   refine z3 ?_
   refine Xi tG rfl rfl rfl rfl (fun _ => rfl) (by omega) (iN cPatch 2 (fun _ => rfl) default (by omega)) ?_
   refine z3 ?_
   refine z5 ?_
   refine z3 ?_
   refine Xc rfl rfl rfl rfl (fun _ => dC rfl Tryz.func75 rfl rfl ((ref_There2 m (m.old.getD k default).place (m.old.getD k default).old.length (by omega) (by rcases hq.1 with h | h; exact .inl (by omega); exact .inr h) (by unfold Fit64; omega)) _)) ?_
   refine z3 ?_
   refine WU_nil ?_
   refine zu2 ?_
   refine Wi rfl (fun hi2 => ?_) (fun hi2 => ?_)
   ·have hno : m.old.all (fun p => memThere m p.place p.old.length) = false := all_no default hlt (by simpa using hi2)
    refine zu1 ?_
    refine zR ?_
    refine congrArg boo ?_; unfold memRight; rw [hno]; rfl
   ·have hyes : memThere m (m.old.getD k default).place (m.old.getD k default).old.length = true := by simpa using hi2
    refine Wj ?_
    refine W_region rfl ?_
    refine zs3 ?_
    exact ⟨k + 1, [], (by exact ⟨by omega, all_snoc default hlt hk.2 hyes⟩), (by omega), fitT⟩
  ·have hge : m.old.length ≤ k := by have := oF hi1; omega
   have hall : m.old.all (fun p => memThere m p.place p.old.length) = true := by have h1 := hk.2; rw [take_all' _ k hge] at h1; exact h1
   have ht : (m.b.length : Int).tmod 8 = ((m.b.length % 8 : Nat) : Int) := by rw [Int.tmod_eq_emod_of_nonneg (by omega)]; omega
   refine W_exit ?_
   refine zp5 ?_
   refine Wb 33 rfl (fun hg1 => ?_) (fun hg1 => ?_)
   ·refine zy5 ?_
    refine zs2 ?_
    refine zR ?_
    refine congrArg boo ?_; unfold memRight; rw [hall, Bool.true_and]; rw [Bool.eq_iff_iff]; (try simp only [dnL] at *); omega
   ·refine z6 ?_
    iterate 4 refine z6 ?_
    refine zs2 ?_
    refine zR ?_
    refine congrArg boo ?_; unfold memRight; rw [hall, Bool.true_and]; rw [Bool.eq_iff_iff]; (try simp only [dnL] at *); omega
end Go.Proofs.YtphgdofmjpdhaaaGreat
namespace Go.Proofs.YtphgdofmjpdhaaaGreat
open Go.RowKit
set_option maxRecDepth 100000
set_option maxHeartbeats 4000000
theorem ref_Names : PureC Tryz.prog 30 [] (sq cStr names) := by
 refine pW tG (rs := [.tmp 0]) Tryz.func30 rfl rfl rfl (by simp) (by simp) (fun B => ?_)
 refine zu1 ?_
 refine zp1 ?_
 refine Wa 1 rfl (bsL cStr [_, _, _, _, _, _, _, _, _, _, _, _, _, _, _, _, _, _, _, _, _, _, _, _, _, _, _, _, _, _, _, _, _, _, _, _, _, _, _, _, _, _, _, _, _, _, _, _, _, _, _, _, _, _, _, _, _, _, _, _, _, _, _, _, _, _, _, _, _, _, _, _, _, _, _, _, _, _, _, _, _, _, _, _, _, _, _, _, _, _, _, _, _, _, _, _, _, _, _, _, _, _, _, _, _, _, _, _, _, _, _, _, _, _, _, _, _, _, _, _, _, _, _, _, _, _, _, _, _, _] rfl rfl) ?_
 refine zs1 ?_
 refine zR ?_
 exact rfl
theorem vm_Specials : PureC Tryz.prog 226 [] (sq cStr specials) := by
 refine pW tG (rs := [.tmp 0]) Tryz.func226 rfl rfl rfl (by simp) (by simp) (fun B => ?_)
 refine zu1 ?_
 refine zp1 ?_
 refine Wa 1 rfl (bsL cStr [_, _, _, _, _, _, _, _, _, _, _, _, _, _, _, _, _, _, _, _, _, _, _, _, _, _, _, _, _, _, _, _, _, _, _, _, _] rfl rfl) ?_
 refine zs1 ?_
 refine zR ?_
 exact rfl
theorem ref_Specials : PureC Tryz.prog 77 [] (sq cStr specials) := by
 refine pW tG (rs := [.tmp 0]) Tryz.func77 rfl rfl rfl (by simp) (by simp) (fun B => ?_)
 refine zu1 ?_
 refine zp1 ?_
 refine Wa 1 rfl (bsL cStr [_, _, _, _, _, _, _, _, _, _, _, _, _, _, _, _, _, _, _, _, _, _, _, _, _, _, _, _, _, _, _, _, _, _, _, _, _] rfl rfl) ?_
 refine zs1 ?_
 refine zR ?_
 exact rfl
def numberS (name : Str) : Int := match names.findIdx? (fun x => decide (x = name)) with
 | some i => i
 | none => -1
theorem number_at {name : Str} {k : Nat} (hk : k < names.length) (hno : ∀ j, j < k → names.getD j [] ≠ name) (h : names.getD k [] = name) : numberS name = k := by
 have : names.findIdx? (fun x => decide (x = name)) = some k := by
  rw [List.findIdx?_eq_some_iff_getElem]
  refine ⟨hk, ?_, fun j hj => ?_⟩
  ·simp only [decide_eq_true_eq]; rw [← h]; unfold List.getD; rw [List.getElem?_eq_getElem hk]; rfl
  ·have := hno j hj
   unfold List.getD at this
   rw [List.getElem?_eq_getElem (by omega)] at this
   simpa using this
 unfold numberS
 rw [this]
theorem number_no {name : Str} (hno : ∀ j, j < names.length → names.getD j [] ≠ name) : numberS name = -1 := by
 have : names.findIdx? (fun x => decide (x = name)) = none := by
  rw [List.findIdx?_eq_none_iff]
  intro x hx
  obtain ⟨j, hj, rfl⟩ := List.mem_iff_getElem.1 hx
  have := hno j hj
  unfold List.getD at this
  rw [List.getElem?_eq_getElem hj] at this
  simpa using this
 unfold numberS
 rw [this]
theorem ref_Number (name : Str) : PureC Tryz.prog 22 [str name] (i64 (numberS name)) := by
 have hlen : names.length = 130 := names_len
 refine pW tG (rs := [.tmp 2]) Tryz.func22 rfl rfl rfl (by simp) (by simp) (fun B => ?_)
 refine zu1 ?_
 refine z8 ?_
 refine Wc rfl rfl (dC rfl Tryz.func30 rfl rfl ((ref_Names) _)) ?_
 refine zs1 ?_
 refine Ws ?_
 refine zu1 ?_
 refine Wl ?_
 show W _ _ _ _ _ _ _
 refine W_loopS (fun (k : Nat) => [(0, str name), (3, sq cStr names), (4, i64 k)]) (fun (k : Nat) => []) (fun (k : Nat) => []) (fun (k : Nat) => k ≤ names.length ∧ ∀ j, j < k → names.getD j [] ≠ name) (fun (k : Nat) => names.length - k) (0) (by simp) [] ?_ ?_
 ·exact fitT
 ·intro k hk
  refine Ws ?_
  refine zu4 ?_
  refine Wi rfl (fun hi1 => ?_) (fun hi1 => ?_)
  ·have hlt : k < names.length := by have := oT hi1; omega
   refine Wj ?_
   refine Ws ?_
   refine Wl ?_
   refine zp2 ?_
   refine Wv tG rfl rfl rfl (by omega) (iN cStr 1 (fun _ => rfl) [] (by omega)) ?_
   refine zy3 ?_
   refine Wa 17 rfl (str_eql _ _) ?_
   refine Wn ?_
   refine Wi rfl (fun hi2 => ?_) (fun hi2 => ?_)
   ·have hy : names.getD k [] = name := oT hi2
    refine zu2 ?_
    refine zR ?_
    exact congrArg i64 (number_at hlt hk.2 hy).symm
   ·have hn : names.getD k [] ≠ name := oF hi2
    refine Wj ?_
    refine W_region rfl ?_
    refine zs3 ?_
    exact ⟨k + 1, [], (by exact ⟨by omega, fun j hj => by rcases Nat.lt_or_ge j k with h | h; exact hk.2 j h; rw [show j = k by omega]; exact hn⟩), (by omega), fitT⟩
  ·have hge : names.length ≤ k := by have := oF hi1; omega
   refine W_exit ?_
   refine zu1 ?_
   refine zR ?_
   exact congrArg i64 (number_no (fun j hj => hk.2 j (by omega))).symm
end Go.Proofs.YtphgdofmjpdhaaaGreat
