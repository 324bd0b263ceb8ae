/- The walks of layer 7 (pic), part F: a pair's last digit more. By the program and by the document's answer. -/
import Derived.Test.YtpjhgokdkgnbdaaPicE
import Derived.Test.YtpjhgokdkgnbdaaNumE
import Derived.Deep.RegionWith
import Derived.Deep.DeepCutAuto
import Derived.RegionTactic
namespace Go.Proofs.Ytpjhgokdkgnbdaa
open Go.RowKit

theorem pair_div (H L B : Nat) (hB : 0 < B) (hL : L < 18446744073709551616) :
    (H * 18446744073709551616 + L) / B = (H / B) * 18446744073709551616 + ((H % B) * 18446744073709551616 + L) / B ∧ (H * 18446744073709551616 + L) % B = ((H % B) * 18446744073709551616 + L) % B ∧
    ((H % B) * 18446744073709551616 + L) / B < 18446744073709551616 := by
  have e : H * 18446744073709551616 + L = B * ((H / B) * 18446744073709551616) + ((H % B) * 18446744073709551616 + L) := by
    have h := Nat.div_add_mod H B
    have h2 : H * 18446744073709551616 = (B * (H / B) + H % B) * 18446744073709551616 := by rw [h]
    rw [h2, Nat.add_mul, Nat.mul_assoc]
    omega
  have hm := Nat.mod_lt H hB
  refine ⟨?_, ?_, ?_⟩
  · rw [e, Nat.mul_add_div hB]
  · rw [e, Nat.mul_add_mod]
  · rw [Nat.div_lt_iff_lt_mul hB]
    have : (H % B + 1) * 18446744073709551616 ≤ B * 18446744073709551616 := Nat.mul_le_mul_right _ hm
    rw [Nat.add_mul] at this
    rw [Nat.mul_comm 18446744073709551616 B]
    omega
theorem udivS_top (x : Int) (B : Nat) (h2 : 2 ≤ B) (h3 : B ≤ 36) : udivS x 0 (B : Int) = (S (U x / B), ((U x % B : Nat) : Int), 0) := by
  have e1 : U (B : Int) = B := by unfold U; omega
  have e2 : U (0 : Int) = 0 := by decide
  have e3 : PU x 0 = U x := by unfold PU; rw [e2]; omega
  unfold udivS
  rw [if_neg (by omega), e1, e2, if_neg (by omega), e3]
  have hm := Nat.mod_lt (U x) (show 0 < B by omega)
  have : S (U x % B) = ((U x % B : Nat) : Int) := by unfold S; exact wrap64_fit _ (by omega)
  rw [this]
theorem udivS_low (x : Int) (R B : Nat) (h2 : 2 ≤ B) (h3 : B ≤ 36) (hR : R < B) : udivS x (R : Int) (B : Int) = (S ((R * 18446744073709551616 + U x) / B), (((R * 18446744073709551616 + U x) % B : Nat) : Int), 0) := by
  have e1 : U (B : Int) = B := by unfold U; omega
  have e2 : U (R : Int) = R := by unfold U; omega
  have e3 : PU x (R : Int) = R * 18446744073709551616 + U x := by unfold PU; rw [e2]
  unfold udivS
  rw [if_neg (by omega), e1, e2, if_neg (by omega), e3]
  have hm := Nat.mod_lt (R * 18446744073709551616 + U x) (show 0 < B by omega)
  have : S ((R * 18446744073709551616 + U x) % B) = (((R * 18446744073709551616 + U x) % B : Nat) : Int) := by unfold S; exact wrap64_fit _ (by omega)
  rw [this]

/-- The pair behind a digit. -/
def loQ (lo hi b : Int) : Int := S (PU lo hi / b.toNat % 18446744073709551616)
def hiQ (lo hi b : Int) : Int := S (PU lo hi / b.toNat / 18446744073709551616)
def digitS (p : PicL) (lo hi b : Int) : PicL × Int × Int × Int :=
  if isB b = false then (p, lo, hi, -24) else if p.2 = true ∧ p.1.length < 130 then ((p.1 ++ [digS ((PU lo hi % b.toNat : Nat) : Int)], true), loQ lo hi b, hiQ lo hi b, 0) else (p, lo, hi, -17)
theorem quot_lo (A V : Nat) (h : V < 18446744073709551616) : (A * 18446744073709551616 + V) % 18446744073709551616 = V := by
  rw [Nat.mul_comm, Nat.mul_add_mod, Nat.mod_eq_of_lt h]
theorem quot_hi (A V : Nat) (h : V < 18446744073709551616) : (A * 18446744073709551616 + V) / 18446744073709551616 = A := by
  rw [Nat.mul_comm, Nat.mul_add_div (by omega), Nat.div_eq_of_lt h, Nat.add_zero]
theorem quot_is (lo hi : Int) (B : Nat) (h2 : 2 ≤ B) : loQ lo hi (B : Int) = S (((U hi % B) * 18446744073709551616 + U lo) / B) ∧ hiQ lo hi (B : Int) = S (U hi / B) ∧ PU lo hi % B = ((U hi % B) * 18446744073709551616 + U lo) % B := by
  obtain ⟨h3, h4, h5⟩ := pair_div (U hi) (U lo) B (by omega) (U_lt lo)
  unfold loQ hiQ PU
  rw [Int.toNat_natCast, h3, h4]
  refine ⟨?_, ?_, rfl⟩
  · rw [quot_lo _ _ h5]
  · rw [quot_hi _ _ h5]
theorem digS_byte (d : Int) : digS d % 256 = digS d := by have := digS_rng d; omega
theorem holdS_digit (p : PicL) (lo hi : Int) (B : Nat) (hb : isB (B : Int) = true) : digitS p lo hi (B : Int) = (if (holdS p (digS ((PU lo hi % B : Nat) : Int))).2 = 0 then ((holdS p (digS ((PU lo hi % B : Nat) : Int))).1, loQ lo hi B, hiQ lo hi B, 0) else (p, lo, hi, (holdS p (digS ((PU lo hi % B : Nat) : Int))).2)) := by
  unfold digitS holdS
  rw [if_neg (by rw [hb]; simp), Int.toNat_natCast]
  by_cases h : p.2 = true ∧ p.1.length < 130
  · rw [if_pos h, if_pos h, if_pos rfl, digS_byte]
  · rw [if_neg h, if_neg h, if_neg (by simp)]

theorem below_drawn {w w2 : World} {B n : Nat} (h : Below B (w.drewN n) w2) : Below B w w2 := (below_drewN (Below.refl B w) n).trans h
/-- The facts on two blocks that were laid, behind a call: with draws between, and a third block or none. -/
theorem two_blocks_d {w w2 : World} {a b c d : Value} {t u : TypeId} {n B : Nat} (h : Below B (((w.alloc (.cells #[a, b] t)).alloc (.cells #[c, d] u)).drewN n) w2) (hB : w.heap.size + 2 ≤ B) :
    w2.cell? ⟨w.heap.size, 0, none⟩ = some a ∧ w2.cell? ⟨w.heap.size, 1, none⟩ = some b ∧ w2.frozen? ⟨w.heap.size, 0, none⟩ = false ∧ w2.frozen? ⟨w.heap.size, 1, none⟩ = false ∧
    w2.cell? ⟨w.heap.size + 1, 0, none⟩ = some c ∧ w2.cell? ⟨w.heap.size + 1, 1, none⟩ = some d ∧ w2.frozen? ⟨w.heap.size + 1, 0, none⟩ = false ∧ w2.frozen? ⟨w.heap.size + 1, 1, none⟩ = false ∧ w.heap.size + 1 < w2.heap.size :=
  two_blocks ((below_drawn h).mono hB)
theorem three_blocks_d {w w2 : World} {a b c d e f : Value} {t u x : TypeId} {n B : Nat} (h : Below B ((((w.alloc (.cells #[a, b] t)).alloc (.cells #[c, d] u)).drewN n).alloc (.cells #[e, f] x)) w2) (hB : w.heap.size + 3 ≤ B) :
    w2.cell? ⟨w.heap.size + 1 + 1, 0, none⟩ = some e ∧ w2.cell? ⟨w.heap.size + 1 + 1, 1, none⟩ = some f ∧ w2.frozen? ⟨w.heap.size + 1 + 1, 0, none⟩ = false ∧ w2.frozen? ⟨w.heap.size + 1 + 1, 1, none⟩ = false ∧ w.heap.size + 1 + 1 < w2.heap.size ∧
    (w2.cell? ⟨w.heap.size, 0, none⟩ = some a ∧ w2.cell? ⟨w.heap.size, 1, none⟩ = some b ∧ w2.frozen? ⟨w.heap.size, 0, none⟩ = false ∧ w2.frozen? ⟨w.heap.size, 1, none⟩ = false ∧
    w2.cell? ⟨w.heap.size + 1, 0, none⟩ = some c ∧ w2.cell? ⟨w.heap.size + 1, 1, none⟩ = some d ∧ w2.frozen? ⟨w.heap.size + 1, 0, none⟩ = false ∧ w2.frozen? ⟨w.heap.size + 1, 1, none⟩ = false ∧ w.heap.size + 1 < w2.heap.size) := by
  have hs := h.size
  simp at hs
  have k : ∀ j, w2.cell? ⟨w.heap.size + 1 + 1, j, none⟩ = _ := fun j => h.cell (p := ⟨w.heap.size + 1 + 1, j, none⟩) (by simp; omega)
  have g : ∀ j, w2.frozen? ⟨w.heap.size + 1 + 1, j, none⟩ = _ := fun j => h.frozen (p := ⟨w.heap.size + 1 + 1, j, none⟩) (by simp; omega)
  have h2 : Below (w.heap.size + 2) (((w.alloc (.cells #[a, b] t)).alloc (.cells #[c, d] u)).drewN n) w2 := ((Below.refl _ _).alloc (by simp) _).trans (h.mono (by omega))
  refine ⟨?_, ?_, ?_, ?_, by omega, two_blocks_d h2 (Nat.le_refl _)⟩
  · rw [k, World.cell?_alloc_at _ _ _ _ (by simp)]; rfl
  · rw [k, World.cell?_alloc_at _ _ _ _ (by simp)]; rfl
  · rw [g, World.frozen?_alloc_at _ _ _ _ (by simp)]
  · rw [g, World.frozen?_alloc_at _ _ _ _ (by simp)]

/-- The world behind a text that is stored into a variable, g: two blocks lie beneath as they were laid. -/
def Stored (w w3 : World) (a b c d : Value) (g : Nat) (sl : Value) (q : PicL) : Prop :=
  BytesAt w3 sl q.1 ∧ w3.cell? ⟨g, 0, none⟩ = some sl ∧ w3.cell? ⟨g, 1, none⟩ = some (.bool q.2) ∧
  w3.cell? ⟨w.heap.size, 0, none⟩ = some a ∧ w3.cell? ⟨w.heap.size, 1, none⟩ = some b ∧ w3.cell? ⟨w.heap.size + 1, 0, none⟩ = some c ∧ w3.cell? ⟨w.heap.size + 1, 1, none⟩ = some d ∧
  w3.frozen? ⟨w.heap.size + 1, 0, none⟩ = false ∧ w3.frozen? ⟨w.heap.size + 1, 1, none⟩ = false ∧ w.heap.size + 1 < w3.heap.size ∧ Below w.heap.size w w3
theorem stored_new {w w2 : World} {a b c d : Value} {t u x : TypeId} {n B : Nat} {sl : Value} {q : PicL} (h : Below B (((w.alloc (.cells #[a, b] t)).alloc (.cells #[c, d] u)).drewN n) w2) (hB : w.heap.size + 2 ≤ B) (hs : BytesAt w2 sl q.1) :
    Stored w (w2.alloc (.cells #[sl, .bool q.2] x)) a b c d w2.heap.size sl q := by
  obtain ⟨k0, k1, k2, k3, k4, k5, k6, k7, k8⟩ := two_blocks_d h hB
  have c1 : Below w.heap.size w w2 := (((Below.refl w.heap.size w).alloc (Nat.le_refl _) _).alloc (by simp) _).trans ((below_drawn h).mono (by omega))
  refine ⟨bytesAt_below hs ((Below.refl _ _).alloc (Nat.le_refl _) _), ?_, ?_, ?_, ?_, ?_, ?_, ?_, ?_, by simp; omega, c1.alloc c1.size _⟩
  · rw [World.cell?_alloc_at _ _ _ _ rfl]; rfl
  · rw [World.cell?_alloc_at _ _ _ _ rfl]; rfl
  · rw [World.cell?_alloc_past _ _ _ (by show _ < _; omega)]; exact k0
  · rw [World.cell?_alloc_past _ _ _ (by show _ < _; omega)]; exact k1
  · rw [World.cell?_alloc_past _ _ _ (by show _ < _; omega)]; exact k4
  · rw [World.cell?_alloc_past _ _ _ (by show _ < _; omega)]; exact k5
  · rw [World.frozen?_alloc_past _ _ _ (by show _ < _; omega)]; exact k6
  · rw [World.frozen?_alloc_past _ _ _ (by show _ < _; omega)]; exact k7
theorem stored_there {w w2 : World} {a b c d s0 : Value} {o0 : Bool} {t u x : TypeId} {n B : Nat} {sl : Value} {q : PicL} (h : Below B ((((w.alloc (.cells #[a, b] t)).alloc (.cells #[c, d] u)).drewN n).alloc (.cells #[s0, .bool o0] x)) w2) (hB : w.heap.size + 3 ≤ B) (hs : BytesAt w2 sl q.1) (h0 : ∀ y, s0 ≠ .int .u8 y) :
    Stored w ((w2.setCell ⟨w.heap.size + 1 + 1, 0, none⟩ sl).setCell ⟨w.heap.size + 1 + 1, 1, none⟩ (.bool q.2)) a b c d (w.heap.size + 1 + 1) sl q := by
  obtain ⟨g0, g1, g2, g3, g4, k0, k1, k2, k3, k4, k5, k6, k7, k8⟩ := three_blocks_d h hB
  have c1 : Below w.heap.size w w2 := ((below_drewN (((Below.refl w.heap.size w).alloc (Nat.le_refl _) _).alloc (by simp) _) n).alloc (by simp; omega) _).trans (h.mono (by omega))
  have e : ∀ (p : Addr), p.block ≠ w.heap.size + 1 + 1 → ((w2.setCell ⟨w.heap.size + 1 + 1, 0, none⟩ sl).setCell ⟨w.heap.size + 1 + 1, 1, none⟩ (.bool q.2)).cell? p = w2.cell? p := fun p hp => by
    rw [World.cell?_setCell_other (h := fun e => hp (by rw [← e])), World.cell?_setCell_other (h := fun e => hp (by rw [← e]))]
  refine ⟨bytesAt_stored hs g0 g1 h0 _ _, ?_, ?_, ?_, ?_, ?_, ?_, ?_, ?_, by simp; omega, (c1.setCell (by simp; omega) _).setCell (by simp; omega) _⟩
  · rw [World.cell?_setCell_other (h := by simp)]; exact World.cell?_setCell_same _ _ _ g0
  · exact World.cell?_setCell_same _ _ _ ((World.cell?_setCell_other _ _ _ _ (by simp)).trans g1)
  · rw [e _ (by dsimp only; omega)]; exact k0
  · rw [e _ (by dsimp only; omega)]; exact k1
  · rw [e _ (by dsimp only; omega)]; exact k4
  · rw [e _ (by dsimp only; omega)]; exact k5
  · simpa [go_sem] using k6
  · simpa [go_sem] using k7

/-- What a call leaves that hands back a text under way and three numbers. -/
def GivesPic4 (w : World) (r : PicL × Int × Int × Int) (e : Ending) (w' : World) : Prop := (∃ v, e = .returned (.tuple #[v, .int .i64 r.2.1, .int .i64 r.2.2.1, .int .i64 r.2.2.2]) ∧ PicAt w' v r.1) ∧ Below w.heap.size w w'

set_option maxRecDepth 100000 in
set_option maxHeartbeats 8000000 in
theorem pic_Digit (v : Value) (p : PicL) (lo hi b : Int) (w : World) (h : PicAt w v p) : Calls Try.prog 34 #[v, .int .i64 lo, .int .i64 hi, .int .i64 b] w (GivesPic4 w (digitS p lo hi b)) := by
  obtain ⟨a, cap, rfl, hs⟩ := picAt_form h
  have b0 := fun o1 o2 => ((Below.refl w.heap.size w).alloc (Nat.le_refl _) o1).alloc (by simp) o2
  have HS := Lib.hid hs
  by_cases hb : isB b = true
  · obtain ⟨B, rfl, h2, h3⟩ := base_nat hb
    obtain ⟨e1, e2, e3⟩ := quot_is lo hi B h2
    have hD1 := fun w => cell_UDiv hi 0 (B : Int) w
    rw [udivS_top hi B h2 h3] at hD1
    have hD2 := fun w => cell_UDiv lo ((U hi % B : Nat) : Int) (B : Int) w
    rw [udivS_low lo _ B h2 h3 (Nat.mod_lt _ (by omega)), ← e3, ← e1] at hD2
    have hh := holdS_digit p lo hi B hb
    rw [← e2] at hD1
    obtain ⟨d, hd⟩ : ∃ d : Nat, PU lo hi % B = d := ⟨_, rfl⟩
    have hd35 : d ≤ 35 := by have := Nat.mod_lt (PU lo hi) (show 0 < B by omega); omega
    rw [hd] at hD2 hh
    obtain ⟨R, hR⟩ : ∃ R : Nat, U hi % B = R := ⟨_, rfl⟩
    rw [hR] at hD1 hD2
    obtain ⟨q, k, hq⟩ : ∃ q k, holdS p (digS (d : Int)) = (q, k) := ⟨_, _, rfl⟩
    rw [hq] at hh
    have hH := fun o1 o2 n => pic_Hold _ p (digS (d : Int)) (((w.alloc o1).alloc o2).drewN n) (picAt_below h (below_drewN (b0 o1 o2) n))
    rw [hq] at hH
    have hH3 := fun o1 o2 n o3 => pic_Hold _ p (digS (d : Int)) ((((w.alloc o1).alloc o2).drewN n).alloc o3) (picAt_below h ((below_drewN (b0 o1 o2) n).alloc (by simp; omega) o3))
    rw [hq] at hH3
    have HH3 := Lib.hid hH3
    have HB2 := (isB_iff _).1 hb
    have g1 : decide ((B : Int) < 2) = false := by simp; omega
    have g2 : decide (36 < (B : Int)) = false := by simp; omega
    have HD1 := Lib.hid hD1
    have HD2 := Lib.hid hD2
    have HH := Lib.hid hH
    clear hD1 hD2 hH hH3 hs h e1 e2 e3 hd hR hq hb HB2
    obtain ⟨l', hl'⟩ : ∃ l', loQ lo hi B = l' := ⟨_, rfl⟩
    obtain ⟨h', hh'⟩ : ∃ h', hiQ lo hi B = h' := ⟨_, rfl⟩
    rw [hl', hh'] at hh
    have E := Lib.hid hh
    clear hh
    rw [hl'] at HD2
    rw [hh'] at HD1
    clear hl' hh'
    have hw8 : IntKind.i64.wrap (digS (d : Int)) = digS (d : Int) := by have := digS_rng (d : Int); exact IntWalk.i64_in _ (by omega)
    go_enter Try.func34, Try.ntmps34
    go_wp2_with (first
      | (go_at_call_of 64 (Value.int IntKind.i64 hi); refine (HD1.out _).mono ?_; rintro e w1 ⟨rfl, n1, rfl⟩)
      | (go_at_call_of 64 (Value.int IntKind.i64 lo); refine (HD2.out _).mono ?_; rintro e w1 ⟨rfl, n2, rfl⟩))
    go_upto_region 5 with fail
    go_cut [18, 19] (fun s18 s19 wx => ∃ (g : Nat) (a1 : Option Addr) (cap1 : Nat), s18 = .pointer (some ⟨g, 0, none⟩) ∧ s19 = .int .i64 k ∧ Hid (Stored w wx (.slice a p.1.length cap) (.bool p.2) (.slice none 0 0) (.bool false) g (.slice a1 q.1.length cap1) q))
    case first =>
      go_region_with (first
        | (go_at_call 50; refine (num_Digit (d : Int) _).mono ?_; rintro e w' ⟨rfl, rfl⟩)
        | (go_at_call 32; (with_reducible refine (HH.out _ _ _).mono ?_); rintro e w2 ⟨⟨v1, rfl, hp1⟩, hb2⟩; obtain ⟨a1, cap1, rfl, hs1⟩ := picAt_form hp1; have hb3 := Lib.hid hb2; have hs3 := Lib.hid hs1; obtain ⟨k0, k1, k2, k3, k4, k5, k6, k7, k8⟩ := two_blocks_d hb2 (by simp); clear hb2 hs1 hp1)
        | (go_at_call 32; (with_reducible refine (HH3.out _ _ _ _).mono ?_); rintro e w2 ⟨⟨v1, rfl, hp1⟩, hb2⟩; obtain ⟨a1, cap1, rfl, hs1⟩ := picAt_form hp1; have hb3 := Lib.hid hb2; have hs3 := Lib.hid hs1; obtain ⟨g0, g1, g2, g3, g4, k0, k1, k2, k3, k4, k5, k6, k7, k8⟩ := three_blocks_d hb2 (by simp); clear hb2 hs1 hp1))
      all_goals go_wp2_with fail
      all_goals go_meet
      all_goals first
        | exact ⟨_, _, _, rfl, rfl, Lib.hid (stored_new hb3.out (by simp) hs3.out)⟩
        | exact ⟨_, _, _, rfl, rfl, Lib.hid (stored_there hb3.out (by simp) hs3.out (fun y h => by cases h))⟩
    case rest =>
      obtain ⟨g, a1, cap1, rfl, rfl, hst⟩ := hcut
      obtain ⟨m0, m1, m2, m3, m4, m5, m6, m7, m8, m9, m10⟩ := hst.out
      have M0 := Lib.hid m0
      have M10 := Lib.hid m10
      clear m0 m10 hst
      by_cases hk : k = 0
      · have t1 : (k != 0) = false := by simp [hk]
        have E1 := E.out
        simp only [hk, if_true] at E1
        have E2 := Lib.hid E1
        clear E1
        clear hk
        go_wp2
        refine bodyPost_ret (v := .tuple #[.agg #[.slice a1 q.1.length cap1, .bool q.2], .int .i64 l', .int .i64 h', .int .i64 0]) (by simp [results, Try.results34, go_sem, m5, m6]) rfl ?_
        rw [E2.out]
        exact ⟨⟨_, rfl, _, rfl, bytesAt_stored M0.out m5 m6 (fun x hx => by cases hx) _ _⟩, (M10.out.setCell (by simp) _).setCell (by simp) _⟩
      · have t1 : (k != 0) = true := by simp [hk]
        have E1 := E.out
        simp only [hk, if_false] at E1
        have E2 := Lib.hid E1
        clear E1 hk
        go_wp2
        refine bodyPost_ret (v := .tuple #[.agg #[.slice a p.1.length cap, .bool p.2], .int .i64 lo, .int .i64 hi, .int .i64 k]) (by simp [results, Try.results34, go_sem, m5, m6]) rfl ?_
        rw [E2.out]
        exact ⟨⟨_, rfl, _, rfl, bytesAt_stored (bytesAt_below HS.out M10.out) m5 m6 (fun x hx => by cases hx) _ _⟩, (M10.out.setCell (by simp) _).setCell (by simp) _⟩
  · simp only [Bool.not_eq_true] at hb
    have e : digitS p lo hi b = (p, lo, hi, -24) := by unfold digitS; rw [if_pos hb]
    have E := Lib.hid e
    have hb2 : ¬ (2 ≤ b ∧ b ≤ 36) := fun h => by rw [(isB_iff b).2 h] at hb; cases hb
    clear hb e hs h
    by_cases h2 : b < 2
    · have t : decide (b < 2) = true := by simp [h2]
      go_enter Try.func34, Try.ntmps34
      go_wp2
      refine bodyPost_ret (v := .tuple #[.agg #[.slice a p.1.length cap, .bool p.2], .int .i64 lo, .int .i64 hi, .int .i64 (-24)]) (by simp [results, Try.results34, go_sem]) rfl ?_
      rw [E.out]
      exact ⟨⟨_, rfl, _, rfl, bytesAt_below HS.out (b0 _ _)⟩, b0 _ _⟩
    · have t : decide (b < 2) = false := by simp; omega
      have t2 : decide (36 < b) = true := by simp; omega
      go_enter Try.func34, Try.ntmps34
      go_wp2
      refine bodyPost_ret (v := .tuple #[.agg #[.slice a p.1.length cap, .bool p.2], .int .i64 lo, .int .i64 hi, .int .i64 (-24)]) (by simp [results, Try.results34, go_sem]) rfl ?_
      rw [E.out]
      exact ⟨⟨_, rfl, _, rfl, bytesAt_below HS.out (b0 _ _)⟩, b0 _ _⟩
end Go.Proofs.Ytpjhgokdkgnbdaa
