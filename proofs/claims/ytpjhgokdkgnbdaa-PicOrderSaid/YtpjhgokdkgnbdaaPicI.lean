/- The walks of layer 7 (pic), part I: all digits of a pair more. -/
import Derived.Test.YtpjhgokdkgnbdaaPicH
import Derived.Deep.LoopGhost
namespace Go.Proofs.Ytpjhgokdkgnbdaa
open Go.RowKit

theorem pair_quot (lo hi : Int) (B : Nat) (h2 : 2 ≤ B) : PU (loQ lo hi B) (hiQ lo hi B) = PU lo hi / B := by
  obtain ⟨e1, e2, e3⟩ := quot_is lo hi B h2
  obtain ⟨h3, h4, h5⟩ := pair_div (U hi) (U lo) B (by omega) (U_lt lo)
  rw [e1, e2]
  have hq : U hi / B < 18446744073709551616 := Nat.lt_of_le_of_lt (Nat.div_le_self _ _) (U_lt hi)
  unfold PU
  rw [U_S _ h5, U_S _ hq, h3]
theorem pair_zero (lo hi : Int) (hl : Fit lo) (hh : Fit hi) : PU lo hi = 0 ↔ lo = 0 ∧ hi = 0 := by
  have h1 := S_U lo hl
  have h2 := S_U hi hh
  unfold PU
  constructor
  · intro h
    have a : U lo = 0 := by omega
    have b : U hi = 0 := by omega
    rw [a] at h1; rw [b] at h2
    rw [← h1, ← h2]; exact ⟨by decide +kernel, by decide +kernel⟩
  · rintro ⟨rfl, rfl⟩; decide
theorem quot_fit (lo hi b : Int) : Fit (loQ lo hi b) ∧ Fit (hiQ lo hi b) := ⟨S_rng _, S_rng _⟩
theorem pair_128 (lo hi : Int) : PU lo hi < 2 ^ 128 := by
  rw [show (2 : Nat) ^ 128 = 18446744073709551616 * 18446744073709551616 from by decide]
  have := U_lt lo; have := U_lt hi; unfold PU; omega

/-- A text with all digits of a number more, by so many rounds at most. -/
def allG (B : Nat) : Nat → PicL → Nat → Option PicL
  | 0, _, _ => none
  | r + 1, p, P => if p.2 = true ∧ p.1.length < 130 then (if P / B = 0 then some (p.1 ++ [digS ((P % B : Nat) : Int)], true) else allG B r (p.1 ++ [digS ((P % B : Nat) : Int)], true) (P / B)) else none
def all0 (B : Nat) (p : PicL) (P : Nat) : Option PicL := allG B 128 p P
def allS (p : PicL) (lo hi b : Int) : PicL × Int :=
  if isB b = false then (p, -24) else match all0 b.toNat p (PU lo hi) with | some q => (q, 0) | none => (p, -17)
theorem all0_start (B : Nat) (p : PicL) (P : Nat) : Hid (allG B 128 p P = all0 B p P) := Lib.hid rfl
theorem allG_no {B r : Nat} {p : PicL} {P : Nat} {x : Option PicL} (h : allG B (r + 1) p P = x) (hp : ¬ (p.2 = true ∧ p.1.length < 130)) : x = none := by
  rw [← h]; unfold allG; rw [if_neg hp]
theorem allG_end {B r : Nat} {p : PicL} {P : Nat} {x : Option PicL} (h : allG B (r + 1) p P = x) (hp : p.2 = true ∧ p.1.length < 130) (hz : P / B = 0) : x = some (p.1 ++ [digS ((P % B : Nat) : Int)], true) := by
  rw [← h]; unfold allG; rw [if_pos hp, if_pos hz]
theorem allG_more {B r : Nat} {p : PicL} {P : Nat} {x : Option PicL} (h : allG B (r + 1) p P = x) (hp : p.2 = true ∧ p.1.length < 130) (hz : ¬ P / B = 0) : allG B r (p.1 ++ [digS ((P % B : Nat) : Int)], true) (P / B) = x := by
  rw [← h]; conv => rhs; unfold allG
  rw [if_pos hp, if_neg hz]
theorem allS_bad (p : PicL) (lo hi b : Int) (h : isB b = false) : allS p lo hi b = (p, -24) := by unfold allS; rw [if_pos h]
theorem allS_none (p : PicL) (lo hi : Int) (B : Nat) (hb : isB (B : Int) = true) (h : all0 B p (PU lo hi) = none) : allS p lo hi B = (p, -17) := by
  unfold allS; rw [if_neg (by rw [hb]; simp), Int.toNat_natCast, h]
theorem allS_some (p q : PicL) (lo hi : Int) (B : Nat) (hb : isB (B : Int) = true) (h : all0 B p (PU lo hi) = some q) : allS p lo hi B = (q, 0) := by
  unfold allS; rw [if_neg (by rw [hb]; simp), Int.toNat_natCast, h]
theorem digitS_ok (p : PicL) (lo hi : Int) (B : Nat) (hb : isB (B : Int) = true) (h : p.2 = true ∧ p.1.length < 130) : digitS p lo hi B = ((p.1 ++ [digS ((PU lo hi % B : Nat) : Int)], true), loQ lo hi B, hiQ lo hi B, 0) := by
  unfold digitS; rw [if_neg (by rw [hb]; simp), if_pos h, Int.toNat_natCast]
theorem digitS_full (p : PicL) (lo hi : Int) (B : Nat) (hb : isB (B : Int) = true) (h : ¬ (p.2 = true ∧ p.1.length < 130)) : digitS p lo hi B = (p, lo, hi, -17) := by
  unfold digitS; rw [if_neg (by rw [hb]; simp), if_neg h]
theorem digitS_bad (p : PicL) (lo hi b : Int) (hb : isB b = false) : digitS p lo hi b = (p, lo, hi, -24) := by unfold digitS; rw [if_pos hb]

/-- The world at a round's head. -/
def AllSt (w wr : World) (s0 : Value) (on0 : Bool) (base : Int) (p : PicL) (lo hi : Int) : Prop :=
  (∃ a cap, wr.cell? ⟨w.heap.size + 1 + 1 + 1 + 1 + 1, 0, none⟩ = some (.slice a p.1.length cap) ∧ wr.cell? ⟨w.heap.size + 1 + 1 + 1 + 1 + 1, 1, none⟩ = some (.bool p.2) ∧ BytesAt wr (.slice a p.1.length cap) p.1) ∧
  wr.cell? ⟨w.heap.size + 1, 0, none⟩ = some (.int .i64 lo) ∧ wr.cell? ⟨w.heap.size + 1 + 1, 0, none⟩ = some (.int .i64 hi) ∧ wr.cell? ⟨w.heap.size + 1 + 1 + 1, 0, none⟩ = some (.int .i64 base) ∧
  wr.cell? ⟨w.heap.size, 0, none⟩ = some s0 ∧ wr.cell? ⟨w.heap.size, 1, none⟩ = some (.bool on0) ∧
  wr.cell? ⟨w.heap.size + 1 + 1 + 1 + 1, 0, none⟩ = some (.slice none 0 0) ∧ wr.cell? ⟨w.heap.size + 1 + 1 + 1 + 1, 1, none⟩ = some (.bool false) ∧
  (∀ i j, w.heap.size ≤ i → i ≤ w.heap.size + 5 → wr.frozen? ⟨i, j, none⟩ = false) ∧ w.heap.size + 5 < wr.heap.size ∧ Below w.heap.size w wr
theorem allSt_step {w wr w' : World} {s0 : Value} {on0 : Bool} {base : Int} {p q : PicL} {lo hi lo' hi' : Int} (h : AllSt w wr s0 on0 base p lo hi) (hs : StepEnd wr w' (w.heap.size + 1 + 1 + 1 + 1 + 1) (w.heap.size + 1) (w.heap.size + 1 + 1) q lo' hi') :
    AllSt w w' s0 on0 base q lo' hi' := by
  obtain ⟨_, _, _, m3, m4, m5, m6, m7, m8, m9, m10⟩ := h
  obtain ⟨e0, e1, e2, e3, e4, e5, e6, e7⟩ := hs
  refine ⟨e0, e1, e2, ?_, ?_, ?_, ?_, ?_, fun i j h1 h2 => ?_, by omega, m10.trans (e7 _ (by omega) (by omega) (by omega))⟩
  · rw [e3 _ (by dsimp only; omega) (by dsimp only; omega) (by dsimp only; omega) (by dsimp only; omega)]; exact m3
  · rw [e3 _ (by dsimp only; omega) (by dsimp only; omega) (by dsimp only; omega) (by dsimp only; omega)]; exact m4
  · rw [e3 _ (by dsimp only; omega) (by dsimp only; omega) (by dsimp only; omega) (by dsimp only; omega)]; exact m5
  · rw [e3 _ (by dsimp only; omega) (by dsimp only; omega) (by dsimp only; omega) (by dsimp only; omega)]; exact m6
  · rw [e3 _ (by dsimp only; omega) (by dsimp only; omega) (by dsimp only; omega) (by dsimp only; omega)]; exact m7
  · rw [e4 _ (by dsimp only; omega)]; exact m8 i j h1 h2

theorem allSt_start (w : World) (a : Option Addr) (cap : Nat) (p : PicL) (lo hi b : Int) (hs : BytesAt w (.slice a p.1.length cap) p.1) (t i : TypeId) :
    AllSt w ((((((w.alloc (.cells #[.slice a p.1.length cap, .bool p.2] t)).alloc (.cells #[.int .i64 lo] i)).alloc (.cells #[.int .i64 hi] i)).alloc (.cells #[.int .i64 b] i)).alloc (.cells #[.slice none 0 0, .bool false] t)).alloc (.cells #[.slice a p.1.length cap, .bool p.2] t))
      (.slice a p.1.length cap) p.2 b p lo hi := by
  have c1 : Below w.heap.size w ((((((w.alloc (.cells #[.slice a p.1.length cap, .bool p.2] t)).alloc (.cells #[.int .i64 lo] i)).alloc (.cells #[.int .i64 hi] i)).alloc (.cells #[.int .i64 b] i)).alloc (.cells #[.slice none 0 0, .bool false] t)).alloc (.cells #[.slice a p.1.length cap, .bool p.2] t)) :=
    ((((((Below.refl _ _).alloc (Nat.le_refl _) _).alloc (by simp) _).alloc (by simp; omega) _).alloc (by simp; omega) _).alloc (by simp; omega) _).alloc (by simp; omega) _
  refine ⟨⟨a, cap, ?_, ?_, bytesAt_below hs c1⟩, ?_, ?_, ?_, ?_, ?_, ?_, ?_, fun n j h1 h2 => ?_, by simp, c1⟩
  · rw [World.cell?_alloc_at _ _ _ _ (by simp)]; rfl
  · rw [World.cell?_alloc_at _ _ _ _ (by simp)]; rfl
  · rw [World.cell?_alloc_past _ _ _ (by simp only [World.size_alloc]; omega), World.cell?_alloc_past _ _ _ (by simp only [World.size_alloc]; omega), World.cell?_alloc_past _ _ _ (by simp only [World.size_alloc]; omega), World.cell?_alloc_past _ _ _ (by simp only [World.size_alloc]; omega), World.cell?_alloc_at _ _ _ _ (by simp)]; rfl
  · rw [World.cell?_alloc_past _ _ _ (by simp only [World.size_alloc]; omega), World.cell?_alloc_past _ _ _ (by simp only [World.size_alloc]; omega), World.cell?_alloc_past _ _ _ (by simp only [World.size_alloc]; omega), World.cell?_alloc_at _ _ _ _ (by simp)]; rfl
  · rw [World.cell?_alloc_past _ _ _ (by simp only [World.size_alloc]; omega), World.cell?_alloc_past _ _ _ (by simp only [World.size_alloc]; omega), World.cell?_alloc_at _ _ _ _ (by simp)]; rfl
  · rw [World.cell?_alloc_past _ _ _ (by simp only [World.size_alloc]; omega), World.cell?_alloc_past _ _ _ (by simp only [World.size_alloc]; omega), World.cell?_alloc_past _ _ _ (by simp only [World.size_alloc]; omega), World.cell?_alloc_past _ _ _ (by simp only [World.size_alloc]; omega), World.cell?_alloc_past _ _ _ (by simp only [World.size_alloc]; omega), World.cell?_alloc_at _ _ _ _ (by simp)]; rfl
  · rw [World.cell?_alloc_past _ _ _ (by simp only [World.size_alloc]; omega), World.cell?_alloc_past _ _ _ (by simp only [World.size_alloc]; omega), World.cell?_alloc_past _ _ _ (by simp only [World.size_alloc]; omega), World.cell?_alloc_past _ _ _ (by simp only [World.size_alloc]; omega), World.cell?_alloc_past _ _ _ (by simp only [World.size_alloc]; omega), World.cell?_alloc_at _ _ _ _ (by simp)]; rfl
  · rw [World.cell?_alloc_past _ _ _ (by simp only [World.size_alloc]; omega), World.cell?_alloc_at _ _ _ _ (by simp)]; rfl
  · rw [World.cell?_alloc_past _ _ _ (by simp only [World.size_alloc]; omega), World.cell?_alloc_at _ _ _ _ (by simp)]; rfl
  · have h : n = w.heap.size ∨ n = w.heap.size + 1 ∨ n = w.heap.size + 1 + 1 ∨ n = w.heap.size + 1 + 1 + 1 ∨ n = w.heap.size + 1 + 1 + 1 + 1 ∨ n = w.heap.size + 1 + 1 + 1 + 1 + 1 := by omega
    rcases h with rfl | rfl | rfl | rfl | rfl | rfl
    · rw [World.frozen?_alloc_past _ _ _ (by simp only [World.size_alloc]; omega), World.frozen?_alloc_past _ _ _ (by simp only [World.size_alloc]; omega), World.frozen?_alloc_past _ _ _ (by simp only [World.size_alloc]; omega), World.frozen?_alloc_past _ _ _ (by simp only [World.size_alloc]; omega), World.frozen?_alloc_past _ _ _ (by simp only [World.size_alloc]; omega), World.frozen?_alloc_at _ _ _ _ (by simp)]
    · rw [World.frozen?_alloc_past _ _ _ (by simp only [World.size_alloc]; omega), World.frozen?_alloc_past _ _ _ (by simp only [World.size_alloc]; omega), World.frozen?_alloc_past _ _ _ (by simp only [World.size_alloc]; omega), World.frozen?_alloc_past _ _ _ (by simp only [World.size_alloc]; omega), World.frozen?_alloc_at _ _ _ _ (by simp)]
    · rw [World.frozen?_alloc_past _ _ _ (by simp only [World.size_alloc]; omega), World.frozen?_alloc_past _ _ _ (by simp only [World.size_alloc]; omega), World.frozen?_alloc_past _ _ _ (by simp only [World.size_alloc]; omega), World.frozen?_alloc_at _ _ _ _ (by simp)]
    · rw [World.frozen?_alloc_past _ _ _ (by simp only [World.size_alloc]; omega), World.frozen?_alloc_past _ _ _ (by simp only [World.size_alloc]; omega), World.frozen?_alloc_at _ _ _ _ (by simp)]
    · rw [World.frozen?_alloc_past _ _ _ (by simp only [World.size_alloc]; omega), World.frozen?_alloc_at _ _ _ _ (by simp)]
    · rw [World.frozen?_alloc_at _ _ _ _ (by simp)]

set_option maxRecDepth 100000 in
set_option maxHeartbeats 4000000 in
theorem pic_All (v : Value) (p : PicL) (lo hi b : Int) (w : World) (h : PicAt w v p) (hl : Fit lo) (hh : Fit hi) : Calls Try.prog 36 #[v, .int .i64 lo, .int .i64 hi, .int .i64 b] w (GivesPic w (allS p lo hi b)) := by
  obtain ⟨a, cap, rfl, hs⟩ := picAt_form h
  have hmf : ∀ (fn : Fn) (first cap : Array Value) (w : World), (Instr.makeFunc fn first cap).run Try.prog w = .ok (.func fn first cap) w := fun _ _ _ _ => rfl
  have HS := Lib.hid hs
  have st := allSt_start w a cap p lo hi b hs 24 3
  have ST := Lib.hid st
  clear h hs st
  by_cases hb : isB b = true
  · obtain ⟨B, rfl, h2, h3⟩ := base_nat hb
    have HB := Lib.hid hb
    have P128 := Lib.hid (pair_128 lo hi)
    have A0 := all0_start B p (PU lo hi)
    obtain ⟨x0, hx0⟩ : ∃ x0, all0 B p (PU lo hi) = x0 := ⟨_, rfl⟩
    rw [hx0] at A0
    have HX := Lib.hid hx0
    clear hx0 hb
    go_enter Try.func36, Try.ntmps36
    go_wp2_with fail
    go_loopg [12] 128 (fun k _ wr => ∃ (r : Nat) (p' : PicL) (lo' hi' : Int), Hid (k = r + 1) ∧ Hid (AllSt w wr (.slice a p.1.length cap) p.2 B p' lo' hi') ∧ Hid (PU lo' hi' < 2 ^ (r + 1)) ∧ Fit lo' ∧ Fit hi' ∧ Hid (allG B (r + 1) p' (PU lo' hi') = x0))
    case atStart => exact ⟨127, p, lo, hi, Lib.hid rfl, ST, P128, hl, hh, A0⟩
    case round =>
      obtain ⟨r, p', lo', hi', hk, hst, hlt, fl', fh', hg⟩ := hrel
      obtain ⟨⟨a1, cap1, m0, m1, m2⟩, m3, m4, m5, m6, m7, m8, m9, m10, m11, m12⟩ := hst.out
      have STEP := Lib.hid (all_step wr _ _ _ _ p' lo' hi' B a1 cap1 m0 m1 m2 m3 m4 m5 (by omega) (by omega) (by omega) (m10 _ _ (by omega) (by omega)) (m10 _ _ (by omega) (by omega)) (m10 _ _ (by omega) (by omega)) (m10 _ _ (by omega) (by omega)))
      clear m0 m1 m2 m3 m4 m5 m6 m7 m8 m9 m10 m11 m12
      by_cases hp : p'.2 = true ∧ p'.1.length < 130
      · have hd := digitS_ok p' lo' hi' B HB.out hp
        have S0 := STEP.out
        rw [hd] at S0
        have hpq := pair_quot lo' hi' B h2
        obtain ⟨FL, FH⟩ := quot_fit lo' hi' B
        have hz0 := pair_zero _ _ FL FH
        obtain ⟨q, hq⟩ : ∃ q : PicL, (p'.1 ++ [digS ((PU lo' hi' % B : Nat) : Int)], true) = q := ⟨_, rfl⟩
        obtain ⟨l2, hl2⟩ : ∃ l2, loQ lo' hi' B = l2 := ⟨_, rfl⟩
        obtain ⟨h2', hh2⟩ : ∃ h2', hiQ lo' hi' B = h2' := ⟨_, rfl⟩
        simp only [hq, hl2, hh2] at S0
        rw [hl2, hh2] at hpq hz0
        rw [hl2] at FL
        rw [hh2] at FH
        have STEP2 := Lib.hid S0
        by_cases hz : PU lo' hi' / B = 0
        · have hx := allG_end hg.out hp hz
          rw [hq] at hx
          have E := Lib.hid (allS_some p q lo hi B HB.out (HX.out.trans hx))
          obtain ⟨e1, e2⟩ := hz0.1 (hpq.trans hz)
          have t1 : (l2 == 0) = true := by simp [e1]
          have t2 : (h2' == 0) = true := by simp [e2]
          clear S0 STEP hd hpq hz0 hq hl2 hh2 hz hx e1 e2 hp hg FL FH
          go_wp2_with fail
          refine STEP2.out.mono ?_
          rintro e w' ⟨rfl, hse⟩
          have hst2 := allSt_step hst.out hse
          have HST2 := Lib.hid hst2
          obtain ⟨⟨a2, cap2, n0, n1, n2⟩, m3, m4, m5, m6, m7, m8, m9, m10, m11, m12⟩ := hst2
          have f1 := m10 (w.heap.size + 1 + 1 + 1 + 1) 0 (by omega) (by omega)
          have f2 := m10 (w.heap.size + 1 + 1 + 1 + 1) 1 (by omega) (by omega)
          have M12 := Lib.hid m12
          have N2 := Lib.hid n2
          have hsz : w.heap.size + 1 + 1 + 1 + 1 < w'.heap.size := by omega
          clear hse hst m10 m12 n2
          clear HST2
          go_wp2
          refine bodyPost_ret (v := .tuple #[.agg #[.slice a2 q.1.length cap2, .bool q.2], .int .i64 0]) (by simp [results, Try.results36, go_sem, m8, m9]) rfl ?_
          rw [E.out]
          exact ⟨⟨_, rfl, _, rfl, bytesAt_stored N2.out m8 m9 (fun x hx => by cases hx) _ _⟩, (M12.out.setCell (by dsimp only; omega) _).setCell (by dsimp only; omega) _⟩
        · have hx := allG_more hg.out hp hz
          rw [hq] at hx
          have hr1 := r_pos hz hlt.out h2
          obtain ⟨r', hr'⟩ : ∃ r', r = r' + 1 := ⟨r - 1, by omega⟩
          have hpl := pow_half hlt.out h2
          rw [← hpq] at hpl hx
          rw [hr'] at hpl hx
          have HPL := Lib.hid hpl
          have HG := Lib.hid hx
          have hor : l2 ≠ 0 ∨ h2' ≠ 0 := by
            by_cases e1 : l2 = 0
            · exact .inr (fun e2 => hz (hpq.symm.trans (hz0.2 ⟨e1, e2⟩)))
            · exact .inl e1
          have HR' := Lib.hid hr'
          clear S0 STEP hd hpq hz0 hq hl2 hh2 hz hx hp hg hpl hr1
          by_cases e1 : l2 = 0
          · have t1 : (l2 == 0) = true := by simp [e1]
            have t2 : (h2' == 0) = false := by simp; exact hor.resolve_left (fun h => h e1)
            clear hor hr' e1
            go_wp2_with fail
            refine STEP2.out.mono ?_
            rintro e w' ⟨rfl, hse⟩
            have hst2 := allSt_step hst.out hse
            have HST2 := Lib.hid hst2
            obtain ⟨⟨a2, cap2, n0, n1, n2⟩, m3, m4, m5, m6, m7, m8, m9, m10, m11, m12⟩ := hst2
            have f1 := m10 (w.heap.size + 1 + 1 + 1 + 1) 0 (by omega) (by omega)
            have f2 := m10 (w.heap.size + 1 + 1 + 1 + 1) 1 (by omega) (by omega)
            have M12 := Lib.hid m12
            have N2 := Lib.hid n2
            have hsz : w.heap.size + 1 + 1 + 1 + 1 < w'.heap.size := by omega
            clear hse hst m10 m12 n2
            go_wp2
            go_roundg r
            case measure => have := hk.out; omega
            case rel => exact ⟨r', q, l2, h2', HR', HST2, HPL, FL, FH, HG⟩
          · have t1 : (l2 == 0) = false := by simp [e1]
            clear hor hr' e1
            go_wp2_with fail
            refine STEP2.out.mono ?_
            rintro e w' ⟨rfl, hse⟩
            have hst2 := allSt_step hst.out hse
            have HST2 := Lib.hid hst2
            obtain ⟨⟨a2, cap2, n0, n1, n2⟩, m3, m4, m5, m6, m7, m8, m9, m10, m11, m12⟩ := hst2
            have f1 := m10 (w.heap.size + 1 + 1 + 1 + 1) 0 (by omega) (by omega)
            have f2 := m10 (w.heap.size + 1 + 1 + 1 + 1) 1 (by omega) (by omega)
            have M12 := Lib.hid m12
            have N2 := Lib.hid n2
            have hsz : w.heap.size + 1 + 1 + 1 + 1 < w'.heap.size := by omega
            clear hse hst m10 m12 n2
            go_wp2
            go_roundg r
            case measure => have := hk.out; omega
            case rel => exact ⟨r', q, l2, h2', HR', HST2, HPL, FL, FH, HG⟩
      · have hd := digitS_full p' lo' hi' B HB.out hp
        have S0 := STEP.out
        rw [hd] at S0
        have STEP2 := Lib.hid S0
        have hx := allG_no hg.out hp
        have E := Lib.hid (allS_none p lo hi B HB.out (HX.out.trans hx))
        clear S0 STEP hd hp hx hg
        go_wp2_with fail
        refine STEP2.out.mono ?_
        rintro e w' ⟨rfl, hse⟩
        have hst2 := allSt_step hst.out hse
        obtain ⟨_, m3, m4, m5, m6, m7, m8, m9, m10, m11, m12⟩ := hst2
        have f1 := m10 (w.heap.size + 1 + 1 + 1 + 1) 0 (by omega) (by omega)
        have f2 := m10 (w.heap.size + 1 + 1 + 1 + 1) 1 (by omega) (by omega)
        have M12 := Lib.hid m12
        have hsz : w.heap.size + 1 + 1 + 1 + 1 < w'.heap.size := by omega
        clear hse hst m10 m12
        go_wp2
        refine bodyPost_ret (v := .tuple #[.agg #[.slice a p.1.length cap, .bool p.2], .int .i64 (-17)]) (by simp [results, Try.results36, go_sem, m8, m9]) rfl ?_
        rw [E.out]
        exact ⟨⟨_, rfl, _, rfl, bytesAt_stored (bytesAt_below HS.out M12.out) m8 m9 (fun x hx => by cases hx) _ _⟩, (M12.out.setCell (by dsimp only; omega) _).setCell (by dsimp only; omega) _⟩
  · simp only [Bool.not_eq_true] at hb
    have E := Lib.hid (allS_bad p lo hi b hb)
    have hd := digitS_bad p lo hi b hb
    have HD := Lib.hid hd
    clear hb hd
    go_enter Try.func36, Try.ntmps36
    go_wp2_with fail
    go_loopg [12] 1 (fun k _ wr => k = 1 ∧ Hid (AllSt w wr (.slice a p.1.length cap) p.2 b p lo hi))
    case atStart => exact ⟨rfl, ST⟩
    case round =>
      obtain ⟨_, hst⟩ := hrel
      obtain ⟨⟨a1, cap1, m0, m1, m2⟩, m3, m4, m5, m6, m7, m8, m9, m10, m11, m12⟩ := hst.out
      have S0 := all_step wr _ _ _ _ p lo hi b a1 cap1 m0 m1 m2 m3 m4 m5 (by omega) (by omega) (by omega) (m10 _ _ (by omega) (by omega)) (m10 _ _ (by omega) (by omega)) (m10 _ _ (by omega) (by omega)) (m10 _ _ (by omega) (by omega))
      rw [HD.out] at S0
      have STEP2 := Lib.hid S0
      clear m0 m1 m2 m3 m4 m5 m6 m7 m8 m9 m10 m11 m12 S0
      go_wp2_with fail
      refine STEP2.out.mono ?_
      rintro e w' ⟨rfl, hse⟩
      have hst2 := allSt_step hst.out hse
      obtain ⟨_, m3, m4, m5, m6, m7, m8, m9, m10, m11, m12⟩ := hst2
      have f1 := m10 (w.heap.size + 1 + 1 + 1 + 1) 0 (by omega) (by omega)
      have f2 := m10 (w.heap.size + 1 + 1 + 1 + 1) 1 (by omega) (by omega)
      have M12 := Lib.hid m12
      have hsz : w.heap.size + 1 + 1 + 1 + 1 < w'.heap.size := by omega
      clear hse hst m10 m12
      go_wp2
      refine bodyPost_ret (v := .tuple #[.agg #[.slice a p.1.length cap, .bool p.2], .int .i64 (-24)]) (by simp [results, Try.results36, go_sem, m8, m9]) rfl ?_
      rw [E.out]
      exact ⟨⟨_, rfl, _, rfl, bytesAt_stored (bytesAt_below HS.out M12.out) m8 m9 (fun x hx => by cases hx) _ _⟩, (M12.out.setCell (by dsimp only; omega) _).setCell (by dsimp only; omega) _⟩
end Go.Proofs.Ytpjhgokdkgnbdaa
