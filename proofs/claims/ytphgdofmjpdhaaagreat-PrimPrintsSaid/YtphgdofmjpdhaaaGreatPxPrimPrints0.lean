import Derived.Test.YtphgdofmjpdhaaaGreatPk10
set_option linter.unusedVariables false
set_option linter.unusedSimpArgs false
namespace Go.Proofs.YtphgdofmjpdhaaaGreat
open Go.RowKit
set_option maxRecDepth 100000
def runS : VVm → List Str → VVm × Bool
 | v, [] => (v, true)
 | v, n :: ns => if (doS v (numberS n)).2 = 0 then runS (doS v (numberS n)).1 ns else (v, false)
end Go.Proofs.YtphgdofmjpdhaaaGreat
namespace Go.Proofs.YtphgdofmjpdhaaaGreat
open Go.RowKit
set_option maxRecDepth 100000
set_option maxHeartbeats 4000000
theorem run_step (v : VVm) (ns : List Str) {k : Nat} (h : k < ns.length) : runS v (ns.drop k) = if (doS v (numberS (ns.getD k []))).2 = 0 then runS (doS v (numberS (ns.getD k []))).1 (ns.drop (k + 1)) else (v, false) := by
 rw [List.drop_eq_getElem_cons h]
 have e : ns.getD k [] = ns[k] := by unfold List.getD; rw [List.getElem?_eq_getElem h]; rfl
 rw [e]
 rfl
theorem law_run (v : VVm) (ns : List Str) (N : Nat) (g : GoodV N v) (hN : N ≤ 1000) (hn : ns.length ≤ 1000) : PureC Tryz.prog 20 [eVm v, sq cStr ns] (tup2 (eVm (runS v ns).1) (boo (runS v ns).2)) := by
 refine pW tG (rs := [.cell 4 36, .tmp 5]) Tryz.func20 rfl rfl rfl (by simp) (by simp) (fun B => ?_)
 refine zu3 ?_
 refine Ws ?_
 refine zu1 ?_
 refine Wl ?_
 show W _ _ _ _ _ _ _
 refine W_loopS (fun (s : VVm × Nat) => [(2, .ptr 0 0), (4, .ptr 1 0), (1, sq cStr ns), (6, i64 s.2)]) (fun (s : VVm × Nat) => [.cells (cVm s.1) 36, .cells vmZ 36]) (fun (s : VVm × Nat) => []) (fun (s : VVm × Nat) => s.2 ≤ ns.length ∧ GoodV (N + 2 * s.2) s.1 ∧ runS v ns = runS s.1 (ns.drop s.2)) (fun (s : VVm × Nat) => ns.length - s.2) ((v, 0)) (by exact ⟨Nat.zero_le _, g, rfl⟩) [] ?_ ?_
 ·exact fitT
 ·intro s hs
  refine Ws ?_
  refine zu4 ?_
  refine Wi rfl (fun hi1 => ?_) (fun hi1 => ?_)
  ·have hlt : s.2 < ns.length := by have := oT hi1; omega
   have hst := run_step s.1 ns hlt
   have gd := doS_good (n := numberS (ns.getD s.2 [])) hs.2.1
   have pd := prim_Do s.1 (good_ok hs.2.1 (by omega)) (numberS (ns.getD s.2 []))
   generalize doS s.1 (numberS (ns.getD s.2 [])) = r at hst gd pd
   refine Wj ?_
   refine Ws ?_
   refine Wl ?_
   refine Ws ?_
   refine W_drawU [1, 0, 0, 0, 0, 0, 0, 0, 0, 0, 2, 3, 0] [0, 1, 2, 3, 4, 5, 6, 7, 8, 9, 10, 11, 12] mG rfl (by kernel_rfl) ?_
   refine z5 ?_
   iterate 2 refine z3 ?_
   refine Xi tG rfl rfl rfl rfl (fun _ => rfl) (by omega) (iN cStr 1 (fun _ => rfl) [] (by omega)) ?_
   refine z3 ?_
   refine Xc rfl rfl rfl rfl (fun _ => dC rfl Tryz.func22 rfl rfl ((ref_Number (ns.getD s.2 [])) _)) ?_
   refine Xc rfl rfl rfl rfl (fun _ => dC rfl Tryz.func14 rfl rfl ((pd) _)) ?_
   iterate 3 refine z3 ?_
   refine WU_ev2 tG rfl rfl rfl rfl rfl trivial rfl ?_
   refine WU_ev3 tG rfl rfl rfl rfl rfl trivial ?_
   refine z3 ?_
   refine WU_nil ?_
   refine Ws ?_
   refine zu2 ?_
   refine Wi rfl (fun hi2 => ?_) (fun hi2 => ?_)
   ·have hne : r.2 ≠ 0 := by simpa using hi2
    refine zu3 ?_
    refine zR ?_
    rw [hs.2.2, hst, if_neg hne]; rfl
   ·have hz : r.2 = 0 := by simpa using hi2
    refine Wj ?_
    refine W_region rfl ?_
    refine zs2 ?_
    refine W_region rfl ?_
    refine zs3 ?_
    exact ⟨(r.1, s.2 + 1), [], (by exact ⟨hlt, gd, by rw [hs.2.2, hst, if_pos hz]⟩), (by simp only; omega), fitT⟩
  ·have hge : ns.length ≤ s.2 := by have := oF hi1; omega
   refine W_exit ?_
   refine zu3 ?_
   refine zR ?_
   rw [hs.2.2, List.drop_eq_nil_of_le hge]; rfl
end Go.Proofs.YtphgdofmjpdhaaaGreat
namespace Go.Proofs.YtphgdofmjpdhaaaGreat
open Go.RowKit
set_option maxRecDepth 100000
set_option maxHeartbeats 400000
theorem fit3 {a b c : Int} (h1 : Fit64 a) (h2 : Fit64 b) (h3 : Fit64 c) : FitL [a, b, c] := fun x hx => by simp at hx; rcases hx with rfl | rfl | rfl <;> assumption
theorem kmod (k : UInt8) (n : Nat) (hn : 0 < n) : IntKind.i64.wrap (k.toNat : Int) = (k.toNat : Int) ∧ ((k.toNat : Int)).tmod (n : Int) = ((k.toNat % n : Nat) : Int) := by
 have := k.toNat_lt
 constructor
 ·simp only [i64w]; unfold wrap64; omega
 ·rw [Int.tmod_eq_emod_of_nonneg (by omega)]; omega
end Go.Proofs.YtphgdofmjpdhaaaGreat
namespace Go.Proofs.YtphgdofmjpdhaaaGreat
open Go.RowKit
set_option maxRecDepth 100000
set_option maxHeartbeats 4000000
def bytesN : Nat → Nat → List Int
 | 0, _ => []
 | k + 1, u => ((u % 256 : Nat) : Int) :: bytesN k (u / 256)
theorem valB_bytesN (k : Nat) : ∀ u : Nat, u < 256 ^ k → valB (bytesN k u) = u := by
 induction k with
 | zero => intro u h; simp at h; simp [bytesN, valB, h]
 | succ k ih =>
  intro u h
  rw [Nat.pow_succ] at h
  simp only [bytesN, valB, ih (u / 256) (by omega), Int.toNat_natCast]
  omega
theorem bytes8_N (u : Nat) : bytes8 u = bytesN 8 u := by
 simp only [bytes8, bytesN, Nat.div_div_eq_div_mul]
 rfl
theorem valB_bytes8 (u : Nat) (h : u < 18446744073709551616) : valB (bytes8 u) = u := by
 rw [bytes8_N]; exact valB_bytesN 8 u (by rw [show (256 : Nat) ^ 8 = 18446744073709551616 from by decide]; exact h)
theorem getC_putC {n : Int} (h : Fit64 n) : getC (putC n) = n := by
 have e : (putC n).map (fun b => (b.toNat : Int)) = bytes8 (U n) := by
  unfold putC
  rw [List.map_map]
  have : ∀ x ∈ bytes8 (U n), ((fun b : UInt8 => (b.toNat : Int)) ∘ fun x : Int => UInt8.ofNat x.toNat) x = id x := by
   intro x hx
   have := b8_rng (U n) x hx
   simp only [Function.comp, id]
   rw [UInt8.toNat_ofNat']
   omega
  rw [List.map_congr_left this, List.map_id]
 unfold getC
 rw [e, valB_bytes8 _ (U_lt n)]
 exact S_U n h
def stM (m : VMem) (a n : Int) : VMem := ⟨laidB m.b a.toNat (putC n), m.old ++ [⟨a, (m.b.drop a.toNat).take 8⟩]⟩
theorem there_ok {m : VMem} {a n : Int} (h0 : 0 ≤ a) (h1 : 0 < n) (h2 : a + n ≤ m.b.length) : memThere m a n = true := by
 unfold memThere
 rw [decide_eq_true_eq]
 omega
theorem cell_ok {m : VMem} {a : Int} (h0 : 0 ≤ a) (h1 : a % 8 = 0) (h2 : a + 8 ≤ m.b.length) : memCellAt m a = 0 := by
 unfold memCellAt
 rw [there_ok h0 (by omega) h2, if_pos rfl, if_pos (by rw [Int.tmod_eq_emod_of_nonneg h0]; exact h1)]
theorem write_ok {m : VMem} {a : Int} (n : Int) (h0 : 0 ≤ a) (h2 : a + 8 ≤ m.b.length) : memWrite m a (putC n) = (stM m a n, 0) := by
 unfold memWrite
 rw [putC_len, if_pos (show memThere m a ((8 : Nat) : Int) = true from there_ok h0 (by omega) h2), if_neg (by intro h; have := congrArg List.length h; rw [putC_len] at this; cases this)]
 rfl
theorem store_ok {m : VMem} {a : Int} (n : Int) (h0 : 0 ≤ a) (h1 : a % 8 = 0) (h2 : a + 8 ≤ m.b.length) : memStore m a n = (stM m a n, 0) := by
 unfold memStore
 rw [if_pos (cell_ok h0 h1 h2), write_ok n h0 h2]
theorem stM_len {m : VMem} {a n : Int} (h0 : 0 ≤ a) (h2 : a + 8 ≤ m.b.length) : (stM m a n).b.length = m.b.length := by
 unfold stM
 exact laidB_len (by rw [putC_len]; omega)
theorem laid_at {l x : List UInt8} {k : Nat} (h : k + x.length ≤ l.length) : ((laidB l k x).drop k).take x.length = x := by
 unfold laidB
 rw [List.append_assoc, List.drop_left' (by rw [List.length_take]; omega), List.take_left' rfl]
theorem fetch_same {m : VMem} {a n : Int} (hn : Fit64 n) (h0 : 0 ≤ a) (h1 : a % 8 = 0) (h2 : a + 8 ≤ m.b.length) : memFetch (stM m a n) a = (n, 0) := by
 unfold memFetch
 rw [cell_ok h0 h1 (by rw [stM_len h0 h2]; exact h2), if_pos rfl]
 have e : ((stM m a n).b.drop a.toNat).take 8 = putC n := laid_at (x := putC n) (by rw [putC_len]; omega)
 rw [e, getC_putC hn]
theorem run_cons {v v' : VVm} {n : Str} {ns : List Str} (h : doS v (numberS n) = (v', 0)) : runS v (n :: ns) = runS v' ns := by
 show (if (doS v (numberS n)).2 = 0 then runS (doS v (numberS n)).1 ns else (v, false)) = _
 rw [h]; rfl
theorem run_nil (v : VVm) : runS v [] = (v, true) := rfl
end Go.Proofs.YtphgdofmjpdhaaaGreat
namespace Go.Proofs.YtphgdofmjpdhaaaGreat
open Go.RowKit
open Go.WideShapes
set_option maxRecDepth 100000
set_option maxHeartbeats 4000000
theorem fitL4 {a b c d : Int} (h1 : Fit64 a) (h2 : Fit64 b) (h3 : Fit64 c) (h4 : Fit64 d) : FitL [a, b, c, d] := fun x hx => by simp at hx; rcases hx with rfl | rfl | rfl | rfl <;> assumption
theorem run_of {d : List Int} {ns : List Str} {y : VVm} (hd : d.length ≤ 32) (hf : FitL d) (hn : ns.length ≤ 1000) (h : runS (stockS d) ns = (y, true)) : PureC Tryz.prog 20 [eVm (stockS d), sq cStr ns] (tup2 (eVm y) (boo true)) := by
 have := law_run (stockS d) ns 0 (stock_good hd hf) (by decide) hn
 rw [h] at this
 exact this
end Go.Proofs.YtphgdofmjpdhaaaGreat
namespace Go.Proofs.YtphgdofmjpdhaaaGreat
open Go.RowKit
set_option maxRecDepth 100000
set_option maxHeartbeats 4000000
theorem loB_chr {d : Nat} : loB (digS (d : Int)) = chr d := by
 have h : 0 ≤ digS (d : Int) ∧ digS (d : Int) < 256 := by unfold digS; split <;> (try split) <;> omega
 unfold loB chr
 rw [Int.emod_eq_of_lt h.1 h.2]
theorem S_small {n : Nat} (h : n < 9223372036854775808) : S n = (n : Int) := by unfold S wrap64; omega
theorem pdig_step {xs : Str} {u B : Nat} (h2 : 2 ≤ B) (h3 : B ≤ 36) (hu : u < 18446744073709551616) (hl : xs.length < 130) : picDigit ⟨xs, true⟩ (S u) 0 (B : Int) = (⟨xs ++ [chr (u % B)], true⟩, S (u / B), 0, 0) := by
 have hB : 2 ≤ (B : Int) ∧ (B : Int) ≤ 36 := by omega
 have uB : U (B : Int) = B := by unfold U; omega
 have u0 : U 0 = 0 := rfl
 have hq : udivS 0 0 (B : Int) = (0, 0, 0) := by
  rw [udiv0 hB, u0, Nat.zero_div, Nat.zero_mod, show S 0 = 0 from by unfold S wrap64; omega]
 have hlo : udivS (S u) 0 (B : Int) = (S (u / B), S (u % B), 0) := by rw [udiv0 hB, uB, U_S u hu]
 have hm : u % B < 36 := Nat.lt_of_lt_of_le (Nat.mod_lt _ (by omega)) h3
 have hd : digOf ⟨xs, true⟩ (S u) 0 (B : Int) = (⟨xs ++ [chr (u % B)], true⟩, 0) := by
  unfold digOf
  rw [hq, hlo, S_small (n := u % B) (by omega)]
  show picHold ⟨xs, true⟩ (digS ((u % B : Nat) : Int)) = _
  rw [picHold_yes ⟨rfl, hl⟩, loB_chr]
 unfold picDigit
 rw [if_neg (by omega), hd, if_pos rfl, hq, hlo]
theorem alln (B : Nat) (h2 : 2 ≤ B) (h3 : B ≤ 36) : ∀ (k r : Nat) (xs : Str) (u : Nat), k ≤ r → u < 2 ^ (k + 1) → u < 18446744073709551616 → xs.length + (digL B (k + 1) u).length ≤ 130 →
  picAllN (r + 1) ⟨xs, true⟩ (S u) 0 (B : Int) = (⟨xs ++ (digL B (k + 1) u).map chr, true⟩, 0)
 | k, r, xs, u, hk, hu, hu2, hl => by
  have hx0 : 0 < (digL B (k + 1) u).length := by simp [digL]
  have hx : xs.length < 130 := by omega
  rw [picAllN, pdig_step h2 h3 hu2 hx]
  have hb : u / B ≤ u / 2 := Nat.div_le_div_left h2 (by decide)
  rw [if_neg (by simp)]
  dsimp only
  rw [S_small (n := u / B) (by omega)]
  by_cases hz : u / B = 0
  ·rw [if_pos ⟨by omega, rfl⟩]
   rw [digL, if_pos hz]
   rfl
  ·rw [if_neg (by omega)]
   match k, r, hk, hu, hl with
   | 0, r, hk, hu, hl => exact absurd (Nat.div_eq_of_lt (by simp at hu; omega)) hz
   | k + 1, 0, hk, hu, hl => omega
   | k + 1, r + 1, hk, hu, hl =>
    have e : digL B (k + 1 + 1) u = (u % B) :: digL B (k + 1) (u / B) := by rw [digL, if_neg hz]
    rw [e] at hl ⊢
    simp only [List.length_cons] at hl
    have ih := alln B h2 h3 k r (xs ++ [chr (u % B)]) (u / B) (by omega) (by rw [Nat.pow_succ] at hu; omega) (by omega) (by simp only [List.length_append, List.length_cons, List.length_nil]; omega)
    rw [S_small (by omega)] at ih
    rw [ih, List.map_cons, List.append_assoc]
    rfl
theorem all_text {u B : Nat} (h2 : 2 ≤ B) (h3 : B ≤ 36) (hu : u < 18446744073709551616) : picAll ⟨[], true⟩ (S u) 0 (B : Int) = (⟨(digL B 64 u).map chr, true⟩, 0) := by
 have h := alln B h2 h3 63 130 [] u (by omega) hu hu (by have := digL_le B (63 + 1) u; simp only [List.length_nil]; omega)
 unfold picAll picAllF finP
 show (if (picAllN (131 - ([] : Str).length) ⟨[], true⟩ (S u) 0 (B : Int)).2 = 0 then _ else _) = _
 rw [show 131 - ([] : Str).length = 130 + 1 from rfl, h]
 rfl
def stP (m : VMem) (p : VPic) (o : Str) (d : List Int) : VVm := { stockS [] with mem := m, pic := p, out := o, d := d }
theorem pr_store1 {m m' : VMem} {p : VPic} {o : Str} {x n a : Int} (h : memStore m a n = (m', 0)) : doS (stP m p o [x, n, a]) (numberS [33]) = (stP m' p o [x], 0) := by
 have e : doS (stP m p o [x, n, a]) (numberS [33]) = doR (stP m p o [x, n, a]) 2 (pPut (stP m p o [x, n, a]) (memStore m a n)) := by kernel_rfl
 rw [e, h]
 exact doR_ok (Nat.le_of_ble_eq_true rfl) rfl (by show ((1 : Nat) : Int) ≤ 32; decide)
theorem pr_store2 {m m' : VMem} {p : VPic} {o : Str} {x y n a : Int} (h : memStore m a n = (m', 0)) : doS (stP m p o [x, y, n, a]) (numberS [33]) = (stP m' p o [x, y], 0) := by
 have e : doS (stP m p o [x, y, n, a]) (numberS [33]) = doR (stP m p o [x, y, n, a]) 2 (pPut (stP m p o [x, y, n, a]) (memStore m a n)) := by kernel_rfl
 rw [e, h]
 exact doR_ok (Nat.le_of_ble_eq_true rfl) rfl (by show ((2 : Nat) : Int) ≤ 32; decide)
theorem pr_store3 {m m' : VMem} {p : VPic} {o : Str} {x y z n a : Int} (h : memStore m a n = (m', 0)) : doS (stP m p o [x, y, z, n, a]) (numberS [33]) = (stP m' p o [x, y, z], 0) := by
 have e : doS (stP m p o [x, y, z, n, a]) (numberS [33]) = doR (stP m p o [x, y, z, n, a]) 2 (pPut (stP m p o [x, y, z, n, a]) (memStore m a n)) := by kernel_rfl
 rw [e, h]
 exact doR_ok (Nat.le_of_ble_eq_true rfl) rfl (by show ((3 : Nat) : Int) ≤ 32; decide)
theorem print_ok {v : VVm} {s : Str} (h : (s.length : Int) ≤ v.conf.out - v.out.length) : pPrint v (s, 0) = ({ v with out := v.out ++ s }, [], 0) := by
 unfold pPrint vmPrint
 rw [if_pos rfl, if_neg (by show ¬ ((s.length : Int) > v.conf.out - v.out.length); omega)]
theorem pr_dot {m : VMem} {p : VPic} {n b : Int} {t : Str} (hb : (memFetch m 0).1 = b) (hs : showS n b = (t, 0)) (hl : t.length ≤ 100) : doS (stP m p [] [n]) (numberS [46]) = (stP m p (t ++ [32]) [], 0) := by
 have e : doS (stP m p [] [n]) (numberS [46]) = doR (stP m p [] [n]) 1 (pPrint (stP m p [] [n]) (pDot (showS n (memFetch m 0).1))) := by kernel_rfl
 rw [e, hb, hs]
 show doR _ 1 (pPrint (stP m p [] [n]) (t ++ [32], 0)) = _
 rw [print_ok (by show ((t ++ [32]).length : Int) ≤ 500 - ((0 : Nat) : Int); simp only [List.length_append, List.length_cons, List.length_nil]; omega)]
 exact doR_ok (Nat.le_of_ble_eq_true rfl) rfl (by show ((0 : Nat) : Int) ≤ 32; decide)
theorem pr_udot {m : VMem} {p : VPic} {n b : Int} {t : Str} (hb : (memFetch m 0).1 = b) (hs : ushowS n b = (t, 0)) (hl : t.length ≤ 100) : doS (stP m p [] [n]) (numberS [85, 46]) = (stP m p (t ++ [32]) [], 0) := by
 have e : doS (stP m p [] [n]) (numberS [85, 46]) = doR (stP m p [] [n]) 1 (pPrint (stP m p [] [n]) (pDot (ushowS n (memFetch m 0).1))) := by kernel_rfl
 rw [e, hb, hs]
 show doR _ 1 (pPrint (stP m p [] [n]) (t ++ [32], 0)) = _
 rw [print_ok (by show ((t ++ [32]).length : Int) ≤ 500 - ((0 : Nat) : Int); simp only [List.length_append, List.length_cons, List.length_nil]; omega)]
 exact doR_ok (Nat.le_of_ble_eq_true rfl) rfl (by show ((0 : Nat) : Int) ≤ 32; decide)
theorem pr_begin3 (m : VMem) (p : VPic) (o : Str) (x y z : Int) : doS (stP m p o [x, y, z]) (numberS [60, 35]) = (stP m ⟨[], true⟩ o [x, y, z], 0) := by kernel_rfl
theorem pr_begin2 (m : VMem) (p : VPic) (o : Str) (x y : Int) : doS (stP m p o [x, y]) (numberS [60, 35]) = (stP m ⟨[], true⟩ o [x, y], 0) := by kernel_rfl
theorem pr_all3 {m : VMem} {p q : VPic} {o : Str} {x lo hi b : Int} (hb : (memFetch m 0).1 = b) (hs : picAll p lo hi b = (q, 0)) : doS (stP m p o [x, lo, hi]) (numberS [35, 83]) = (stP m q o [x, 0, 0], 0) := by
 have e : doS (stP m p o [x, lo, hi]) (numberS [35, 83]) = doR (stP m p o [x, lo, hi]) 2 (withP (stP m p o [x, lo, hi]) (picAll p lo hi (memFetch m 0).1).1, [0, 0], (picAll p lo hi (memFetch m 0).1).2) := by kernel_rfl
 rw [e, hb, hs]
 exact doR_ok (Nat.le_of_ble_eq_true rfl) rfl (by show ((3 : Nat) : Int) ≤ 32; decide)
theorem pr_all2 {m : VMem} {p q : VPic} {o : Str} {lo hi b : Int} (hb : (memFetch m 0).1 = b) (hs : picAll p lo hi b = (q, 0)) : doS (stP m p o [lo, hi]) (numberS [35, 83]) = (stP m q o [0, 0], 0) := by
 have e : doS (stP m p o [lo, hi]) (numberS [35, 83]) = doR (stP m p o [lo, hi]) 2 (withP (stP m p o [lo, hi]) (picAll p lo hi (memFetch m 0).1).1, [0, 0], (picAll p lo hi (memFetch m 0).1).2) := by kernel_rfl
 rw [e, hb, hs]
 exact doR_ok (Nat.le_of_ble_eq_true rfl) rfl (by show ((2 : Nat) : Int) ≤ 32; decide)
theorem pr_rot (m : VMem) (p : VPic) (o : Str) (x y z : Int) : doS (stP m p o [x, y, z]) (numberS [82, 79, 84]) = (stP m p o [y, z, x], 0) := by kernel_rfl
theorem pr_sign {m : VMem} {p q : VPic} {o : Str} {x y n : Int} (hs : picSign p n = (q, 0)) : doS (stP m p o [x, y, n]) (numberS [83, 73, 71, 78]) = (stP m q o [x, y], 0) := by
 have e : doS (stP m p o [x, y, n]) (numberS [83, 73, 71, 78]) = doR (stP m p o [x, y, n]) 1 (pPic (stP m p o [x, y, n]) (picSign p n)) := by kernel_rfl
 rw [e, hs]
 exact doR_ok (Nat.le_of_ble_eq_true rfl) rfl (by show ((2 : Nat) : Int) ≤ 32; decide)
theorem pr_end {m m' : VMem} {p : VPic} {o t : Str} {x y : Int} (hs : picEnd p = (t, 0)) (hw : memWrite m 1912 t = (m', 0)) : doS (stP m p o [x, y]) (numberS [35, 62]) = (stP m' ⟨[], false⟩ o [1912, (t.length : Int)], 0) := by
 have e : doS (stP m p o [x, y]) (numberS [35, 62]) = doR (stP m p o [x, y]) 2 (if (picEnd p).2 = 0 then (withP (withM (stP m p o [x, y]) (memWrite m 1912 (picEnd p).1).1) ⟨[], false⟩, [1912, ((picEnd p).1.length : Int)], (memWrite m 1912 (picEnd p).1).2) else (stP m p o [x, y], [], (picEnd p).2)) := by kernel_rfl
 rw [e, hs]
 dsimp only
 rw [if_pos rfl, hw]
 exact doR_ok (Nat.le_of_ble_eq_true rfl) rfl (by show ((2 : Nat) : Int) ≤ 32; decide)
theorem pr_type {m : VMem} {p : VPic} {t : Str} {a n : Int} (hs : memText m a n = (t, 0)) (hl : t.length ≤ 100) : doS (stP m p [] [a, n]) (numberS [84, 89, 80, 69]) = (stP m p t [], 0) := by
 have e : doS (stP m p [] [a, n]) (numberS [84, 89, 80, 69]) = doR (stP m p [] [a, n]) 2 (pPrint (stP m p [] [a, n]) (memText m a n)) := by kernel_rfl
 rw [e, hs, print_ok (by show (t.length : Int) ≤ 500 - ((0 : Nat) : Int); omega)]
 exact doR_ok (Nat.le_of_ble_eq_true rfl) rfl (by show ((0 : Nat) : Int) ≤ 32; decide)
theorem pr_space {m : VMem} {p : VPic} {t : Str} (hl : t.length ≤ 100) : doS (stP m p t []) (numberS [83, 80, 65, 67, 69]) = (stP m p (t ++ [32]) [], 0) := by
 have e : doS (stP m p t []) (numberS [83, 80, 65, 67, 69]) = doR (stP m p t []) 0 (pPrint (stP m p t []) ([32], 0)) := by kernel_rfl
 rw [e, print_ok (by show ((1 : Nat) : Int) ≤ 500 - (t.length : Int); omega)]
 exact doR_ok (Nat.le_of_ble_eq_true rfl) rfl (by show ((0 : Nat) : Int) ≤ 32; decide)
theorem write_back {m : VMem} {t : Str} (h : (m.b.length : Int) = 2048) (hl : t.length ≤ 100) : ∃ m', memWrite m 1912 t = (m', 0) ∧ memText m' 1912 t.length = (t, 0) := by
 have hth : memThere m 1912 (t.length : Int) = true := by unfold memThere; rw [decide_eq_true_eq]; omega
 by_cases h0 : t = []
 ·subst h0
  refine ⟨m, ?_, ?_⟩
  ·unfold memWrite; rw [if_pos hth, if_pos rfl]
  ·unfold memText; rw [if_pos hth]; rfl
 ·have hlen : (laidB m.b 1912 t).length = m.b.length := laidB_len (by omega)
  have hw : memWrite m 1912 t = (⟨laidB m.b 1912 t, m.old ++ [⟨1912, (m.b.drop 1912).take t.length⟩]⟩, 0) := by
   unfold memWrite
   rw [if_pos hth, if_neg h0]
   rfl
  refine ⟨_, hw, ?_⟩
  unfold memText
  rw [if_pos (by unfold memThere; rw [decide_eq_true_eq]; show _ ∨ (_ ∧ _ ∧ (1912 : Int) + t.length ≤ ((laidB m.b 1912 t).length : Int)); rw [hlen]; omega)]
  show (((laidB m.b 1912 t).drop 1912).take t.length, (0 : Int)) = _
  rw [laid_at (by omega)]
theorem text_len (B u : Nat) : (ushowL u B).length ≤ 64 := by
 have := digL_le B 64 u
 unfold ushowL
 simp only [List.length_reverse, List.length_map]
 omega
theorem end_of (B u : Nat) : picEnd ⟨(digL B 64 u).map chr, true⟩ = (ushowL u B, 0) := rfl
theorem end_neg (B u : Nat) : picEnd ⟨(digL B 64 u).map chr ++ [45], true⟩ = (45 :: ushowL u B, 0) := by
 show (((digL B 64 u).map chr ++ [45]).reverse, (0 : Int)) = _
 rw [List.reverse_append]; rfl
theorem prints (n : Int) (B : Nat) (hn : Fit64 n) (h2 : 2 ≤ B) (h3 : B ≤ 36) : ∃ (x y z u : VVm),
  runS (stockS [n, B, 0]) [[33], [46]] = (x, true) ∧ runS (stockS [n, (if n < 0 then wrap64 (-n) else n), 0, B, 0]) [[33], [60, 35], [35, 83], [82, 79, 84], [83, 73, 71, 78], [35, 62], [84, 89, 80, 69], [83, 80, 65, 67, 69]] = (y, true) ∧
  runS (stockS [n, B, 0]) [[33], [85, 46]] = (z, true) ∧ runS (stockS [n, 0, B, 0]) [[33], [60, 35], [35, 83], [35, 62], [84, 89, 80, 69], [83, 80, 65, 67, 69]] = (u, true) ∧ x.out = y.out ∧ y.d = [] ∧ z.out = u.out ∧ u.d = [] := by
 have hl : ((stockS []).mem.b.length : Int) = 2048 := congrArg Int.ofNat (newB_len 2048 167)
 have hs := store_ok (m := (stockS []).mem) (a := 0) (B : Int) (by omega) (by omega) (by omega)
 have hf : memFetch (stM (stockS []).mem 0 (B : Int)) 0 = ((B : Int), 0) := fetch_same (by unfold Fit64; omega) (by omega) (by omega) (by omega)
 have hl2 : ((stM (stockS []).mem 0 (B : Int)).b.length : Int) = 2048 := by rw [stM_len (by omega) (by omega)]; exact hl
 generalize hm : stM (stockS []).mem 0 (B : Int) = M at hs hf hl2
 have hb : (memFetch M 0).1 = (B : Int) := by rw [hf]
 have hB : isB (B : Int) = true := by rw [isB_iff]; omega
 have eU : ushowS n (B : Int) = (ushowL (U n) B, 0) := by unfold ushowS; rw [if_pos hB, Int.toNat_natCast]
 have eS : ∀ l : List Int, stockS l = stP (stockS []).mem ⟨[], false⟩ [] l := fun _ => rfl
 have sU : S (U n) = n := S_U n hn
 obtain ⟨t, sz, q, r, hsz, h1, ht, ha, hr, he⟩ : ∃ (t : Str) (sz : Int) (q r : VPic), (if n < 0 then wrap64 (-n) else n) = sz ∧ showS n (B : Int) = (t, 0) ∧ t.length ≤ 65 ∧ picAll ⟨[], true⟩ sz 0 (B : Int) = (q, 0) ∧ picSign q n = (r, 0) ∧ picEnd r = (t, 0) := by
  by_cases h0 : 0 ≤ n
  ·refine ⟨ushowL (U n) B, n, ⟨(digL B 64 (U n)).map chr, true⟩, ⟨(digL B 64 (U n)).map chr, true⟩, by rw [if_neg (by omega)], ?_, ?_, ?_, ?_, end_of _ _⟩
   ·unfold showS; rw [if_pos hB, if_pos h0, Int.toNat_natCast]
   ·have := text_len B (U n); omega
   ·have := all_text h2 h3 (U_lt n); rw [sU] at this; exact this
   ·unfold picSign; rw [if_pos h0]
  ·refine ⟨45 :: ushowL (U (wrap64 (-n))) B, wrap64 (-n), ⟨(digL B 64 (U (wrap64 (-n)))).map chr, true⟩, ⟨(digL B 64 (U (wrap64 (-n)))).map chr ++ [45], true⟩, by rw [if_pos (by omega)], ?_, ?_, ?_, ?_, end_neg _ _⟩
   ·unfold showS; rw [if_pos hB, if_neg h0, Int.toNat_natCast]
   ·have := text_len B (U (wrap64 (-n))); simp only [List.length_cons]; omega
   ·have := all_text h2 h3 (U_lt (wrap64 (-n))); rw [S_U _ (wrap64_rng _)] at this; exact this
   ·have := digL_le B 64 (U (wrap64 (-n)))
    unfold picSign; rw [if_neg h0, picHold_yes ⟨rfl, by show ((digL B 64 (U (wrap64 (-n)))).map chr).length < 130; rw [List.length_map]; omega⟩]; rfl
 have hu := text_len B (U n)
 have hall := all_text h2 h3 (U_lt n)
 rw [sU] at hall
 obtain ⟨m1, w1, b1⟩ := write_back (t := t) hl2 (by omega)
 obtain ⟨m2, w2, b2⟩ := write_back (t := ushowL (U n) B) hl2 (by omega)
 refine ⟨stP M ⟨[], false⟩ (t ++ [32]) [], stP m1 ⟨[], false⟩ (t ++ [32]) [], stP M ⟨[], false⟩ (ushowL (U n) B ++ [32]) [], stP m2 ⟨[], false⟩ (ushowL (U n) B ++ [32]) [], ?_, ?_, ?_, ?_, rfl, rfl, rfl, rfl⟩
 ·rw [eS, run_cons (pr_store1 hs), run_cons (pr_dot hb h1 (by omega)), run_nil]
 ·rw [hsz, eS, run_cons (pr_store3 hs), run_cons (pr_begin3 _ _ _ _ _ _), run_cons (pr_all3 hb ha), run_cons (pr_rot _ _ _ _ _ _), run_cons (pr_sign hr), run_cons (pr_end he w1), run_cons (pr_type b1 (by omega)), run_cons (pr_space (by omega)), run_nil]
 ·rw [eS, run_cons (pr_store1 hs), run_cons (pr_udot hb eU (by omega)), run_nil]
 ·rw [eS, run_cons (pr_store2 hs), run_cons (pr_begin2 _ _ _ _ _), run_cons (pr_all2 hb hall), run_cons (pr_end (end_of _ _) w2), run_cons (pr_type b2 (by omega)), run_cons (pr_space (by omega)), run_nil]
end Go.Proofs.YtphgdofmjpdhaaaGreat
namespace Go.Proofs.YtphgdofmjpdhaaaGreat
open Go.RowKit
open Go.WideShapes
set_option maxRecDepth 100000
set_option maxHeartbeats 4000000
theorem law_prints_neg (c : UInt8) (n b sz : Int) (k : Nat) (km : ((c.toNat : Nat) : Int).tmod ((35 : Nat) : Int) = ((k : Nat) : Int)) (hb : IntKind.i64.wrap (2 + (k : Int)) = b) (v1 v2 v4 x y z u : VVm) (hsh : PureC Tryz.prog 12 [] (boo true))
  (st1 : PureC Tryz.prog 21 [sq cInt [n, b, 0]] (eVm v1)) (st2 : PureC Tryz.prog 21 [sq cInt [n, sz, 0, b, 0]] (eVm v2)) (st4 : PureC Tryz.prog 21 [sq cInt [n, 0, b, 0]] (eVm v4))
  (r1 : PureC Tryz.prog 20 [eVm v1, sq cStr [[33], [46]]] (tup2 (eVm x) (boo true))) (r2 : PureC Tryz.prog 20 [eVm v2, sq cStr [[33], [60, 35], [35, 83], [82, 79, 84], [83, 73, 71, 78], [35, 62], [84, 89, 80, 69], [83, 80, 65, 67, 69]]] (tup2 (eVm y) (boo true)))
  (r3 : PureC Tryz.prog 20 [eVm v1, sq cStr [[33], [85, 46]]] (tup2 (eVm z) (boo true))) (r4 : PureC Tryz.prog 20 [eVm v4, sq cStr [[33], [60, 35], [35, 83], [35, 62], [84, 89, 80, 69], [83, 80, 65, 67, 69]]] (tup2 (eVm u) (boo true)))
  (hxy : x.out = y.out) (hy : y.d = []) (hzu : z.out = u.out) (hu : u.d = []) (h0 : n < 0) (hsz : IntKind.i64.wrap (0 - n) = sz) : PureC Tryz.prog 8 [i64 n, .val (.int .u8 (c.toNat : Int))] (boo true) := by
 have kw := (kmod c 35 (by decide)).1
 refine pW tG (rs := [.tmp 4]) Tryz.func8 rfl rfl rfl (by simp) (by simp) (fun B => ?_)
 refine zu1 ?_
 refine z8 ?_
 refine Wc rfl rfl (dC rfl Tryz.func12 rfl rfl ((hsh) _)) ?_
 refine zs1 ?_
 refine zp2 ?_
 refine Wa 18 rfl (congrArg (fun z => PV.val (Value.int .i64 z)) kw) ?_
 refine z1 ?_
 refine Wa 19 rfl (congrArg (fun z => PV.val (Value.int .i64 z)) km) ?_
 refine z1 ?_
 refine Wa 20 rfl (congrArg (fun z => PV.val (Value.int .i64 z)) hb) ?_
 refine zs1 ?_
 refine zu2 ?_
 refine Ws ?_
 refine zu2 ?_
 refine Wt rfl (by exact decide_eq_true h0) ?_
 refine W_region rfl ?_
 refine zy2 ?_
 refine Wa 25 rfl (congrArg (fun z => PV.val (Value.int .i64 z)) hsz) ?_
 refine zs1 ?_
 refine zp3 ?_
 refine Wa 29 rfl (bsL cInt [_, _, _] rfl rfl) ?_
 refine Wc rfl rfl (dC rfl Tryz.func21 rfl rfl ((st1) _)) ?_
 refine z1 ?_
 refine Wa 31 rfl (bsL cStr [_, _] rfl rfl) ?_
 refine Wc rfl rfl (dC rfl Tryz.func20 rfl rfl ((r1) _)) ?_
 refine zy5 ?_
 refine zs1 ?_
 refine zp4 ?_
 refine Wa 39 rfl (bsL cInt [_, _, _, _, _] rfl rfl) ?_
 refine Wc rfl rfl (dC rfl Tryz.func21 rfl rfl ((st2) _)) ?_
 refine z1 ?_
 refine Wa 41 rfl (bsL cStr [_, _, _, _, _, _, _, _] rfl rfl) ?_
 refine Wc rfl rfl (dC rfl Tryz.func20 rfl rfl ((r2) _)) ?_
 refine zy5 ?_
 refine zs1 ?_
 refine zp3 ?_
 refine Wa 48 rfl (bsL cInt [_, _, _] rfl rfl) ?_
 refine Wc rfl rfl (dC rfl Tryz.func21 rfl rfl ((st1) _)) ?_
 refine z1 ?_
 refine Wa 50 rfl (bsL cStr [_, _] rfl rfl) ?_
 refine Wc rfl rfl (dC rfl Tryz.func20 rfl rfl ((r3) _)) ?_
 refine zy5 ?_
 refine zs1 ?_
 refine zp3 ?_
 refine Wa 57 rfl (bsL cInt [_, _, _, _] rfl rfl) ?_
 refine Wc rfl rfl (dC rfl Tryz.func21 rfl rfl ((st4) _)) ?_
 refine z1 ?_
 refine Wa 59 rfl (bsL cStr [_, _, _, _, _, _] rfl rfl) ?_
 refine Wc rfl rfl (dC rfl Tryz.func20 rfl rfl ((r4) _)) ?_
 refine zy5 ?_
 refine zs1 ?_
 refine zp2 ?_
 refine WO_true 64 rfl (by rfl) ?_
 refine zy3 ?_
 refine WO_true 67 rfl (by rfl) ?_
 refine zy3 ?_
 refine WO_true 70 rfl (by rfl) ?_
 refine zy3 ?_
 refine WO_true 73 rfl (by rfl) ?_
 refine zy3 ?_
 refine WO_true 76 rfl (by rfl) ?_
 refine zy2 ?_
 refine Wd rfl rfl (does_bytes_str (lO tG rfl) rfl (lO tG rfl) rfl (lO tG rfl) rfl rfl rfl) ?_
 refine zy2 ?_
 refine Wd rfl rfl (does_bytes_str (lO tG rfl) rfl (lO tG rfl) rfl (lO tG rfl) rfl rfl rfl) ?_
 refine z1 ?_
 refine Wa 83 rfl (str_eql _ _) ?_
 refine zy2 ?_
 refine WO_true 85 rfl (by exact decide_eq_true hxy) ?_
 refine zy5 ?_
 refine z1 ?_
 refine WO_true 91 rfl (by simp [hy]) ?_
 refine zy2 ?_
 refine Wd rfl rfl (does_bytes_str (lO tG rfl) rfl (lO tG rfl) rfl (lO tG rfl) rfl rfl rfl) ?_
 refine zy2 ?_
 refine Wd rfl rfl (does_bytes_str (lO tG rfl) rfl (lO tG rfl) rfl (lO tG rfl) rfl rfl rfl) ?_
 refine z1 ?_
 refine Wa 98 rfl (str_eql _ _) ?_
 refine zy2 ?_
 refine WO_true 100 rfl (by exact decide_eq_true hzu) ?_
 refine zy5 ?_
 refine zs1 ?_
 refine zR ?_
 exact congrArg boo (by simp [hu])
theorem law_prints_pos (c : UInt8) (n b : Int) (k : Nat) (km : ((c.toNat : Nat) : Int).tmod ((35 : Nat) : Int) = ((k : Nat) : Int)) (hb : IntKind.i64.wrap (2 + (k : Int)) = b) (v1 v2 v4 x y z u : VVm) (hsh : PureC Tryz.prog 12 [] (boo true))
  (st1 : PureC Tryz.prog 21 [sq cInt [n, b, 0]] (eVm v1)) (st2 : PureC Tryz.prog 21 [sq cInt [n, n, 0, b, 0]] (eVm v2)) (st4 : PureC Tryz.prog 21 [sq cInt [n, 0, b, 0]] (eVm v4))
  (r1 : PureC Tryz.prog 20 [eVm v1, sq cStr [[33], [46]]] (tup2 (eVm x) (boo true))) (r2 : PureC Tryz.prog 20 [eVm v2, sq cStr [[33], [60, 35], [35, 83], [82, 79, 84], [83, 73, 71, 78], [35, 62], [84, 89, 80, 69], [83, 80, 65, 67, 69]]] (tup2 (eVm y) (boo true)))
  (r3 : PureC Tryz.prog 20 [eVm v1, sq cStr [[33], [85, 46]]] (tup2 (eVm z) (boo true))) (r4 : PureC Tryz.prog 20 [eVm v4, sq cStr [[33], [60, 35], [35, 83], [35, 62], [84, 89, 80, 69], [83, 80, 65, 67, 69]]] (tup2 (eVm u) (boo true)))
  (hxy : x.out = y.out) (hy : y.d = []) (hzu : z.out = u.out) (hu : u.d = []) (h0 : ¬ n < 0) : PureC Tryz.prog 8 [i64 n, .val (.int .u8 (c.toNat : Int))] (boo true) := by
 have kw := (kmod c 35 (by decide)).1
 refine pW tG (rs := [.tmp 4]) Tryz.func8 rfl rfl rfl (by simp) (by simp) (fun B => ?_)
 refine zu1 ?_
 refine z8 ?_
 refine Wc rfl rfl (dC rfl Tryz.func12 rfl rfl ((hsh) _)) ?_
 refine zs1 ?_
 refine zp2 ?_
 refine Wa 18 rfl (congrArg (fun z => PV.val (Value.int .i64 z)) kw) ?_
 refine z1 ?_
 refine Wa 19 rfl (congrArg (fun z => PV.val (Value.int .i64 z)) km) ?_
 refine z1 ?_
 refine Wa 20 rfl (congrArg (fun z => PV.val (Value.int .i64 z)) hb) ?_
 refine zs1 ?_
 refine zu2 ?_
 refine Ws ?_
 refine zu2 ?_
 refine Wf rfl (by exact decide_eq_false h0) ?_
 refine Wj ?_
 refine zp3 ?_
 refine Wa 29 rfl (bsL cInt [_, _, _] rfl rfl) ?_
 refine Wc rfl rfl (dC rfl Tryz.func21 rfl rfl ((st1) _)) ?_
 refine z1 ?_
 refine Wa 31 rfl (bsL cStr [_, _] rfl rfl) ?_
 refine Wc rfl rfl (dC rfl Tryz.func20 rfl rfl ((r1) _)) ?_
 refine zy5 ?_
 refine zs1 ?_
 refine zp4 ?_
 refine Wa 39 rfl (bsL cInt [_, _, _, _, _] rfl rfl) ?_
 refine Wc rfl rfl (dC rfl Tryz.func21 rfl rfl ((st2) _)) ?_
 refine z1 ?_
 refine Wa 41 rfl (bsL cStr [_, _, _, _, _, _, _, _] rfl rfl) ?_
 refine Wc rfl rfl (dC rfl Tryz.func20 rfl rfl ((r2) _)) ?_
 refine zy5 ?_
 refine zs1 ?_
 refine zp3 ?_
 refine Wa 48 rfl (bsL cInt [_, _, _] rfl rfl) ?_
 refine Wc rfl rfl (dC rfl Tryz.func21 rfl rfl ((st1) _)) ?_
 refine z1 ?_
 refine Wa 50 rfl (bsL cStr [_, _] rfl rfl) ?_
 refine Wc rfl rfl (dC rfl Tryz.func20 rfl rfl ((r3) _)) ?_
 refine zy5 ?_
 refine zs1 ?_
 refine zp3 ?_
 refine Wa 57 rfl (bsL cInt [_, _, _, _] rfl rfl) ?_
 refine Wc rfl rfl (dC rfl Tryz.func21 rfl rfl ((st4) _)) ?_
 refine z1 ?_
 refine Wa 59 rfl (bsL cStr [_, _, _, _, _, _] rfl rfl) ?_
 refine Wc rfl rfl (dC rfl Tryz.func20 rfl rfl ((r4) _)) ?_
 refine zy5 ?_
 refine zs1 ?_
 refine zp2 ?_
 refine WO_true 64 rfl (by rfl) ?_
 refine zy3 ?_
 refine WO_true 67 rfl (by rfl) ?_
 refine zy3 ?_
 refine WO_true 70 rfl (by rfl) ?_
 refine zy3 ?_
 refine WO_true 73 rfl (by rfl) ?_
 refine zy3 ?_
 refine WO_true 76 rfl (by rfl) ?_
 refine zy2 ?_
 refine Wd rfl rfl (does_bytes_str (lO tG rfl) rfl (lO tG rfl) rfl (lO tG rfl) rfl rfl rfl) ?_
 refine zy2 ?_
 refine Wd rfl rfl (does_bytes_str (lO tG rfl) rfl (lO tG rfl) rfl (lO tG rfl) rfl rfl rfl) ?_
 refine z1 ?_
 refine Wa 83 rfl (str_eql _ _) ?_
 refine zy2 ?_
 refine WO_true 85 rfl (by exact decide_eq_true hxy) ?_
 refine zy5 ?_
 refine z1 ?_
 refine WO_true 91 rfl (by simp [hy]) ?_
 refine zy2 ?_
 refine Wd rfl rfl (does_bytes_str (lO tG rfl) rfl (lO tG rfl) rfl (lO tG rfl) rfl rfl rfl) ?_
 refine zy2 ?_
 refine Wd rfl rfl (does_bytes_str (lO tG rfl) rfl (lO tG rfl) rfl (lO tG rfl) rfl rfl rfl) ?_
 refine z1 ?_
 refine Wa 98 rfl (str_eql _ _) ?_
 refine zy2 ?_
 refine WO_true 100 rfl (by exact decide_eq_true hzu) ?_
 refine zy5 ?_
 refine zs1 ?_
 refine zR ?_
 exact congrArg boo (by simp [hu])
theorem fitL5 {a b c d e : Int} (h1 : Fit64 a) (h2 : Fit64 b) (h3 : Fit64 c) (h4 : Fit64 d) (h5 : Fit64 e) : FitL [a, b, c, d, e] := fun x hx => by simp at hx; rcases hx with rfl | rfl | rfl | rfl | rfl <;> assumption
theorem law_prints (c : UInt8) (n : Int) (hn : Fit64 n) : PureC Tryz.prog 8 [i64 n, .val (.int .u8 (c.toNat : Int))] (boo true) := by
 have km := (kmod c 35 (by decide)).2
 have hk9 : c.toNat % 35 < 35 := Nat.mod_lt _ (by decide)
 obtain ⟨k, hk⟩ : ∃ k, c.toNat % 35 = k := ⟨_, rfl⟩
 rw [hk] at km hk9
 have hb : IntKind.i64.wrap (2 + (k : Int)) = ((2 + k : Nat) : Int) := by simp only [i64w]; unfold wrap64; omega
 have fb : Fit64 ((2 + k : Nat) : Int) := by unfold Fit64; omega
 have f0 : Fit64 0 := by unfold Fit64; omega
 obtain ⟨x, y, z, u, e1, e2, e3, e4, o1, o2, o3, o4⟩ := prints n (2 + k) hn (by omega) (by omega)
 generalize hB : ((2 + k : Nat) : Int) = B at hb fb e1 e2 e3 e4
 by_cases h0 : n < 0
 ·rw [if_pos h0] at e2
  have fs : Fit64 (wrap64 (-n)) := wrap64_rng _
  have hs : IntKind.i64.wrap (0 - n) = wrap64 (-n) := by simp only [i64w, Int.zero_sub]
  exact law_prints_neg c n B (wrap64 (-n)) k km hb _ _ _ x y z u law_shown (law_stocked _) (law_stocked _) (law_stocked _)
   (run_of (Nat.le_of_ble_eq_true rfl) (fit3 hn fb f0) (by decide) e1) (run_of (Nat.le_of_ble_eq_true rfl) (fitL5 hn fs f0 fb f0) (by decide) e2) (run_of (Nat.le_of_ble_eq_true rfl) (fit3 hn fb f0) (by decide) e3) (run_of (Nat.le_of_ble_eq_true rfl) (fitL4 hn f0 fb f0) (by decide) e4)
   o1 o2 o3 o4 h0 hs
 ·rw [if_neg h0] at e2
  exact law_prints_pos c n B k km hb _ _ _ x y z u law_shown (law_stocked _) (law_stocked _) (law_stocked _)
   (run_of (Nat.le_of_ble_eq_true rfl) (fit3 hn fb f0) (by decide) e1) (run_of (Nat.le_of_ble_eq_true rfl) (fitL5 hn hn f0 fb f0) (by decide) e2) (run_of (Nat.le_of_ble_eq_true rfl) (fit3 hn fb f0) (by decide) e3) (run_of (Nat.le_of_ble_eq_true rfl) (fitL4 hn f0 fb f0) (by decide) e4)
   o1 o2 o3 o4 h0
theorem walk_PrimPrints (v0 v1 : Value) (w : World) (h0 : Reads w 3 v0) (h1 : Reads w 5 v1) :
  Calls Tryz.prog 8 #[v0, v1] w fun e w' => e = .returned (.bool true) ∧ Below w.heap.size w w' := by
 obtain ⟨n, hn, hs⟩ := reads_i64 h0
 obtain ⟨x, rfl, hx⟩ := reads_int Tryz.underlying5 h1
 have hx2 := byte_wf hx
 obtain ⟨k, rfl⟩ : ∃ k : UInt8, x = (k.toNat : Int) := ⟨UInt8.ofNat x.toNat, by rw [UInt8.toNat_ofNat']; omega⟩
 exact law_calls (args := [i64 n, .val (.int .u8 (k.toNat : Int))]) (law_prints k n hn) (repL_cons.2 ⟨hs, repL_cons.2 ⟨rep_val _ _, repL_nil.2 rfl⟩⟩)
end Go.Proofs.YtphgdofmjpdhaaaGreat
