import Derived.Test.YtphgdofmjpdhaaaGreatPk10
set_option linter.unusedVariables false
set_option linter.unusedSimpArgs false
namespace Go.Proofs.YtphgdofmjpdhaaaGreat
open Go.RowKit
set_option linter.unusedVariables false
set_option maxRecDepth 100000
def runS : VVm → List Str → VVm × Bool
 | v, [] => (v, true)
 | v, n :: ns => if (doS v (numberS n)).2 = 0 then runS (doS v (numberS n)).1 ns else (v, false)
end Go.Proofs.YtphgdofmjpdhaaaGreat
namespace Go.Proofs.YtphgdofmjpdhaaaGreat
open Go.RowKit
set_option linter.unusedVariables false
set_option maxRecDepth 100000
set_option maxHeartbeats 4000000
theorem run_step (v : VVm) (ns : List Str) {k : Nat} (h : k < ns.length) : runS v (ns.drop k) = if (doS v (numberS (ns.getD k []))).2 = 0 then runS (doS v (numberS (ns.getD k []))).1 (ns.drop (k + 1)) else (v, false) := by
 rw [List.drop_eq_getElem_cons h]
 have e : ns.getD k [] = ns[k] := by unfold List.getD; rw [List.getElem?_eq_getElem h]; rfl
 rw [e]
 rfl
theorem law_run (v : VVm) (ns : List Str) (N : Nat) (g : GoodV N v) (hN : N ≤ 1000) (hn : ns.length ≤ 1000) : PureC Tryz.prog 20 [eVm v, sq cStr ns] (tup2 (eVm (runS v ns).1) (boo (runS v ns).2)) := by
 refine pW tG (rs := [.cell 4 36, .tmp 5]) Tryz.func20 rfl rfl rfl (by simp) (by simp) (fun B => ?_)
 refine Ws ?_
 refine W_region rfl ?_
 iterate 3 refine We tG rfl rfl rfl trivial ?_
 refine Wn ?_
 iterate 2 refine Ws ?_
 refine W_region rfl ?_
 refine We tG rfl rfl rfl trivial ?_
 refine Wn ?_
 refine Wl ?_
 show W _ _ _ _ _ _ _
 refine W_loopS (fun (s : VVm × Nat) => [(2, .ptr 0 0), (4, .ptr 1 0), (1, sq cStr ns), (6, i64 s.2)]) (fun (s : VVm × Nat) => [.cells (cVm s.1) 36, .cells vmZ 36]) (fun (s : VVm × Nat) => []) (fun (s : VVm × Nat) => s.2 ≤ ns.length ∧ GoodV (N + 2 * s.2) s.1 ∧ runS v ns = runS s.1 (ns.drop s.2)) (fun (s : VVm × Nat) => ns.length - s.2) ((v, 0)) (by exact ⟨Nat.zero_le _, g, rfl⟩) [] ?_ ?_
 ·exact ⟨rfl, ⟨(by repeat (first | exact reBase_nil | refine rB (.inl rfl) ?_ | refine rB (.inr rfl) ?_)), (by repeat (first | exact reX_nil | refine rX rfl ?_ | refine rX (by refine congrArg (fun q => some (Ob.free q)) ?_; simp <;> omega) ?_)), (by decide), (by repeat (first | exact moved_nil | refine mC (.inl (Nat.le_of_ble_eq_true rfl)) ?_ | refine mC (.inr rfl) ?_)), (by repeat (first | exact nlo_nil | exact nO nlo_nil | refine nlo_cells (by first | (refine nF ?_; simp; done) | (refine nF (flatL_map' ?_ _); intro x; simp; done) | (simp [NL1L, NL1]; done)) ?_ | refine nO ?_ | refine nlo_dead ?_ | refine nlo_iter ?_ | refine nlo_smap (by first | (refine nF ?_; simp; done) | (refine nF (flatL_map' ?_ _); intro x; simp; done) | (simp [NL1L, NL1]; done)) ?_))⟩, (by repeat (first | exact subL_nil | refine subL_cons (by first | exact imp_of rfl | exact imp_seq _ _ _ | exact imp_of (congrArg i64 (by first | (rw [i64w]; unfold wrap64; omega) | omega | (simp; done)))) ?_)), (by repeat (first | exact nls_nil | refine nls_cons (by first | (refine nl_flat ?_; simp; done) | (show _ < _; first | decide | (simp; done)) | (refine ⟨?_, flatL_map' ?_ _⟩ <;> first | decide | (intro x; simp; done) | (simp; done)) | (refine ⟨?_, ?_⟩ <;> first | decide | (simp; done)) | (simp [NL, NL1L, NL1]; done)) ?_))⟩
 ·intro s hs
  iterate 2 refine Ws ?_
  refine W_region rfl ?_
  iterate 4 refine We tG rfl rfl rfl trivial ?_
  refine Wn ?_
  refine Wi rfl (fun hi1 => ?_) (fun hi1 => ?_)
  ·have hlt : s.2 < ns.length := by have := of_decide_eq_true hi1; omega
   have hst := run_step s.1 ns hlt
   have gd := doS_good (n := numberS (ns.getD s.2 [])) hs.2.1
   have pd := prim_Do s.1 (good_ok hs.2.1 (by omega)) (numberS (ns.getD s.2 []))
   generalize doS s.1 (numberS (ns.getD s.2 [])) = r at hst gd pd
   refine Wj ?_
   refine Ws ?_
   refine Wl ?_
   refine Ws ?_
   refine W_drawU [1, 0, 0, 0, 0, 0, 0, 0, 0, 0, 2, 3, 0] [0, 1, 2, 3, 4, 5, 6, 7, 8, 9, 10, 11, 12] mG rfl (by kernel_rfl) ?_
   refine Xf tG rfl rfl rfl rfl (fun _ => rfl) trivial ?_
   refine Xe tG rfl rfl rfl rfl (fun _ => rfl) trivial ?_
   refine Xe tG rfl rfl rfl rfl (fun _ => rfl) trivial ?_
   first | refine Xi tG rfl rfl rfl rfl (fun _ => rfl) (by first | exact trivial | omega | (simp only [dnL] at *; omega) | (simp_all; done) | (simp_all; omega)) (iN cStr 1 (fun _ => rfl) [] (by first | exact trivial | omega | (simp only [dnL] at *; omega) | (simp_all; done) | (simp_all; omega))) ?_ | refine Xi tG rfl rfl rfl rfl (fun _ => rfl) (by first | exact trivial | omega | (simp only [dnL] at *; omega) | (simp_all; done) | (simp_all; omega)) (iR cStr 1 (fun _ => rfl) [] (by first | exact trivial | omega | (simp only [dnL] at *; omega) | (simp_all; done) | (simp_all; omega))) ?_
   refine Xe tG rfl rfl rfl rfl (fun _ => rfl) trivial ?_
   refine Xc rfl rfl rfl rfl (fun _ => dC rfl Tryz.func22 rfl rfl ((ref_Number (ns.getD s.2 [])) _)) ?_
   refine Xc rfl rfl rfl rfl (fun _ => dC rfl Tryz.func14 rfl rfl ((pd) _)) ?_
   refine Xe tG rfl rfl rfl rfl (fun _ => rfl) trivial ?_
   refine Xe tG rfl rfl rfl rfl (fun _ => rfl) trivial ?_
   refine Xe tG rfl rfl rfl rfl (fun _ => rfl) trivial ?_
   refine WU_ev2 tG rfl rfl rfl rfl rfl trivial rfl ?_
   refine WU_ev3 tG rfl rfl rfl rfl rfl trivial ?_
   refine Xe tG rfl rfl rfl rfl (fun _ => rfl) trivial ?_
   refine WU_nil ?_
   iterate 2 refine Ws ?_
   refine W_region rfl ?_
   iterate 2 refine We tG rfl rfl rfl trivial ?_
   refine Wn ?_
   refine Wi rfl (fun hi2 => ?_) (fun hi2 => ?_)
   ·have hne : r.2 ≠ 0 := by simpa using hi2
    refine Ws ?_
    refine W_region rfl ?_
    iterate 3 refine We tG rfl rfl rfl trivial ?_
    refine Wn ?_
    refine Wq ?_
    refine lP rfl ?_
    rw [hs.2.2, hst, if_neg hne]; rfl
   ·have hz : r.2 = 0 := by simpa using hi2
    refine Wj ?_
    refine W_region rfl ?_
    iterate 2 refine We tG rfl rfl rfl trivial ?_
    refine Wn ?_
    refine W_region rfl ?_
    iterate 3 refine We tG rfl rfl rfl trivial ?_
    refine Wn ?_
    exact ⟨(r.1, s.2 + 1), [], (by exact ⟨hlt, gd, by rw [hs.2.2, hst, if_pos hz]⟩), (by simp only; omega), ⟨rfl, ⟨(by repeat (first | exact reBase_nil | refine rB (.inl rfl) ?_ | refine rB (.inr rfl) ?_)), (by repeat (first | exact reX_nil | refine rX rfl ?_ | refine rX (by refine congrArg (fun q => some (Ob.free q)) ?_; simp <;> omega) ?_)), (by decide), (by repeat (first | exact moved_nil | refine mC (.inl (Nat.le_of_ble_eq_true rfl)) ?_ | refine mC (.inr rfl) ?_)), (by repeat (first | exact nlo_nil | exact nO nlo_nil | refine nlo_cells (by first | (refine nF ?_; simp; done) | (refine nF (flatL_map' ?_ _); intro x; simp; done) | (simp [NL1L, NL1]; done)) ?_ | refine nO ?_ | refine nlo_dead ?_ | refine nlo_iter ?_ | refine nlo_smap (by first | (refine nF ?_; simp; done) | (refine nF (flatL_map' ?_ _); intro x; simp; done) | (simp [NL1L, NL1]; done)) ?_))⟩, (by repeat (first | exact subL_nil | refine subL_cons (by first | exact imp_of rfl | exact imp_seq _ _ _ | exact imp_of (congrArg i64 (by first | (rw [i64w]; unfold wrap64; omega) | omega | (simp; done)))) ?_)), (by repeat (first | exact nls_nil | refine nls_cons (by first | (refine nl_flat ?_; simp; done) | (show _ < _; first | decide | (simp; done)) | (refine ⟨?_, flatL_map' ?_ _⟩ <;> first | decide | (intro x; simp; done) | (simp; done)) | (refine ⟨?_, ?_⟩ <;> first | decide | (simp; done)) | (simp [NL, NL1L, NL1]; done)) ?_))⟩⟩
  ·have hge : ns.length ≤ s.2 := by have := of_decide_eq_false hi1; omega
   refine W_exit ?_
   refine Ws ?_
   refine W_region rfl ?_
   iterate 3 refine We tG rfl rfl rfl trivial ?_
   refine Wn ?_
   refine Wq ?_
   refine lP rfl ?_
   rw [hs.2.2, List.drop_eq_nil_of_le hge]; rfl
end Go.Proofs.YtphgdofmjpdhaaaGreat
namespace Go.Proofs.YtphgdofmjpdhaaaGreat
open Go.RowKit
set_option linter.unusedVariables false
set_option maxRecDepth 100000
set_option maxHeartbeats 4000000
def withD (v : VVm) (d : List Int) : VVm := { v with d := d }
end Go.Proofs.YtphgdofmjpdhaaaGreat
namespace Go.Proofs.YtphgdofmjpdhaaaGreat
open Go.RowKit
set_option linter.unusedVariables false
set_option maxRecDepth 100000
set_option maxHeartbeats 400000
theorem fit3 {a b c : Int} (h1 : Fit64 a) (h2 : Fit64 b) (h3 : Fit64 c) : FitL [a, b, c] := fun x hx => by simp at hx; rcases hx with rfl | rfl | rfl <;> assumption
theorem kmod (k : UInt8) (n : Nat) (hn : 0 < n) : IntKind.i64.wrap (k.toNat : Int) = (k.toNat : Int) ∧ ((k.toNat : Int)).tmod (n : Int) = ((k.toNat % n : Nat) : Int) := by
 have := k.toNat_lt
 constructor
 ·simp only [i64w]; unfold wrap64; omega
 ·rw [Int.tmod_eq_emod_of_nonneg (by omega)]; omega
end Go.Proofs.YtphgdofmjpdhaaaGreat
namespace Go.Proofs.YtphgdofmjpdhaaaGreat
open Go.RowKit
set_option linter.unusedVariables false
set_option maxRecDepth 100000
set_option maxHeartbeats 4000000
def bytesN : Nat → Nat → List Int
 | 0, _ => []
 | k + 1, u => ((u % 256 : Nat) : Int) :: bytesN k (u / 256)
theorem valB_bytesN (k : Nat) : ∀ u : Nat, u < 256 ^ k → valB (bytesN k u) = u := by
 induction k with
 | zero => intro u h; simp at h; simp [bytesN, valB, h]
 | succ k ih =>
  intro u h
  rw [Nat.pow_succ] at h
  simp only [bytesN, valB, ih (u / 256) (by omega), Int.toNat_natCast]
  omega
theorem bytes8_N (u : Nat) : bytes8 u = bytesN 8 u := by
 simp only [bytes8, bytesN, Nat.div_div_eq_div_mul]
 rfl
theorem valB_bytes8 (u : Nat) (h : u < 18446744073709551616) : valB (bytes8 u) = u := by
 rw [bytes8_N]; exact valB_bytesN 8 u (by rw [show (256 : Nat) ^ 8 = 18446744073709551616 from by decide]; exact h)
theorem getC_putC {n : Int} (h : Fit64 n) : getC (putC n) = n := by
 have e : (putC n).map (fun b => (b.toNat : Int)) = bytes8 (U n) := by
  unfold putC
  rw [List.map_map]
  have : ∀ x ∈ bytes8 (U n), ((fun b : UInt8 => (b.toNat : Int)) ∘ fun x : Int => UInt8.ofNat x.toNat) x = id x := by
   intro x hx
   have := b8_rng (U n) x hx
   simp only [Function.comp, id]
   rw [UInt8.toNat_ofNat']
   omega
  rw [List.map_congr_left this, List.map_id]
 unfold getC
 rw [e, valB_bytes8 _ (U_lt n)]
 exact S_U n h
def stM (m : VMem) (a n : Int) : VMem := ⟨laidB m.b a.toNat (putC n), m.old ++ [⟨a, (m.b.drop a.toNat).take 8⟩]⟩
theorem there_ok {m : VMem} {a n : Int} (h0 : 0 ≤ a) (h1 : 0 < n) (h2 : a + n ≤ m.b.length) : memThere m a n = true := by
 unfold memThere
 rw [decide_eq_true_eq]
 omega
theorem cell_ok {m : VMem} {a : Int} (h0 : 0 ≤ a) (h1 : a % 8 = 0) (h2 : a + 8 ≤ m.b.length) : memCellAt m a = 0 := by
 unfold memCellAt
 rw [there_ok h0 (by omega) h2, if_pos rfl, if_pos (by rw [Int.tmod_eq_emod_of_nonneg h0]; exact h1)]
theorem write_ok {m : VMem} {a : Int} (n : Int) (h0 : 0 ≤ a) (h2 : a + 8 ≤ m.b.length) : memWrite m a (putC n) = (stM m a n, 0) := by
 unfold memWrite
 rw [putC_len, if_pos (show memThere m a ((8 : Nat) : Int) = true from there_ok h0 (by omega) h2), if_neg (by intro h; have := congrArg List.length h; rw [putC_len] at this; cases this)]
 rfl
theorem store_ok {m : VMem} {a : Int} (n : Int) (h0 : 0 ≤ a) (h1 : a % 8 = 0) (h2 : a + 8 ≤ m.b.length) : memStore m a n = (stM m a n, 0) := by
 unfold memStore
 rw [if_pos (cell_ok h0 h1 h2), write_ok n h0 h2]
theorem stM_len {m : VMem} {a n : Int} (h0 : 0 ≤ a) (h2 : a + 8 ≤ m.b.length) : (stM m a n).b.length = m.b.length := by
 unfold stM
 exact laidB_len (by rw [putC_len]; omega)
theorem laid_at {l x : List UInt8} {k : Nat} (h : k + x.length ≤ l.length) : ((laidB l k x).drop k).take x.length = x := by
 unfold laidB
 rw [List.append_assoc, List.drop_left' (by rw [List.length_take]; omega), List.take_left' rfl]
theorem fetch_same {m : VMem} {a n : Int} (hn : Fit64 n) (h0 : 0 ≤ a) (h1 : a % 8 = 0) (h2 : a + 8 ≤ m.b.length) : memFetch (stM m a n) a = (n, 0) := by
 unfold memFetch
 rw [cell_ok h0 h1 (by rw [stM_len h0 h2]; exact h2), if_pos rfl]
 have e : ((stM m a n).b.drop a.toNat).take 8 = putC n := laid_at (x := putC n) (by rw [putC_len]; omega)
 rw [e, getC_putC hn]
theorem run_cons {v v' : VVm} {n : Str} {ns : List Str} (h : doS v (numberS n) = (v', 0)) : runS v (n :: ns) = runS v' ns := by
 show (if (doS v (numberS n)).2 = 0 then runS (doS v (numberS n)).1 ns else (v, false)) = _
 rw [h]; rfl
theorem run_nil (v : VVm) : runS v [] = (v, true) := rfl
theorem sw_fetch {u : VVm} {a n : Int} (hc : u.conf.data = 32) (h : memFetch u.mem a = (n, 0)) : doS (withD u [a]) (numberS [64]) = (withD u [n], 0) := by
 have e : doS (withD u [a]) (numberS [64]) = doR (withD u [a]) 1 (withD u [a], [(memFetch u.mem a).1], (memFetch u.mem a).2) := by kernel_rfl
 rw [e, h]
 exact doR_ok (Nat.le_of_ble_eq_true rfl) rfl (by show ((1 : Nat) : Int) ≤ u.conf.data; rw [hc]; decide)
end Go.Proofs.YtphgdofmjpdhaaaGreat
namespace Go.Proofs.YtphgdofmjpdhaaaGreat
open Go.RowKit
open Go.WideShapes
set_option linter.unusedVariables false
set_option maxRecDepth 100000
set_option maxHeartbeats 4000000
theorem same_of {l l' : List Int} (hl : l'.length ≤ 1000000) (h : l = l') : PureC Tryz.prog 23 [sq cInt l, sq cInt l'] (boo true) := by
 subst h
 have := ref_Same4 l l hl hl
 rw [decide_eq_true rfl] at this
 exact this
end Go.Proofs.YtphgdofmjpdhaaaGreat
namespace Go.Proofs.YtphgdofmjpdhaaaGreat
open Go.RowKit
set_option linter.unusedVariables false
set_option maxRecDepth 100000
set_option maxHeartbeats 4000000
theorem run_bad2 {v : VVm} {n : Str} {ns : List Str} {e : Int} (h : doS v (numberS n) = (v, e)) (h0 : e ≠ 0) : runS v (n :: ns) = (v, false) := by
 show (if (doS v (numberS n)).2 = 0 then runS (doS v (numberS n)).1 ns else (v, false)) = _
 rw [h, if_neg h0]
theorem sw_store0 {u : VVm} {n a : Int} {m : VMem} (hc : u.conf.data = 32) (h : memStore u.mem a n = (m, 0)) : doS (withD u [n, a]) (numberS [33]) = (withD (withM u m) [], 0) := by
 have e : doS (withD u [n, a]) (numberS [33]) = doR (withD u [n, a]) 2 (pPut (withD u [n, a]) (memStore u.mem a n)) := by kernel_rfl
 rw [e, h]
 exact doR_ok (Nat.le_of_ble_eq_true rfl) rfl (by show ((0 : Nat) : Int) ≤ u.conf.data; rw [hc]; decide)
theorem sw_get {u : VVm} {a n : Int} (hc : u.conf.data = 32) (h : memFetch u.mem a = (n, 0)) : doS (withD u [a]) (numberS [71, 69, 84, 45, 83, 84, 65, 84, 69]) = (withD u [n], 0) := by
 have e : doS (withD u [a]) (numberS [71, 69, 84, 45, 83, 84, 65, 84, 69]) = doR (withD u [a]) 1 (withD u [a], [(memFetch u.mem a).1], (memFetch u.mem a).2) := by kernel_rfl
 rw [e, h]
 exact doR_ok (Nat.le_of_ble_eq_true rfl) rfl (by show ((1 : Nat) : Int) ≤ u.conf.data; rw [hc]; decide)
theorem set_word (u : VVm) (s b : Int) : doS (withD u [s, b]) (numberS [83, 69, 84, 45, 83, 84, 65, 84, 69]) = doR (withD u [s, b]) 2 (if stated u s b = 0 then pPut (withD u [s, b]) (memStore u.mem b s) else (withD u [s, b], [], stated u s b)) := by kernel_rfl
theorem at_word (u : VVm) (x s b : Int) : doS (withD u [x, s, b]) (numberS [65, 84, 45, 83, 84, 65, 84, 69]) = doR (withD u [x, s, b]) 3 (if stated u s b = 0 then pPut (withD u [x, s, b]) (memStore u.mem (W64 (W64 (b + 16) + W64 (8 * s))) x) else (withD u [x, s, b], [], stated u s b)) := by kernel_rfl
theorem stated_of {u : VVm} {s k : Int} (h : memFetch u.mem 1408 = (k, 0)) : stated u s 1400 = if s < 0 ∨ k ≤ s then -24 else 0 := by
 unfold stated
 rw [show W64 (1400 + 8) = 1408 by decide +kernel, h]
 rfl
theorem set_out {u : VVm} {s k : Int} (h : memFetch u.mem 1408 = (k, 0)) (ho : s < 0 ∨ k ≤ s) : doS (withD u [s, 1400]) (numberS [83, 69, 84, 45, 83, 84, 65, 84, 69]) = (withD u [s, 1400], -24) := by
 rw [set_word, stated_of h, if_pos ho]
 exact doR_bad (Nat.le_of_ble_eq_true rfl) (show (-24 : Int) ≠ 0 by decide)
theorem at_out {u : VVm} {x s k : Int} (h : memFetch u.mem 1408 = (k, 0)) (ho : s < 0 ∨ k ≤ s) : doS (withD u [x, s, 1400]) (numberS [65, 84, 45, 83, 84, 65, 84, 69]) = (withD u [x, s, 1400], -24) := by
 rw [at_word, stated_of h, if_pos ho]
 exact doR_bad (Nat.le_of_ble_eq_true rfl) (show (-24 : Int) ≠ 0 by decide)
theorem set_in {u : VVm} {s k : Int} {m : VMem} (hc : u.conf.data = 32) (h : memFetch u.mem 1408 = (k, 0)) (ho : ¬ (s < 0 ∨ k ≤ s)) (hs : memStore u.mem 1400 s = (m, 0)) : doS (withD u [s, 1400]) (numberS [83, 69, 84, 45, 83, 84, 65, 84, 69]) = (withD (withM u m) [], 0) := by
 rw [set_word, stated_of h, if_neg ho, if_pos rfl, hs]
 exact doR_ok (Nat.le_of_ble_eq_true rfl) rfl (by show ((0 : Nat) : Int) ≤ u.conf.data; rw [hc]; decide)
theorem at_in {u : VVm} {x s k : Int} {m : VMem} (hc : u.conf.data = 32) (h : memFetch u.mem 1408 = (k, 0)) (ho : ¬ (s < 0 ∨ k ≤ s)) (hs : memStore u.mem (W64 (W64 (1400 + 16) + W64 (8 * s))) x = (m, 0)) : doS (withD u [x, s, 1400]) (numberS [65, 84, 45, 83, 84, 65, 84, 69]) = (withD (withM u m) [], 0) := by
 rw [at_word, stated_of h, if_neg ho, if_pos rfl, hs]
 exact doR_ok (Nat.le_of_ble_eq_true rfl) rfl (by show ((0 : Nat) : Int) ≤ u.conf.data; rw [hc]; decide)
theorem at_place {s : Int} (h0 : 0 ≤ s) (h1 : s < 9) : W64 (W64 (1400 + 16) + W64 (8 * s)) = 1416 + 8 * s := by
 rw [w64_id (n := 1400 + 16) (by unfold Fit64; omega), w64_id (n := 8 * s) (by unfold Fit64; omega), w64_id (by unfold Fit64; omega)]
 omega
def statV (k : Int) : VVm := withM (stockS []) (stM (stockS []).mem 1408 k)
theorem stat_len (k : Int) : ((statV k).mem.b.length : Int) = 2048 := by
 have hl : ((stockS []).mem.b.length : Int) = 2048 := congrArg Int.ofNat (newB_len 2048 167)
 show ((stM (stockS []).mem 1408 k).b.length : Int) = 2048
 rw [stM_len (by omega) (by omega)]; exact hl
theorem stat_k {k : Int} (hk : Fit64 k) : memFetch (statV k).mem 1408 = (k, 0) := by
 have hl : ((stockS []).mem.b.length : Int) = 2048 := congrArg Int.ofNat (newB_len 2048 167)
 exact fetch_same hk (by omega) (by omega) (by omega)
theorem stat_run (k : Int) : runS (stockS [k, 1408]) [[33]] = (withD (statV k) [], true) := by
 have hl : ((stockS []).mem.b.length : Int) = 2048 := congrArg Int.ofNat (newB_len 2048 167)
 have hs := store_ok (m := (stockS []).mem) (a := 1408) k (by omega) (by omega) (by omega)
 rw [show stockS [k, 1408] = withD (stockS []) [k, 1408] from rfl, run_cons (sw_store0 rfl hs), run_nil]
 rfl
theorem good_withD {N : Nat} {v : VVm} {d : List Int} (g : GoodV N v) (hf : FitL d) (hd : (d.length : Int) ≤ v.conf.data) : GoodV N (withD v d) :=
 ⟨(right_iff _).2 (keeps_right ((right_iff _).1 g.right) (.refl v) hd), g.old, hf, g.ints⟩
theorem run_word {v : VVm} {n : Str} {v' : VVm} (h : doS v (numberS n) = (v', 0)) : runS v [n] = (v', true) := by rw [run_cons h, run_nil]
end Go.Proofs.YtphgdofmjpdhaaaGreat
namespace Go.Proofs.YtphgdofmjpdhaaaGreat
open Go.RowKit
open Go.WideShapes
set_option linter.unusedVariables false
set_option maxRecDepth 100000
set_option maxHeartbeats 4000000
theorem law_states_low (x : UInt8) (s q : Int) (k : Nat) (km : ((x.toNat : Nat) : Int).tmod ((9 : Nat) : Int) = ((k : Nat) : Int)) (h0 : ¬ 0 ≤ s) (v0 v1 : VVm) (hsh : PureC Tryz.prog 12 [] (boo true)) (st : PureC Tryz.prog 21 [sq cInt [(k : Int), 1408]] (eVm v0))
  (r1 : PureC Tryz.prog 20 [eVm v0, sq cStr [[33]]] (tup2 (eVm v1) (boo true))) (r2 : PureC Tryz.prog 20 [eVm (withD v1 [s, 1400]), sq cStr [[83, 69, 84, 45, 83, 84, 65, 84, 69]]] (tup2 (eVm (withD v1 [s, 1400])) (boo false)))
  (r3 : PureC Tryz.prog 20 [eVm (withD v1 [q, s, 1400]), sq cStr [[65, 84, 45, 83, 84, 65, 84, 69]]] (tup2 (eVm (withD v1 [q, s, 1400])) (boo false))) : PureC Tryz.prog 10 [.val (.int .u8 (x.toNat : Int)), i64 s, i64 q] (boo true) := by
 have kw := (kmod x 9 (by decide)).1
 refine pW tG (rs := [.tmp 6]) Tryz.func10 rfl rfl rfl (by simp) (by simp) (fun B => ?_)
 refine Ws ?_
 refine W_region rfl ?_
 refine We tG rfl rfl rfl trivial ?_
 refine Wn ?_
 refine Ws ?_
 refine W_region rfl ?_
 refine Wc rfl rfl (dC rfl Tryz.func12 rfl rfl ((hsh) _)) ?_
 refine We tG rfl rfl rfl trivial ?_
 refine Wn ?_
 refine Ws ?_
 refine W_region rfl ?_
 iterate 2 refine We tG rfl rfl rfl trivial ?_
 refine Wa 23 rfl (congrArg (fun z => PV.val (Value.int .i64 z)) kw) ?_
 refine We tG rfl rfl rfl trivial ?_
 refine Wa 24 rfl (congrArg (fun z => PV.val (Value.int .i64 z)) km) ?_
 refine We tG rfl rfl rfl trivial ?_
 refine Wn ?_
 refine Ws ?_
 refine W_region rfl ?_
 refine We tG rfl rfl rfl trivial ?_
 refine Wn ?_
 refine Ws ?_
 refine W_region rfl ?_
 iterate 3 refine We tG rfl rfl rfl trivial ?_
 refine Wa 28 rfl (congrArg (fun z => PV.val (Value.int .i64 z)) (show _ = (1408 : Int) by decide +kernel)) ?_
 refine We tG rfl rfl rfl trivial ?_
 first | refine Wa 29 rfl (bsL cInt [_, _] rfl rfl) ?_ | skip
 refine Wc rfl rfl (dC rfl Tryz.func21 rfl rfl ((st) _)) ?_
 refine We tG rfl rfl rfl trivial ?_
 first | refine Wa 31 rfl (bsL cStr [_] rfl rfl) ?_ | skip
 refine Wc rfl rfl (dC rfl Tryz.func20 rfl rfl ((r1) _)) ?_
 iterate 6 refine We tG rfl rfl rfl trivial ?_
 refine Wn ?_
 refine Ws ?_
 refine W_region rfl ?_
 iterate 3 refine We tG rfl rfl rfl trivial ?_
 first | refine Wa 37 rfl (bsL cInt [_, _] rfl rfl) ?_ | skip
 iterate 2 refine We tG rfl rfl rfl trivial ?_
 refine Wn ?_
 refine Ws ?_
 refine W_region rfl ?_
 iterate 2 refine We tG rfl rfl rfl trivial ?_
 first | refine Wa 41 rfl (bsL cStr [_] rfl rfl) ?_ | skip
 refine Wc rfl rfl (dC rfl Tryz.func20 rfl rfl ((r2) _)) ?_
 iterate 6 refine We tG rfl rfl rfl trivial ?_
 refine Wn ?_
 refine Ws ?_
 refine W_region rfl ?_
 iterate 4 refine We tG rfl rfl rfl trivial ?_
 first | refine Wa 48 rfl (bsL cInt [_, _, _] rfl rfl) ?_ | skip
 iterate 2 refine We tG rfl rfl rfl trivial ?_
 refine Wn ?_
 refine Ws ?_
 refine W_region rfl ?_
 iterate 2 refine We tG rfl rfl rfl trivial ?_
 first | refine Wa 52 rfl (bsL cStr [_] rfl rfl) ?_ | skip
 refine Wc rfl rfl (dC rfl Tryz.func20 rfl rfl ((r3) _)) ?_
 iterate 6 refine We tG rfl rfl rfl trivial ?_
 refine Wn ?_
 refine Ws ?_
 refine W_region rfl ?_
 iterate 3 refine We tG rfl rfl rfl trivial ?_
 refine WO_false 58 rfl (by exact decide_eq_false h0) ?_
 iterate 3 refine Wk rfl rfl ?_
 iterate 2 refine We tG rfl rfl rfl trivial ?_
 refine Wn ?_
 iterate 2 refine Ws ?_
 refine W_region rfl ?_
 iterate 3 refine We tG rfl rfl rfl trivial ?_
 refine WO_false 65 rfl (by rfl) ?_
 iterate 5 refine We tG rfl rfl rfl trivial ?_
 refine WO_false 70 rfl (by rfl) ?_
 iterate 4 refine We tG rfl rfl rfl trivial ?_
 refine Wn ?_
 refine Wf rfl (by rfl) ?_
 refine Wj ?_
 iterate 2 refine Ws ?_
 refine W_region rfl ?_
 iterate 2 refine We tG rfl rfl rfl trivial ?_
 refine Wn ?_
 refine Wt rfl rfl ?_
 refine Ws ?_
 refine W_region rfl ?_
 iterate 2 refine We tG rfl rfl rfl trivial ?_
 refine Wn ?_
 refine Wq ?_
 refine lP rfl ?_
 first | rfl | (simp_all; done) | (simp_all; omega)
theorem law_states_high (x : UInt8) (s q : Int) (k : Nat) (km : ((x.toNat : Nat) : Int).tmod ((9 : Nat) : Int) = ((k : Nat) : Int)) (h0 : 0 ≤ s) (h1 : ¬ s < (k : Int)) (v0 v1 : VVm) (hsh : PureC Tryz.prog 12 [] (boo true)) (st : PureC Tryz.prog 21 [sq cInt [(k : Int), 1408]] (eVm v0))
  (r1 : PureC Tryz.prog 20 [eVm v0, sq cStr [[33]]] (tup2 (eVm v1) (boo true))) (r2 : PureC Tryz.prog 20 [eVm (withD v1 [s, 1400]), sq cStr [[83, 69, 84, 45, 83, 84, 65, 84, 69]]] (tup2 (eVm (withD v1 [s, 1400])) (boo false)))
  (r3 : PureC Tryz.prog 20 [eVm (withD v1 [q, s, 1400]), sq cStr [[65, 84, 45, 83, 84, 65, 84, 69]]] (tup2 (eVm (withD v1 [q, s, 1400])) (boo false))) : PureC Tryz.prog 10 [.val (.int .u8 (x.toNat : Int)), i64 s, i64 q] (boo true) := by
 have kw := (kmod x 9 (by decide)).1
 refine pW tG (rs := [.tmp 6]) Tryz.func10 rfl rfl rfl (by simp) (by simp) (fun B => ?_)
 refine Ws ?_
 refine W_region rfl ?_
 refine We tG rfl rfl rfl trivial ?_
 refine Wn ?_
 refine Ws ?_
 refine W_region rfl ?_
 refine Wc rfl rfl (dC rfl Tryz.func12 rfl rfl ((hsh) _)) ?_
 refine We tG rfl rfl rfl trivial ?_
 refine Wn ?_
 refine Ws ?_
 refine W_region rfl ?_
 iterate 2 refine We tG rfl rfl rfl trivial ?_
 refine Wa 23 rfl (congrArg (fun z => PV.val (Value.int .i64 z)) kw) ?_
 refine We tG rfl rfl rfl trivial ?_
 refine Wa 24 rfl (congrArg (fun z => PV.val (Value.int .i64 z)) km) ?_
 refine We tG rfl rfl rfl trivial ?_
 refine Wn ?_
 refine Ws ?_
 refine W_region rfl ?_
 refine We tG rfl rfl rfl trivial ?_
 refine Wn ?_
 refine Ws ?_
 refine W_region rfl ?_
 iterate 3 refine We tG rfl rfl rfl trivial ?_
 refine Wa 28 rfl (congrArg (fun z => PV.val (Value.int .i64 z)) (show _ = (1408 : Int) by decide +kernel)) ?_
 refine We tG rfl rfl rfl trivial ?_
 first | refine Wa 29 rfl (bsL cInt [_, _] rfl rfl) ?_ | skip
 refine Wc rfl rfl (dC rfl Tryz.func21 rfl rfl ((st) _)) ?_
 refine We tG rfl rfl rfl trivial ?_
 first | refine Wa 31 rfl (bsL cStr [_] rfl rfl) ?_ | skip
 refine Wc rfl rfl (dC rfl Tryz.func20 rfl rfl ((r1) _)) ?_
 iterate 6 refine We tG rfl rfl rfl trivial ?_
 refine Wn ?_
 refine Ws ?_
 refine W_region rfl ?_
 iterate 3 refine We tG rfl rfl rfl trivial ?_
 first | refine Wa 37 rfl (bsL cInt [_, _] rfl rfl) ?_ | skip
 iterate 2 refine We tG rfl rfl rfl trivial ?_
 refine Wn ?_
 refine Ws ?_
 refine W_region rfl ?_
 iterate 2 refine We tG rfl rfl rfl trivial ?_
 first | refine Wa 41 rfl (bsL cStr [_] rfl rfl) ?_ | skip
 refine Wc rfl rfl (dC rfl Tryz.func20 rfl rfl ((r2) _)) ?_
 iterate 6 refine We tG rfl rfl rfl trivial ?_
 refine Wn ?_
 refine Ws ?_
 refine W_region rfl ?_
 iterate 4 refine We tG rfl rfl rfl trivial ?_
 first | refine Wa 48 rfl (bsL cInt [_, _, _] rfl rfl) ?_ | skip
 iterate 2 refine We tG rfl rfl rfl trivial ?_
 refine Wn ?_
 refine Ws ?_
 refine W_region rfl ?_
 iterate 2 refine We tG rfl rfl rfl trivial ?_
 first | refine Wa 52 rfl (bsL cStr [_] rfl rfl) ?_ | skip
 refine Wc rfl rfl (dC rfl Tryz.func20 rfl rfl ((r3) _)) ?_
 iterate 6 refine We tG rfl rfl rfl trivial ?_
 refine Wn ?_
 refine Ws ?_
 refine W_region rfl ?_
 iterate 3 refine We tG rfl rfl rfl trivial ?_
 refine WO_true 58 rfl (by exact decide_eq_true h0) ?_
 iterate 3 refine We tG rfl rfl rfl trivial ?_
 refine Wa 61 rfl ((show boo (decide (s < (k : Int))) = boo false by rw [decide_eq_false h1])) ?_
 iterate 2 refine We tG rfl rfl rfl trivial ?_
 refine Wn ?_
 iterate 2 refine Ws ?_
 refine W_region rfl ?_
 iterate 3 refine We tG rfl rfl rfl trivial ?_
 refine WO_false 65 rfl (by rfl) ?_
 iterate 5 refine We tG rfl rfl rfl trivial ?_
 refine WO_false 70 rfl (by rfl) ?_
 iterate 4 refine We tG rfl rfl rfl trivial ?_
 refine Wn ?_
 refine Wf rfl (by rfl) ?_
 refine Wj ?_
 iterate 2 refine Ws ?_
 refine W_region rfl ?_
 iterate 2 refine We tG rfl rfl rfl trivial ?_
 refine Wn ?_
 refine Wt rfl (by rfl) ?_
 refine Ws ?_
 refine W_region rfl ?_
 iterate 2 refine We tG rfl rfl rfl trivial ?_
 refine Wn ?_
 refine Wq ?_
 refine lP rfl ?_
 first | rfl | (simp_all; done) | (simp_all; omega)
theorem law_states_in (x : UInt8) (s q A : Int) (k : Nat) (km : ((x.toNat : Nat) : Int).tmod ((9 : Nat) : Int) = ((k : Nat) : Int)) (h0 : 0 ≤ s) (h1 : s < (k : Int)) (hA : IntKind.i64.wrap (IntKind.i64.wrap (1400 + 16) + IntKind.i64.wrap (8 * s)) = A) (v0 v1 y z u w : VVm) (hsh : PureC Tryz.prog 12 [] (boo true)) (st : PureC Tryz.prog 21 [sq cInt [(k : Int), 1408]] (eVm v0))
  (r1 : PureC Tryz.prog 20 [eVm v0, sq cStr [[33]]] (tup2 (eVm v1) (boo true))) (r2 : PureC Tryz.prog 20 [eVm (withD v1 [s, 1400]), sq cStr [[83, 69, 84, 45, 83, 84, 65, 84, 69]]] (tup2 (eVm y) (boo true)))
  (r3 : PureC Tryz.prog 20 [eVm (withD v1 [q, s, 1400]), sq cStr [[65, 84, 45, 83, 84, 65, 84, 69]]] (tup2 (eVm z) (boo true))) (r4 : PureC Tryz.prog 20 [eVm (withD y [1400]), sq cStr [[71, 69, 84, 45, 83, 84, 65, 84, 69]]] (tup2 (eVm u) (boo true)))
  (r5 : PureC Tryz.prog 20 [eVm (withD z [A]), sq cStr [[64]]] (tup2 (eVm w) (boo true))) (s1 : PureC Tryz.prog 23 [sq cInt u.d, sq cInt [s]] (boo true)) (s2 : PureC Tryz.prog 23 [sq cInt w.d, sq cInt [q]] (boo true)) : PureC Tryz.prog 10 [.val (.int .u8 (x.toNat : Int)), i64 s, i64 q] (boo true) := by
 have kw := (kmod x 9 (by decide)).1
 refine pW tG (rs := [.tmp 6]) Tryz.func10 rfl rfl rfl (by simp) (by simp) (fun B => ?_)
 refine Ws ?_
 refine W_region rfl ?_
 refine We tG rfl rfl rfl trivial ?_
 refine Wn ?_
 refine Ws ?_
 refine W_region rfl ?_
 refine Wc rfl rfl (dC rfl Tryz.func12 rfl rfl ((hsh) _)) ?_
 refine We tG rfl rfl rfl trivial ?_
 refine Wn ?_
 refine Ws ?_
 refine W_region rfl ?_
 iterate 2 refine We tG rfl rfl rfl trivial ?_
 refine Wa 23 rfl (congrArg (fun z => PV.val (Value.int .i64 z)) kw) ?_
 refine We tG rfl rfl rfl trivial ?_
 refine Wa 24 rfl (congrArg (fun z => PV.val (Value.int .i64 z)) km) ?_
 refine We tG rfl rfl rfl trivial ?_
 refine Wn ?_
 refine Ws ?_
 refine W_region rfl ?_
 refine We tG rfl rfl rfl trivial ?_
 refine Wn ?_
 refine Ws ?_
 refine W_region rfl ?_
 iterate 3 refine We tG rfl rfl rfl trivial ?_
 refine Wa 28 rfl (congrArg (fun z => PV.val (Value.int .i64 z)) (show _ = (1408 : Int) by decide +kernel)) ?_
 refine We tG rfl rfl rfl trivial ?_
 first | refine Wa 29 rfl (bsL cInt [_, _] rfl rfl) ?_ | skip
 refine Wc rfl rfl (dC rfl Tryz.func21 rfl rfl ((st) _)) ?_
 refine We tG rfl rfl rfl trivial ?_
 first | refine Wa 31 rfl (bsL cStr [_] rfl rfl) ?_ | skip
 refine Wc rfl rfl (dC rfl Tryz.func20 rfl rfl ((r1) _)) ?_
 iterate 6 refine We tG rfl rfl rfl trivial ?_
 refine Wn ?_
 refine Ws ?_
 refine W_region rfl ?_
 iterate 3 refine We tG rfl rfl rfl trivial ?_
 first | refine Wa 37 rfl (bsL cInt [_, _] rfl rfl) ?_ | skip
 iterate 2 refine We tG rfl rfl rfl trivial ?_
 refine Wn ?_
 refine Ws ?_
 refine W_region rfl ?_
 iterate 2 refine We tG rfl rfl rfl trivial ?_
 first | refine Wa 41 rfl (bsL cStr [_] rfl rfl) ?_ | skip
 refine Wc rfl rfl (dC rfl Tryz.func20 rfl rfl ((r2) _)) ?_
 iterate 6 refine We tG rfl rfl rfl trivial ?_
 refine Wn ?_
 refine Ws ?_
 refine W_region rfl ?_
 iterate 4 refine We tG rfl rfl rfl trivial ?_
 first | refine Wa 48 rfl (bsL cInt [_, _, _] rfl rfl) ?_ | skip
 iterate 2 refine We tG rfl rfl rfl trivial ?_
 refine Wn ?_
 refine Ws ?_
 refine W_region rfl ?_
 iterate 2 refine We tG rfl rfl rfl trivial ?_
 first | refine Wa 52 rfl (bsL cStr [_] rfl rfl) ?_ | skip
 refine Wc rfl rfl (dC rfl Tryz.func20 rfl rfl ((r3) _)) ?_
 iterate 6 refine We tG rfl rfl rfl trivial ?_
 refine Wn ?_
 refine Ws ?_
 refine W_region rfl ?_
 iterate 3 refine We tG rfl rfl rfl trivial ?_
 refine WO_true 58 rfl (by exact decide_eq_true h0) ?_
 iterate 3 refine We tG rfl rfl rfl trivial ?_
 refine Wa 61 rfl ((show boo (decide (s < (k : Int))) = boo true by rw [decide_eq_true h1])) ?_
 iterate 2 refine We tG rfl rfl rfl trivial ?_
 refine Wn ?_
 iterate 2 refine Ws ?_
 refine W_region rfl ?_
 iterate 3 refine We tG rfl rfl rfl trivial ?_
 refine WO_false 65 rfl (by rfl) ?_
 iterate 5 refine We tG rfl rfl rfl trivial ?_
 refine WO_false 70 rfl (by rfl) ?_
 iterate 4 refine We tG rfl rfl rfl trivial ?_
 refine Wn ?_
 refine Wf rfl (by rfl) ?_
 refine Wj ?_
 iterate 2 refine Ws ?_
 refine W_region rfl ?_
 iterate 2 refine We tG rfl rfl rfl trivial ?_
 refine Wn ?_
 refine Wf rfl (by rfl) ?_
 refine Wj ?_
 refine Ws ?_
 refine W_region rfl ?_
 iterate 2 refine We tG rfl rfl rfl trivial ?_
 first | refine Wa 79 rfl (bsL cInt [_] rfl rfl) ?_ | skip
 iterate 2 refine We tG rfl rfl rfl trivial ?_
 refine Wn ?_
 refine Ws ?_
 refine W_region rfl ?_
 iterate 2 refine We tG rfl rfl rfl trivial ?_
 first | refine Wa 83 rfl (bsL cStr [_] rfl rfl) ?_ | skip
 refine Wc rfl rfl (dC rfl Tryz.func20 rfl rfl ((r4) _)) ?_
 iterate 6 refine We tG rfl rfl rfl trivial ?_
 refine Wn ?_
 refine Ws ?_
 refine W_region rfl ?_
 iterate 5 refine We tG rfl rfl rfl trivial ?_
 refine Wa 91 rfl (congrArg (fun z => PV.val (Value.int .i64 z)) hA) ?_
 refine We tG rfl rfl rfl trivial ?_
 first | refine Wa 92 rfl (bsL cInt [_] rfl rfl) ?_ | skip
 iterate 2 refine We tG rfl rfl rfl trivial ?_
 refine Wn ?_
 refine Ws ?_
 refine W_region rfl ?_
 iterate 2 refine We tG rfl rfl rfl trivial ?_
 first | refine Wa 96 rfl (bsL cStr [_] rfl rfl) ?_ | skip
 refine Wc rfl rfl (dC rfl Tryz.func20 rfl rfl ((r5) _)) ?_
 iterate 6 refine We tG rfl rfl rfl trivial ?_
 refine Wn ?_
 refine Ws ?_
 refine W_region rfl ?_
 iterate 2 refine We tG rfl rfl rfl trivial ?_
 refine WO_true 101 rfl (by rfl) ?_
 iterate 3 refine We tG rfl rfl rfl trivial ?_
 refine WO_true 104 rfl (by rfl) ?_
 iterate 3 refine We tG rfl rfl rfl trivial ?_
 refine WO_true 107 rfl (by rfl) ?_
 iterate 4 refine We tG rfl rfl rfl trivial ?_
 first | refine Wa 111 rfl (bsL cInt [_] rfl rfl) ?_ | skip
 refine Wc rfl rfl (dC rfl Tryz.func23 rfl rfl ((s1) _)) ?_
 iterate 2 refine We tG rfl rfl rfl trivial ?_
 refine WO_true 114 rfl (by rfl) ?_
 iterate 4 refine We tG rfl rfl rfl trivial ?_
 first | refine Wa 118 rfl (bsL cInt [_] rfl rfl) ?_ | skip
 refine Wc rfl rfl (dC rfl Tryz.func23 rfl rfl ((s2) _)) ?_
 iterate 2 refine We tG rfl rfl rfl trivial ?_
 refine Wn ?_
 refine Wq ?_
 refine lP rfl ?_
 first | rfl | (simp_all; done) | (simp_all; omega)
theorem run_at {N : Nat} {v y : VVm} {ns : List Str} {b : Bool} (g : GoodV N v) (hN : N ≤ 1000) (hn : ns.length ≤ 1000) (h : runS v ns = (y, b)) : PureC Tryz.prog 20 [eVm v, sq cStr ns] (tup2 (eVm y) (boo b)) := by
 have := law_run v ns N g hN hn
 rw [h] at this
 exact this
theorem run_good {N : Nat} {v y : VVm} {n : Str} (g : GoodV N v) (h : doS v (numberS n) = (y, 0)) : GoodV (N + 2) y := by
 have := doS_good (n := numberS n) g
 rw [h] at this
 exact this
theorem law_states (x : UInt8) (s q : Int) (hs : Fit64 s) (hq : Fit64 q) : PureC Tryz.prog 10 [.val (.int .u8 (x.toNat : Int)), i64 s, i64 q] (boo true) := by
 have km := (kmod x 9 (by decide)).2
 have hk9 : x.toNat % 9 < 9 := Nat.mod_lt _ (by decide)
 obtain ⟨k, hk⟩ : ∃ k, x.toNat % 9 = k := ⟨_, rfl⟩
 rw [hk] at km hk9
 have fk : Fit64 (k : Int) := by unfold Fit64; omega
 have f0 : Fit64 1400 := by unfold Fit64; omega
 have g0 := stock_good (d := [(k : Int), 1408]) (Nat.le_of_ble_eq_true rfl) (fitL_two fk (by unfold Fit64; omega))
 have hl0 : ((stockS []).mem.b.length : Int) = 2048 := congrArg Int.ofNat (newB_len 2048 167)
 have e1 : doS (stockS [(k : Int), 1408]) (numberS [33]) = (withD (statV k) [], 0) := sw_store0 rfl (store_ok (m := (stockS []).mem) (a := 1408) k (by omega) (by omega) (by omega))
 have g1 := run_good g0 e1
 have ga : GoodV 2 (withD (statV k) [s, 1400]) := good_withD (v := withD (statV k) []) g1 (fitL_two hs f0) (by show ((2 : Nat) : Int) ≤ 32; decide)
 have gb : GoodV 2 (withD (statV k) [q, s, 1400]) := good_withD (v := withD (statV k) []) g1 (fit3 hq hs f0) (by show ((3 : Nat) : Int) ≤ 32; decide)
 have r1 := run_at g0 (by decide) (by decide) (stat_run k)
 have hkf := stat_k fk
 have hl := stat_len k
 by_cases ho : s < 0 ∨ (k : Int) ≤ s
 ·have r2 := run_at ga (by decide) (by decide) (run_bad2 (ns := []) (set_out hkf ho) (by decide))
  have r3 := run_at gb (by decide) (by decide) (run_bad2 (ns := []) (at_out (x := q) hkf ho) (by decide))
  by_cases h0 : 0 ≤ s
  ·exact law_states_high x s q k km h0 (by omega) _ (withD (statV k) []) law_shown (law_stocked _) r1 r2 r3
  ·exact law_states_low x s q k km h0 _ (withD (statV k) []) law_shown (law_stocked _) r1 r2 r3
 ·have hp := at_place (s := s) (by omega) (by omega)
  have t1 := store_ok (m := (statV k).mem) (a := 1400) s (by omega) (by omega) (by omega)
  have t2 := store_ok (m := (statV k).mem) (a := 1416 + 8 * s) q (by omega) (by omega) (by omega)
  have w1 := set_in (u := statV k) rfl hkf ho t1
  have w2 := at_in (u := statV k) (x := q) rfl hkf ho (by rw [hp]; exact t2)
  have gc := run_good ga w1
  have gd := run_good gb w2
  have q1 := fetch_same (m := (statV k).mem) (a := 1400) hs (by omega) (by omega) (by omega)
  have q2 := fetch_same (m := (statV k).mem) (a := 1416 + 8 * s) hq (by omega) (by omega) (by omega)
  have w3 := sw_get (u := withM (statV k) (stM (statV k).mem 1400 s)) rfl q1
  have w4 := sw_fetch (u := withM (statV k) (stM (statV k).mem (1416 + 8 * s) q)) rfl q2
  have ge : GoodV 4 (withD (withM (statV k) (stM (statV k).mem 1400 s)) [1400]) := good_withD (v := withD (withM (statV k) (stM (statV k).mem 1400 s)) []) gc (fitL_one f0) (by show ((1 : Nat) : Int) ≤ 32; decide)
  have gf : GoodV 4 (withD (withM (statV k) (stM (statV k).mem (1416 + 8 * s) q)) [1416 + 8 * s]) := good_withD (v := withD (withM (statV k) (stM (statV k).mem (1416 + 8 * s) q)) []) gd (fitL_one (by unfold Fit64; omega)) (by show ((1 : Nat) : Int) ≤ 32; decide)
  exact law_states_in x s q (1416 + 8 * s) k km (by omega) (by omega) hp _ (withD (statV k) []) (withD (withM (statV k) (stM (statV k).mem 1400 s)) []) (withD (withM (statV k) (stM (statV k).mem (1416 + 8 * s) q)) []) _ _ law_shown (law_stocked _) r1
   (run_at ga (by decide) (by decide) (run_word w1)) (run_at gb (by decide) (by decide) (run_word w2)) (run_at ge (by decide) (by decide) (run_word w3)) (run_at gf (by decide) (by decide) (run_word w4)) (same_of (Nat.le_of_ble_eq_true rfl) rfl) (same_of (Nat.le_of_ble_eq_true rfl) rfl)
theorem walk_PrimStates (v0 v1 v2 : Value) (w : World) (h0 : Reads w 5 v0) (h1 : Reads w 3 v1) (h2 : Reads w 3 v2) :
  Calls Tryz.prog 10 #[v0, v1, v2] w fun e w' => e = .returned (.bool true) ∧ Below w.heap.size w w' := by
 obtain ⟨x, rfl, hx⟩ := reads_int Tryz.underlying5 h0
 obtain ⟨n, hn, hs⟩ := reads_i64 h1
 obtain ⟨m, hm, ht⟩ := reads_i64 h2
 have hx2 := byte_wf hx
 obtain ⟨k, rfl⟩ : ∃ k : UInt8, x = (k.toNat : Int) := ⟨UInt8.ofNat x.toNat, by rw [UInt8.toNat_ofNat']; omega⟩
 exact law_calls (args := [.val (.int .u8 (k.toNat : Int)), i64 n, i64 m]) (law_states k n m hn hm) (repL_cons.2 ⟨rep_val _ _, repL_cons.2 ⟨hs, repL_cons.2 ⟨ht, repL_nil.2 rfl⟩⟩⟩)
end Go.Proofs.YtphgdofmjpdhaaaGreat
