import Derived.Test.YtphgdofmjpdhaaaGreatPk10
set_option linter.unusedVariables false
set_option linter.unusedSimpArgs false
namespace Go.Proofs.YtphgdofmjpdhaaaGreat
open Go.RowKit
set_option linter.unusedVariables false
set_option maxRecDepth 100000
def runS : VVm → List Str → VVm × Bool
 | v, [] => (v, true)
 | v, n :: ns => if (doS v (numberS n)).2 = 0 then runS (doS v (numberS n)).1 ns else (v, false)
end Go.Proofs.YtphgdofmjpdhaaaGreat
namespace Go.Proofs.YtphgdofmjpdhaaaGreat
open Go.RowKit
set_option linter.unusedVariables false
set_option maxRecDepth 100000
set_option maxHeartbeats 4000000
theorem run_step (v : VVm) (ns : List Str) {k : Nat} (h : k < ns.length) : runS v (ns.drop k) = if (doS v (numberS (ns.getD k []))).2 = 0 then runS (doS v (numberS (ns.getD k []))).1 (ns.drop (k + 1)) else (v, false) := by
 rw [List.drop_eq_getElem_cons h]
 have e : ns.getD k [] = ns[k] := by unfold List.getD; rw [List.getElem?_eq_getElem h]; rfl
 rw [e]
 rfl
theorem law_run (v : VVm) (ns : List Str) (N : Nat) (g : GoodV N v) (hN : N ≤ 1000) (hn : ns.length ≤ 1000) : PureC Tryz.prog 20 [eVm v, sq cStr ns] (tup2 (eVm (runS v ns).1) (boo (runS v ns).2)) := by
 refine pW tG (rs := [.cell 4 36, .tmp 5]) Tryz.func20 rfl rfl rfl (by simp) (by simp) (fun B => ?_)
 refine Ws ?_
 refine W_region rfl ?_
 iterate 3 refine We tG rfl rfl rfl trivial ?_
 refine Wn ?_
 iterate 2 refine Ws ?_
 refine W_region rfl ?_
 refine We tG rfl rfl rfl trivial ?_
 refine Wn ?_
 refine Wl ?_
 show W _ _ _ _ _ _ _
 refine W_loopS (fun (s : VVm × Nat) => [(2, .ptr 0 0), (4, .ptr 1 0), (1, sq cStr ns), (6, i64 s.2)]) (fun (s : VVm × Nat) => [.cells (cVm s.1) 36, .cells vmZ 36]) (fun (s : VVm × Nat) => []) (fun (s : VVm × Nat) => s.2 ≤ ns.length ∧ GoodV (N + 2 * s.2) s.1 ∧ runS v ns = runS s.1 (ns.drop s.2)) (fun (s : VVm × Nat) => ns.length - s.2) ((v, 0)) (by exact ⟨Nat.zero_le _, g, rfl⟩) [] ?_ ?_
 ·exact ⟨rfl, ⟨(by repeat (first | exact reBase_nil | refine rB (.inl rfl) ?_ | refine rB (.inr rfl) ?_)), (by repeat (first | exact reX_nil | refine rX rfl ?_ | refine rX (by refine congrArg (fun q => some (Ob.free q)) ?_; simp <;> omega) ?_)), (by decide), (by repeat (first | exact moved_nil | refine mC (.inl (Nat.le_of_ble_eq_true rfl)) ?_ | refine mC (.inr rfl) ?_)), (by repeat (first | exact nlo_nil | exact nO nlo_nil | refine nlo_cells (by first | (refine nF ?_; simp; done) | (refine nF (flatL_map' ?_ _); intro x; simp; done) | (simp [NL1L, NL1]; done)) ?_ | refine nO ?_ | refine nlo_dead ?_ | refine nlo_iter ?_ | refine nlo_smap (by first | (refine nF ?_; simp; done) | (refine nF (flatL_map' ?_ _); intro x; simp; done) | (simp [NL1L, NL1]; done)) ?_))⟩, (by repeat (first | exact subL_nil | refine subL_cons (by first | exact imp_of rfl | exact imp_seq _ _ _ | exact imp_of (congrArg i64 (by first | (rw [i64w]; unfold wrap64; omega) | omega | (simp; done)))) ?_)), (by repeat (first | exact nls_nil | refine nls_cons (by first | (refine nl_flat ?_; simp; done) | (show _ < _; first | decide | (simp; done)) | (refine ⟨?_, flatL_map' ?_ _⟩ <;> first | decide | (intro x; simp; done) | (simp; done)) | (refine ⟨?_, ?_⟩ <;> first | decide | (simp; done)) | (simp [NL, NL1L, NL1]; done)) ?_))⟩
 ·intro s hs
  iterate 2 refine Ws ?_
  refine W_region rfl ?_
  iterate 4 refine We tG rfl rfl rfl trivial ?_
  refine Wn ?_
  refine Wi rfl (fun hi1 => ?_) (fun hi1 => ?_)
  ·have hlt : s.2 < ns.length := by have := of_decide_eq_true hi1; omega
   have hst := run_step s.1 ns hlt
   have gd := doS_good (n := numberS (ns.getD s.2 [])) hs.2.1
   have pd := prim_Do s.1 (good_ok hs.2.1 (by omega)) (numberS (ns.getD s.2 []))
   generalize doS s.1 (numberS (ns.getD s.2 [])) = r at hst gd pd
   refine Wj ?_
   refine Ws ?_
   refine Wl ?_
   refine Ws ?_
   refine W_drawU [1, 0, 0, 0, 0, 0, 0, 0, 0, 0, 2, 3, 0] [0, 1, 2, 3, 4, 5, 6, 7, 8, 9, 10, 11, 12] mG rfl (by kernel_rfl) ?_
   refine Xf tG rfl rfl rfl rfl (fun _ => rfl) trivial ?_
   refine Xe tG rfl rfl rfl rfl (fun _ => rfl) trivial ?_
   refine Xe tG rfl rfl rfl rfl (fun _ => rfl) trivial ?_
   first | refine Xi tG rfl rfl rfl rfl (fun _ => rfl) (by first | exact trivial | omega | (simp only [dnL] at *; omega) | (simp_all; done) | (simp_all; omega)) (iN cStr 1 (fun _ => rfl) [] (by first | exact trivial | omega | (simp only [dnL] at *; omega) | (simp_all; done) | (simp_all; omega))) ?_ | refine Xi tG rfl rfl rfl rfl (fun _ => rfl) (by first | exact trivial | omega | (simp only [dnL] at *; omega) | (simp_all; done) | (simp_all; omega)) (iR cStr 1 (fun _ => rfl) [] (by first | exact trivial | omega | (simp only [dnL] at *; omega) | (simp_all; done) | (simp_all; omega))) ?_
   refine Xe tG rfl rfl rfl rfl (fun _ => rfl) trivial ?_
   refine Xc rfl rfl rfl rfl (fun _ => dC rfl Tryz.func22 rfl rfl ((ref_Number (ns.getD s.2 [])) _)) ?_
   refine Xc rfl rfl rfl rfl (fun _ => dC rfl Tryz.func14 rfl rfl ((pd) _)) ?_
   refine Xe tG rfl rfl rfl rfl (fun _ => rfl) trivial ?_
   refine Xe tG rfl rfl rfl rfl (fun _ => rfl) trivial ?_
   refine Xe tG rfl rfl rfl rfl (fun _ => rfl) trivial ?_
   refine WU_ev2 tG rfl rfl rfl rfl rfl trivial rfl ?_
   refine WU_ev3 tG rfl rfl rfl rfl rfl trivial ?_
   refine Xe tG rfl rfl rfl rfl (fun _ => rfl) trivial ?_
   refine WU_nil ?_
   iterate 2 refine Ws ?_
   refine W_region rfl ?_
   iterate 2 refine We tG rfl rfl rfl trivial ?_
   refine Wn ?_
   refine Wi rfl (fun hi2 => ?_) (fun hi2 => ?_)
   ·have hne : r.2 ≠ 0 := by simpa using hi2
    refine Ws ?_
    refine W_region rfl ?_
    iterate 3 refine We tG rfl rfl rfl trivial ?_
    refine Wn ?_
    refine Wq ?_
    refine lP rfl ?_
    rw [hs.2.2, hst, if_neg hne]; rfl
   ·have hz : r.2 = 0 := by simpa using hi2
    refine Wj ?_
    refine W_region rfl ?_
    iterate 2 refine We tG rfl rfl rfl trivial ?_
    refine Wn ?_
    refine W_region rfl ?_
    iterate 3 refine We tG rfl rfl rfl trivial ?_
    refine Wn ?_
    exact ⟨(r.1, s.2 + 1), [], (by exact ⟨hlt, gd, by rw [hs.2.2, hst, if_pos hz]⟩), (by simp only; omega), ⟨rfl, ⟨(by repeat (first | exact reBase_nil | refine rB (.inl rfl) ?_ | refine rB (.inr rfl) ?_)), (by repeat (first | exact reX_nil | refine rX rfl ?_ | refine rX (by refine congrArg (fun q => some (Ob.free q)) ?_; simp <;> omega) ?_)), (by decide), (by repeat (first | exact moved_nil | refine mC (.inl (Nat.le_of_ble_eq_true rfl)) ?_ | refine mC (.inr rfl) ?_)), (by repeat (first | exact nlo_nil | exact nO nlo_nil | refine nlo_cells (by first | (refine nF ?_; simp; done) | (refine nF (flatL_map' ?_ _); intro x; simp; done) | (simp [NL1L, NL1]; done)) ?_ | refine nO ?_ | refine nlo_dead ?_ | refine nlo_iter ?_ | refine nlo_smap (by first | (refine nF ?_; simp; done) | (refine nF (flatL_map' ?_ _); intro x; simp; done) | (simp [NL1L, NL1]; done)) ?_))⟩, (by repeat (first | exact subL_nil | refine subL_cons (by first | exact imp_of rfl | exact imp_seq _ _ _ | exact imp_of (congrArg i64 (by first | (rw [i64w]; unfold wrap64; omega) | omega | (simp; done)))) ?_)), (by repeat (first | exact nls_nil | refine nls_cons (by first | (refine nl_flat ?_; simp; done) | (show _ < _; first | decide | (simp; done)) | (refine ⟨?_, flatL_map' ?_ _⟩ <;> first | decide | (intro x; simp; done) | (simp; done)) | (refine ⟨?_, ?_⟩ <;> first | decide | (simp; done)) | (simp [NL, NL1L, NL1]; done)) ?_))⟩⟩
  ·have hge : ns.length ≤ s.2 := by have := of_decide_eq_false hi1; omega
   refine W_exit ?_
   refine Ws ?_
   refine W_region rfl ?_
   iterate 3 refine We tG rfl rfl rfl trivial ?_
   refine Wn ?_
   refine Wq ?_
   refine lP rfl ?_
   rw [hs.2.2, List.drop_eq_nil_of_le hge]; rfl
end Go.Proofs.YtphgdofmjpdhaaaGreat
namespace Go.Proofs.YtphgdofmjpdhaaaGreat
open Go.RowKit
set_option linter.unusedVariables false
set_option maxRecDepth 100000
set_option maxHeartbeats 4000000
def withD (v : VVm) (d : List Int) : VVm := { v with d := d }
end Go.Proofs.YtphgdofmjpdhaaaGreat
namespace Go.Proofs.YtphgdofmjpdhaaaGreat
open Go.RowKit
set_option linter.unusedVariables false
set_option maxRecDepth 100000
set_option maxHeartbeats 400000
theorem fit3 {a b c : Int} (h1 : Fit64 a) (h2 : Fit64 b) (h3 : Fit64 c) : FitL [a, b, c] := fun x hx => by simp at hx; rcases hx with rfl | rfl | rfl <;> assumption
end Go.Proofs.YtphgdofmjpdhaaaGreat
namespace Go.Proofs.YtphgdofmjpdhaaaGreat
open Go.RowKit
set_option linter.unusedVariables false
set_option maxRecDepth 100000
set_option maxHeartbeats 4000000
def bytesN : Nat → Nat → List Int
 | 0, _ => []
 | k + 1, u => ((u % 256 : Nat) : Int) :: bytesN k (u / 256)
theorem valB_bytesN (k : Nat) : ∀ u : Nat, u < 256 ^ k → valB (bytesN k u) = u := by
 induction k with
 | zero => intro u h; simp at h; simp [bytesN, valB, h]
 | succ k ih =>
  intro u h
  rw [Nat.pow_succ] at h
  simp only [bytesN, valB, ih (u / 256) (by omega), Int.toNat_natCast]
  omega
theorem bytes8_N (u : Nat) : bytes8 u = bytesN 8 u := by
 simp only [bytes8, bytesN, Nat.div_div_eq_div_mul]
 rfl
theorem valB_bytes8 (u : Nat) (h : u < 18446744073709551616) : valB (bytes8 u) = u := by
 rw [bytes8_N]; exact valB_bytesN 8 u (by rw [show (256 : Nat) ^ 8 = 18446744073709551616 from by decide]; exact h)
theorem getC_putC {n : Int} (h : Fit64 n) : getC (putC n) = n := by
 have e : (putC n).map (fun b => (b.toNat : Int)) = bytes8 (U n) := by
  unfold putC
  rw [List.map_map]
  have : ∀ x ∈ bytes8 (U n), ((fun b : UInt8 => (b.toNat : Int)) ∘ fun x : Int => UInt8.ofNat x.toNat) x = id x := by
   intro x hx
   have := b8_rng (U n) x hx
   simp only [Function.comp, id]
   rw [UInt8.toNat_ofNat']
   omega
  rw [List.map_congr_left this, List.map_id]
 unfold getC
 rw [e, valB_bytes8 _ (U_lt n)]
 exact S_U n h
def stM (m : VMem) (a n : Int) : VMem := ⟨laidB m.b a.toNat (putC n), m.old ++ [⟨a, (m.b.drop a.toNat).take 8⟩]⟩
theorem there_ok {m : VMem} {a n : Int} (h0 : 0 ≤ a) (h1 : 0 < n) (h2 : a + n ≤ m.b.length) : memThere m a n = true := by
 unfold memThere
 rw [decide_eq_true_eq]
 omega
theorem cell_ok {m : VMem} {a : Int} (h0 : 0 ≤ a) (h1 : a % 8 = 0) (h2 : a + 8 ≤ m.b.length) : memCellAt m a = 0 := by
 unfold memCellAt
 rw [there_ok h0 (by omega) h2, if_pos rfl, if_pos (by rw [Int.tmod_eq_emod_of_nonneg h0]; exact h1)]
theorem write_ok {m : VMem} {a : Int} (n : Int) (h0 : 0 ≤ a) (h2 : a + 8 ≤ m.b.length) : memWrite m a (putC n) = (stM m a n, 0) := by
 unfold memWrite
 rw [putC_len, if_pos (show memThere m a ((8 : Nat) : Int) = true from there_ok h0 (by omega) h2), if_neg (by intro h; have := congrArg List.length h; rw [putC_len] at this; cases this)]
 rfl
theorem store_ok {m : VMem} {a : Int} (n : Int) (h0 : 0 ≤ a) (h1 : a % 8 = 0) (h2 : a + 8 ≤ m.b.length) : memStore m a n = (stM m a n, 0) := by
 unfold memStore
 rw [if_pos (cell_ok h0 h1 h2), write_ok n h0 h2]
theorem stM_len {m : VMem} {a n : Int} (h0 : 0 ≤ a) (h2 : a + 8 ≤ m.b.length) : (stM m a n).b.length = m.b.length := by
 unfold stM
 exact laidB_len (by rw [putC_len]; omega)
theorem laid_at {l x : List UInt8} {k : Nat} (h : k + x.length ≤ l.length) : ((laidB l k x).drop k).take x.length = x := by
 unfold laidB
 rw [List.append_assoc, List.drop_left' (by rw [List.length_take]; omega), List.take_left' rfl]
theorem laid_below {l x : List UInt8} {k c n : Nat} (h : c + n ≤ k) (h2 : k ≤ l.length) : ((laidB l k x).drop c).take n = (l.drop c).take n := by
 unfold laidB
 rw [List.append_assoc, List.drop_append_of_le_length (by rw [List.length_take]; omega), List.take_append_of_le_length (by rw [List.length_drop, List.length_take]; omega), List.drop_take, List.take_take, Nat.min_eq_left (by omega)]
theorem fetch_same {m : VMem} {a n : Int} (hn : Fit64 n) (h0 : 0 ≤ a) (h1 : a % 8 = 0) (h2 : a + 8 ≤ m.b.length) : memFetch (stM m a n) a = (n, 0) := by
 unfold memFetch
 rw [cell_ok h0 h1 (by rw [stM_len h0 h2]; exact h2), if_pos rfl]
 have e : ((stM m a n).b.drop a.toNat).take 8 = putC n := laid_at (x := putC n) (by rw [putC_len]; omega)
 rw [e, getC_putC hn]
theorem fetch_below {m : VMem} {a b n : Int} (h0 : 0 ≤ b) (h1 : b % 8 = 0) (h3 : b + 8 ≤ a) (h2 : a + 8 ≤ m.b.length) : memFetch (stM m a n) b = memFetch m b := by
 unfold memFetch
 rw [cell_ok h0 h1 (by rw [stM_len (by omega) h2]; omega), cell_ok h0 h1 (by omega), if_pos rfl, if_pos rfl]
 have e : ((stM m a n).b.drop b.toNat).take 8 = (m.b.drop b.toNat).take 8 := laid_below (by omega) (by omega)
 rw [e]
theorem run_cons {v v' : VVm} {n : Str} {ns : List Str} (h : doS v (numberS n) = (v', 0)) : runS v (n :: ns) = runS v' ns := by
 show (if (doS v (numberS n)).2 = 0 then runS (doS v (numberS n)).1 ns else (v, false)) = _
 rw [h]; rfl
theorem run_nil (v : VVm) : runS v [] = (v, true) := rfl
theorem sw_store {u : VVm} {b n a : Int} {m : VMem} (hc : u.conf.data = 32) (h : memStore u.mem a n = (m, 0)) : doS (withD u [b, n, a]) (numberS [33]) = (withD (withM u m) [b], 0) := by
 have e : doS (withD u [b, n, a]) (numberS [33]) = doR (withD u [b, n, a]) 2 (pPut (withD u [b, n, a]) (memStore u.mem a n)) := by kernel_rfl
 rw [e, h]
 exact doR_ok (Nat.le_of_ble_eq_true rfl) rfl (by show ((1 : Nat) : Int) ≤ u.conf.data; rw [hc]; decide)
theorem sw_fetch {u : VVm} {a n : Int} (hc : u.conf.data = 32) (h : memFetch u.mem a = (n, 0)) : doS (withD u [a]) (numberS [64]) = (withD u [n], 0) := by
 have e : doS (withD u [a]) (numberS [64]) = doR (withD u [a]) 1 (withD u [a], [(memFetch u.mem a).1], (memFetch u.mem a).2) := by kernel_rfl
 rw [e, h]
 exact doR_ok (Nat.le_of_ble_eq_true rfl) rfl (by show ((1 : Nat) : Int) ≤ u.conf.data; rw [hc]; decide)
theorem sw_storeB {u : VVm} {b n a : Int} {m : VMem} (hc : u.conf.data = 32) (h : memStoreByte u.mem a n = (m, 0)) : doS (withD u [b, n, a]) (numberS [67, 33]) = (withD (withM u m) [b], 0) := by
 have e : doS (withD u [b, n, a]) (numberS [67, 33]) = doR (withD u [b, n, a]) 2 (pPut (withD u [b, n, a]) (memStoreByte u.mem a n)) := by kernel_rfl
 rw [e, h]
 exact doR_ok (Nat.le_of_ble_eq_true rfl) rfl (by show ((1 : Nat) : Int) ≤ u.conf.data; rw [hc]; decide)
theorem sw_fetchB {u : VVm} {a n : Int} (hc : u.conf.data = 32) (h : memFetchByte u.mem a = (n, 0)) : doS (withD u [a]) (numberS [67, 64]) = (withD u [n], 0) := by
 have e : doS (withD u [a]) (numberS [67, 64]) = doR (withD u [a]) 1 (withD u [a], [(memFetchByte u.mem a).1], (memFetchByte u.mem a).2) := by kernel_rfl
 rw [e, h]
 exact doR_ok (Nat.le_of_ble_eq_true rfl) rfl (by show ((1 : Nat) : Int) ≤ u.conf.data; rw [hc]; decide)
theorem sw_store2 {u : VVm} {b m n a : Int} {m1 m2 : VMem} (hc : u.conf.data = 32) (h : memStore u.mem a n = (m1, 0)) (h2 : memStore m1 (W64 (a + 8)) m = (m2, 0)) : doS (withD u [b, m, n, a]) (numberS [50, 33]) = (withD (withM u m2) [b], 0) := by
 have e : doS (withD u [b, m, n, a]) (numberS [50, 33]) = doR (withD u [b, m, n, a]) 3 (pPut (withD u [b, m, n, a]) (if (memStore u.mem a n).2 = 0 then memStore (memStore u.mem a n).1 (W64 (a + 8)) m else memStore u.mem a n)) := by kernel_rfl
 rw [e, h]
 simp only [if_true]
 rw [h2]
 exact doR_ok (Nat.le_of_ble_eq_true rfl) rfl (by show ((1 : Nat) : Int) ≤ u.conf.data; rw [hc]; decide)
theorem sw_fetch2 {u : VVm} {a m n : Int} (hc : u.conf.data = 32) (h : memFetch u.mem a = (n, 0)) (h2 : memFetch u.mem (W64 (a + 8)) = (m, 0)) : doS (withD u [a]) (numberS [50, 64]) = (withD u [m, n], 0) := by
 have e : doS (withD u [a]) (numberS [50, 64]) = doR (withD u [a]) 1 (if (memFetch u.mem a).2 = 0 then (withD u [a], [(memFetch u.mem (W64 (a + 8))).1, (memFetch u.mem a).1], (memFetch u.mem (W64 (a + 8))).2) else (withD u [a], [], (memFetch u.mem a).2)) := by kernel_rfl
 rw [e, h, h2]
 exact doR_ok (Nat.le_of_ble_eq_true rfl) rfl (by show ((2 : Nat) : Int) ≤ u.conf.data; rw [hc]; decide)
theorem sw_here {u : VVm} {n : Int} (hc : u.conf.data = 32) : doS (withD u [n]) (numberS [72, 69, 82, 69]) = (withD u [n, u.here], 0) := by
 have e : doS (withD u [n]) (numberS [72, 69, 82, 69]) = doR (withD u [n]) 0 (withD u [n], [u.here], 0) := by kernel_rfl
 rw [e]
 exact doR_ok (Nat.le_of_ble_eq_true rfl) rfl (by show ((2 : Nat) : Int) ≤ u.conf.data; rw [hc]; decide)
theorem sw_comma {u : VVm} {b n : Int} {r : VMem × Int × Int} (hc : u.conf.data = 32) (h : spcComma u.mem u.here n = r) (h0 : r.2.2 = 0) : doS (withD u [b, n]) (numberS [44]) = (withD { u with mem := r.1, here := r.2.1 } [b], 0) := by
 have e : doS (withD u [b, n]) (numberS [44]) = doR (withD u [b, n]) 1 (pLay (withD u [b, n]) (spcComma u.mem u.here n)) := by kernel_rfl
 rw [e, h]
 exact doR_ok (Nat.le_of_ble_eq_true rfl) h0 (by show ((1 : Nat) : Int) ≤ u.conf.data; rw [hc]; decide)
theorem hold_1 {a n : Int} (hn : Fit64 n) (h0 : 0 ≤ a) (h1 : a % 8 = 0) (h2 : a + 8 ≤ 2048) : ∃ y, runS (stockS [a, n, a]) [[33], [64]] = (y, true) ∧ y.d = [n] := by
 have hl : ((stockS []).mem.b.length : Int) = 2048 := congrArg Int.ofNat (newB_len 2048 167)
 have hs := store_ok (m := (stockS []).mem) n h0 h1 (by omega)
 have hf := fetch_same (m := (stockS []).mem) hn h0 h1 (by omega)
 rw [show stockS [a, n, a] = withD (stockS []) [a, n, a] from rfl, run_cons (sw_store rfl hs), run_cons (sw_fetch rfl hf), run_nil]
 exact ⟨_, rfl, rfl⟩
theorem hold_2 {a n m : Int} (hn : Fit64 n) (hm : Fit64 m) (h0 : 0 ≤ a) (h1 : a % 8 = 0) (h2 : a + 16 ≤ 2048) : ∃ y, runS (stockS [a, m, n, a]) [[50, 33], [50, 64]] = (y, true) ∧ y.d = [m, n] := by
 have hl : ((stockS []).mem.b.length : Int) = 2048 := congrArg Int.ofNat (newB_len 2048 167)
 have hw : W64 (a + 8) = a + 8 := w64_id (by unfold Fit64; omega)
 have hs := store_ok (m := (stockS []).mem) n h0 h1 (by omega)
 have hl2 : ((stM (stockS []).mem a n).b.length : Int) = 2048 := by rw [stM_len h0 (by omega)]; exact hl
 have hs2 := store_ok (m := stM (stockS []).mem a n) (a := a + 8) m (by omega) (by omega) (by omega)
 have hf := fetch_same (m := (stockS []).mem) hn h0 h1 (by omega)
 have hf2 := fetch_same (m := stM (stockS []).mem a n) (a := a + 8) hm (by omega) (by omega) (by omega)
 have hb := fetch_below (m := stM (stockS []).mem a n) (a := a + 8) (b := a) (n := m) h0 h1 (by omega) (by omega)
 rw [hf] at hb
 rw [← hw] at hs2 hf2
 rw [← hw] at hb
 rw [show stockS [a, m, n, a] = withD (stockS []) [a, m, n, a] from rfl, run_cons (sw_store2 rfl hs hs2), run_cons (sw_fetch2 rfl hb hf2), run_nil]
 exact ⟨_, rfl, rfl⟩
theorem hold_3 {a n : Int} (h0 : 0 ≤ a) (h2 : a + 8 ≤ 2048) : ∃ y, runS (stockS [a, n, a]) [[67, 33], [67, 64]] = (y, true) ∧ y.d = [((loB n).toNat : Int)] := by
 have hl : ((stockS []).mem.b.length : Int) = 2048 := congrArg Int.ofNat (newB_len 2048 167)
 have hs : memStoreByte (stockS []).mem a n = (⟨laidB (stockS []).mem.b a.toNat [loB n], (stockS []).mem.old ++ [⟨a, ((stockS []).mem.b.drop a.toNat).take 1⟩]⟩, 0) := by
  unfold memStoreByte memWrite
  rw [show (([loB n] : List UInt8).length : Int) = 1 from rfl, if_pos (there_ok h0 (by omega) (by omega)), if_neg (by simp)]
  rfl
 have hf : memFetchByte (⟨laidB (stockS []).mem.b a.toNat [loB n], (stockS []).mem.old ++ [⟨a, ((stockS []).mem.b.drop a.toNat).take 1⟩]⟩ : VMem) a = (((loB n).toNat : Int), 0) := by
  unfold memFetchByte
  rw [if_pos (there_ok h0 (by omega) (by show a + 1 ≤ ((laidB _ _ _).length : Int); rw [laidB_len (by simp; omega)]; omega))]
  have e := laid_at (l := (stockS []).mem.b) (x := [loB n]) (k := a.toNat) (by simp; omega)
  have e2 : (laidB (stockS []).mem.b a.toNat [loB n]).getD a.toNat 0 = loB n := by
   have h := congrArg (fun q => q.getD 0 0) e
   simp only [List.length_singleton] at h
   unfold List.getD at h ⊢
   rw [List.getElem?_take_of_lt (by omega), List.getElem?_drop, Nat.add_zero] at h
   exact h
  rw [e2]
 rw [show stockS [a, n, a] = withD (stockS []) [a, n, a] from rfl, run_cons (sw_storeB rfl hs), run_cons (sw_fetchB rfl hf), run_nil]
 exact ⟨_, rfl, rfl⟩
theorem hold_4 {n : Int} (hn : Fit64 n) : ∃ y, runS (stockS [n]) [[72, 69, 82, 69], [83, 87, 65, 80], [44], [64]] = (y, true) ∧ y.d = [n] ∧ y.here = 1376 := by
 have hl : ((stockS []).mem.b.length : Int) = 2048 := congrArg Int.ofNat (newB_len 2048 167)
 have hw := write_ok (m := (stockS []).mem) (a := 1368) n (by omega) (by omega)
 have hs : spcComma (stockS []).mem (stockS []).here n = (stM (stockS []).mem 1368 n, 1376, 0) := by
  show spcComma (stockS []).mem 1368 n = _
  unfold spcComma spcLay
  rw [if_pos (by decide), putC_len, if_neg (by omega), hw]
  rfl
 have hf := fetch_same (m := (stockS []).mem) (a := 1368) hn (by omega) (by omega) (by omega)
 have hsw : doS (withD (stockS []) [n, (stockS []).here]) (numberS [83, 87, 65, 80]) = (withD (stockS []) [1368, n], 0) := by kernel_rfl
 rw [show stockS [n] = withD (stockS []) [n] from rfl, run_cons (sw_here rfl), run_cons hsw, run_cons (sw_comma (u := stockS []) rfl hs rfl), run_cons (sw_fetch (u := { stockS [] with mem := stM (stockS []).mem 1368 n, here := 1376 }) rfl hf), run_nil]
 exact ⟨_, rfl, rfl, rfl⟩
end Go.Proofs.YtphgdofmjpdhaaaGreat
namespace Go.Proofs.YtphgdofmjpdhaaaGreat
open Go.RowKit
open Go.WideShapes
set_option linter.unusedVariables false
set_option maxRecDepth 100000
set_option maxHeartbeats 4000000
theorem hold_at (x : Nat) (hx : x < 65536) : IntKind.i64.wrap (1368 + IntKind.i64.wrap (8 * (IntKind.i64.wrap (x : Int)).tmod 80)) = 1368 + 8 * ((x % 80 : Nat) : Int) := by
 have e : IntKind.i64.wrap (x : Int) = (x : Int) := by simp only [i64w]; unfold wrap64; omega
 rw [e, Int.tmod_eq_emod_of_nonneg (by omega)]
 simp only [i64w]; unfold wrap64; omega
theorem byte_i64 (b : UInt8) : IntKind.i64.wrap (b.toNat : Int) = (b.toNat : Int) := by
 have := b.toNat_lt
 simp only [i64w]; unfold wrap64; omega
theorem law_holds_of (x : Nat) (a n m : Int) (ha : IntKind.i64.wrap (1368 + IntKind.i64.wrap (8 * (IntKind.i64.wrap (x : Int)).tmod 80)) = a) (v1 v2 v4 y1 y2 y3 y4 : VVm) (hsh : PureC Tryz.prog 12 [] (boo true))
  (st1 : PureC Tryz.prog 21 [sq cInt [a, n, a]] (eVm v1)) (st2 : PureC Tryz.prog 21 [sq cInt [a, m, n, a]] (eVm v2)) (st4 : PureC Tryz.prog 21 [sq cInt [n]] (eVm v4))
  (r1 : PureC Tryz.prog 20 [eVm v1, sq cStr [[33], [64]]] (tup2 (eVm y1) (boo true))) (r2 : PureC Tryz.prog 20 [eVm v2, sq cStr [[50, 33], [50, 64]]] (tup2 (eVm y2) (boo true)))
  (r3 : PureC Tryz.prog 20 [eVm v1, sq cStr [[67, 33], [67, 64]]] (tup2 (eVm y3) (boo true))) (r4 : PureC Tryz.prog 20 [eVm v4, sq cStr [[72, 69, 82, 69], [83, 87, 65, 80], [44], [64]]] (tup2 (eVm y4) (boo true)))
  (s1 : PureC Tryz.prog 23 [sq cInt y1.d, sq cInt [n]] (boo true)) (s2 : PureC Tryz.prog 23 [sq cInt y2.d, sq cInt [m, n]] (boo true)) (s3 : PureC Tryz.prog 23 [sq cInt y3.d, sq cInt [((loB n).toNat : Int)]] (boo true))
  (s4 : PureC Tryz.prog 23 [sq cInt y4.d, sq cInt [n]] (boo true)) (hw : y4.here = 1376) : PureC Tryz.prog 7 [.val (.int .u16 (x : Int)), i64 n, i64 m] (boo true) := by
 refine pW tG (rs := [.tmp 6]) Tryz.func7 rfl rfl rfl (by simp) (by simp) (fun B => ?_)
 refine Ws ?_
 refine W_region rfl ?_
 refine We tG rfl rfl rfl trivial ?_
 refine Wn ?_
 refine Ws ?_
 refine W_region rfl ?_
 refine Wc rfl rfl (dC rfl Tryz.func12 rfl rfl ((hsh) _)) ?_
 refine We tG rfl rfl rfl trivial ?_
 refine Wn ?_
 refine Ws ?_
 refine W_region rfl ?_
 iterate 5 refine We tG rfl rfl rfl trivial ?_
 refine Wa 22 rfl (congrArg (fun z => PV.val (Value.int .i64 z)) ha) ?_
 refine We tG rfl rfl rfl trivial ?_
 refine Wn ?_
 refine Ws ?_
 refine W_region rfl ?_
 iterate 4 refine We tG rfl rfl rfl trivial ?_
 first | refine Wa 27 rfl (bsL cInt [_, _, _] rfl rfl) ?_ | skip
 refine Wc rfl rfl (dC rfl Tryz.func21 rfl rfl ((st1) _)) ?_
 refine We tG rfl rfl rfl trivial ?_
 first | refine Wa 29 rfl (bsL cStr [_, _] rfl rfl) ?_ | skip
 refine Wc rfl rfl (dC rfl Tryz.func20 rfl rfl ((r1) _)) ?_
 iterate 6 refine We tG rfl rfl rfl trivial ?_
 refine Wn ?_
 refine Ws ?_
 refine W_region rfl ?_
 iterate 5 refine We tG rfl rfl rfl trivial ?_
 first | refine Wa 38 rfl (bsL cInt [_, _, _, _] rfl rfl) ?_ | skip
 refine Wc rfl rfl (dC rfl Tryz.func21 rfl rfl ((st2) _)) ?_
 refine We tG rfl rfl rfl trivial ?_
 first | refine Wa 40 rfl (bsL cStr [_, _] rfl rfl) ?_ | skip
 refine Wc rfl rfl (dC rfl Tryz.func20 rfl rfl ((r2) _)) ?_
 iterate 6 refine We tG rfl rfl rfl trivial ?_
 refine Wn ?_
 refine Ws ?_
 refine W_region rfl ?_
 iterate 4 refine We tG rfl rfl rfl trivial ?_
 first | refine Wa 48 rfl (bsL cInt [_, _, _] rfl rfl) ?_ | skip
 refine Wc rfl rfl (dC rfl Tryz.func21 rfl rfl ((st1) _)) ?_
 refine We tG rfl rfl rfl trivial ?_
 first | refine Wa 50 rfl (bsL cStr [_, _] rfl rfl) ?_ | skip
 refine Wc rfl rfl (dC rfl Tryz.func20 rfl rfl ((r3) _)) ?_
 iterate 6 refine We tG rfl rfl rfl trivial ?_
 refine Wn ?_
 refine Ws ?_
 refine W_region rfl ?_
 iterate 2 refine We tG rfl rfl rfl trivial ?_
 first | refine Wa 56 rfl (bsL cInt [_] rfl rfl) ?_ | skip
 refine Wc rfl rfl (dC rfl Tryz.func21 rfl rfl ((st4) _)) ?_
 refine We tG rfl rfl rfl trivial ?_
 first | refine Wa 58 rfl (bsL cStr [_, _, _, _] rfl rfl) ?_ | skip
 refine Wc rfl rfl (dC rfl Tryz.func20 rfl rfl ((r4) _)) ?_
 iterate 6 refine We tG rfl rfl rfl trivial ?_
 refine Wn ?_
 refine Ws ?_
 refine W_region rfl ?_
 iterate 2 refine We tG rfl rfl rfl trivial ?_
 refine WO_true 63 rfl (by rfl) ?_
 iterate 3 refine We tG rfl rfl rfl trivial ?_
 refine WO_true 66 rfl (by rfl) ?_
 iterate 3 refine We tG rfl rfl rfl trivial ?_
 refine WO_true 69 rfl (by rfl) ?_
 iterate 3 refine We tG rfl rfl rfl trivial ?_
 refine WO_true 72 rfl (by rfl) ?_
 iterate 3 refine We tG rfl rfl rfl trivial ?_
 refine WO_true 75 rfl (by rfl) ?_
 iterate 4 refine We tG rfl rfl rfl trivial ?_
 first | refine Wa 79 rfl (bsL cInt [_] rfl rfl) ?_ | skip
 refine Wc rfl rfl (dC rfl Tryz.func23 rfl rfl ((s1) _)) ?_
 iterate 2 refine We tG rfl rfl rfl trivial ?_
 refine WO_true 82 rfl (by rfl) ?_
 iterate 5 refine We tG rfl rfl rfl trivial ?_
 first | refine Wa 87 rfl (bsL cInt [_, _] rfl rfl) ?_ | skip
 refine Wc rfl rfl (dC rfl Tryz.func23 rfl rfl ((s2) _)) ?_
 iterate 2 refine We tG rfl rfl rfl trivial ?_
 refine WO_true 90 rfl (by rfl) ?_
 iterate 4 refine We tG rfl rfl rfl trivial ?_
 refine Wa 94 rfl (loB_pv _) ?_
 refine We tG rfl rfl rfl trivial ?_
 refine Wa 95 rfl (congrArg (fun z => PV.val (Value.int .i64 z)) (byte_i64 _)) ?_
 refine We tG rfl rfl rfl trivial ?_
 first | refine Wa 96 rfl (bsL cInt [_] rfl rfl) ?_ | skip
 refine Wc rfl rfl (dC rfl Tryz.func23 rfl rfl ((s3) _)) ?_
 iterate 2 refine We tG rfl rfl rfl trivial ?_
 refine WO_true 99 rfl (by rfl) ?_
 iterate 4 refine We tG rfl rfl rfl trivial ?_
 first | refine Wa 103 rfl (bsL cInt [_] rfl rfl) ?_ | skip
 refine Wc rfl rfl (dC rfl Tryz.func23 rfl rfl ((s4) _)) ?_
 iterate 2 refine We tG rfl rfl rfl trivial ?_
 refine WO_true 106 rfl (by rfl) ?_
 iterate 5 refine We tG rfl rfl rfl trivial ?_
 refine Wn ?_
 refine Wq ?_
 refine lP rfl ?_
 exact congrArg boo (by first | (simp [hw]; done) | (rw [hw]; rfl))
theorem fitL4 {a b c d : Int} (h1 : Fit64 a) (h2 : Fit64 b) (h3 : Fit64 c) (h4 : Fit64 d) : FitL [a, b, c, d] := fun x hx => by simp at hx; rcases hx with rfl | rfl | rfl | rfl <;> assumption
theorem same_of {l l' : List Int} (hl : l'.length ≤ 1000000) (h : l = l') : PureC Tryz.prog 23 [sq cInt l, sq cInt l'] (boo true) := by
 subst h
 have := ref_Same4 l l hl hl
 rw [decide_eq_true rfl] at this
 exact this
theorem run_of {d : List Int} {ns : List Str} {y : VVm} (hd : d.length ≤ 32) (hf : FitL d) (hn : ns.length ≤ 1000) (h : runS (stockS d) ns = (y, true)) : PureC Tryz.prog 20 [eVm (stockS d), sq cStr ns] (tup2 (eVm y) (boo true)) := by
 have := law_run (stockS d) ns 0 (stock_good hd hf) (by decide) hn
 rw [h] at this
 exact this
theorem law_holds (x : Nat) (hx : x < 65536) (n m : Int) (hn : Fit64 n) (hm : Fit64 m) : PureC Tryz.prog 7 [.val (.int .u16 (x : Int)), i64 n, i64 m] (boo true) := by
 have ha := hold_at x hx
 obtain ⟨a, he⟩ : ∃ a : Int, 1368 + 8 * ((x % 80 : Nat) : Int) = a := ⟨_, rfl⟩
 rw [he] at ha
 have h0 : 0 ≤ a ∧ a % 8 = 0 ∧ a + 16 ≤ 2048 := by omega
 have fa : Fit64 a := by unfold Fit64; omega
 obtain ⟨y1, e1, d1⟩ := hold_1 (a := a) hn h0.1 h0.2.1 (by omega)
 obtain ⟨y2, e2, d2⟩ := hold_2 (a := a) hn hm h0.1 h0.2.1 (by omega)
 obtain ⟨y3, e3, d3⟩ := hold_3 (a := a) (n := n) h0.1 (by omega)
 obtain ⟨y4, e4, d4, hw⟩ := hold_4 hn
 exact law_holds_of x a n m ha _ _ _ y1 y2 y3 y4 law_shown (law_stocked _) (law_stocked _) (law_stocked _)
  (run_of (Nat.le_of_ble_eq_true rfl) (fit3 fa hn fa) (by decide) e1) (run_of (Nat.le_of_ble_eq_true rfl) (fitL4 fa hm hn fa) (by decide) e2) (run_of (Nat.le_of_ble_eq_true rfl) (fit3 fa hn fa) (by decide) e3) (run_of (Nat.le_of_ble_eq_true rfl) (fitL_one hn) (by decide) e4)
  (same_of (Nat.le_of_ble_eq_true rfl) d1) (same_of (Nat.le_of_ble_eq_true rfl) d2) (same_of (Nat.le_of_ble_eq_true rfl) d3) (same_of (Nat.le_of_ble_eq_true rfl) d4) hw
theorem u16_wf {n : Int} (h : (Lit.int .u16 n).wf = true) : 0 ≤ n ∧ n ≤ 65535 := by
 have := h; simp [Lit.wf, IntKind.min, IntKind.max, IntKind.bits, IntKind.signed] at this; omega
theorem walk_PrimHolds (v0 v1 v2 : Value) (w : World) (h0 : Reads w 54 v0) (h1 : Reads w 3 v1) (h2 : Reads w 3 v2) :
  Calls Tryz.prog 7 #[v0, v1, v2] w fun e w' => e = .returned (.bool true) ∧ Below w.heap.size w w' := by
 obtain ⟨x, rfl, hx⟩ := reads_int Tryz.underlying54 h0
 obtain ⟨n, hn, hs⟩ := reads_i64 h1
 obtain ⟨m, hm, ht⟩ := reads_i64 h2
 have hx2 := u16_wf hx
 obtain ⟨k, rfl⟩ : ∃ k : Nat, x = (k : Int) := ⟨x.toNat, by omega⟩
 exact law_calls (args := [.val (.int .u16 (k : Int)), i64 n, i64 m]) (law_holds k (by omega) n m hn hm) (repL_cons.2 ⟨rep_val _ _, repL_cons.2 ⟨hs, repL_cons.2 ⟨ht, repL_nil.2 rfl⟩⟩⟩)
end Go.Proofs.YtphgdofmjpdhaaaGreat
