import Derived.Laws.RangeAny
import Derived.Lib.IndexBytes
import Derived.Lib.OwnBridge
import Derived.Maps.AppendAt
import Derived.RegionTactic
import Derived.Shelf.SlGeneric
import Derived.Shelf.SlicesE.Reverse
import Derived.Test.YtphgdofmjpdhaaaGreatPk4
set_option linter.unusedVariables false
set_option linter.unusedSimpArgs false
namespace Go.Proofs.YtphgdofmjpdhaaaGreat
open Go.RowKit
set_option linter.unusedVariables false
set_option maxRecDepth 100000
def loB (n : Int) : UInt8 := UInt8.ofNat (n % 256).toNat
theorem loB_wrap (n : Int) : IntKind.u8.wrap n = ((loB n).toNat : Int) := by
 unfold loB
 rw [UInt8.toNat_ofNat']
 simp [IntKind.wrap, IntKind.bits, IntKind.signed]
 omega
theorem loB_pv (n : Int) : PV.val (.int .u8 (IntKind.u8.wrap n)) = .val (.int .u8 ((loB n).toNat : Int)) := by rw [loB_wrap]
def memStore (m : VMem) (at_ n : Int) : VMem × Int := if memCellAt m at_ = 0 then memWrite m at_ (putC n) else (m, memCellAt m at_)
def memStoreByte (m : VMem) (at_ n : Int) : VMem × Int := memWrite m at_ [loB n]
def memFetchByte (m : VMem) (at_ : Int) : Int × Int := if memThere m at_ 1 then (((m.b.getD at_.toNat 0).toNat : Int), 0) else (0, -9)
def memText (m : VMem) (at_ n : Int) : List UInt8 × Int := if memThere m at_ n then ((m.b.drop at_.toNat).take n.toNat, 0) else ([], -9)
def memMove (m : VMem) (x to_ n : Int) : VMem × Int := if (memText m x n).2 = 0 then memWrite m to_ (memText m x n).1 else (m, (memText m x n).2)
def memFill (m : VMem) (at_ n c : Int) : VMem × Int := if memThere m at_ n then memWrite m at_ (List.replicate n.toNat (loB c)) else (m, -9)
def tText (r : List UInt8 × Int) : PV := tup2 (sq cByte r.1) (i64 r.2)
@[simp] theorem flat_tText (r : List UInt8 × Int) : Flat (tText r) := by simp [tText]
theorem mem_Store (m : VMem) (at_ n : Int) (hm : MemOk m) (ha : Fit64 at_) : PureC Tryz.prog 109 [eMem m, i64 at_, i64 n] (tMem (memStore m at_ n)) := by
 have hm1 := hm.b
 have hm2 := hm.old
 refine pW tG (rs := [.cell 6 27, .tmp 7]) Tryz.func109 rfl rfl rfl (by simp) (by simp) (fun B => ?_)
 refine Ws ?_
 refine W_region rfl ?_
 iterate 3 refine We tG rfl rfl rfl trivial ?_
 refine Wn ?_
 iterate 2 refine Ws ?_
 refine W_region rfl ?_
 iterate 2 refine We tG rfl rfl rfl trivial ?_
 refine Wc rfl rfl (dC rfl Tryz.func217 rfl rfl ((mem_cellAt m at_ (by omega) ha) _)) ?_
 refine We tG rfl rfl rfl trivial ?_
 refine Wn ?_
 refine Ws ?_
 refine W_region rfl ?_
 iterate 2 refine We tG rfl rfl rfl trivial ?_
 refine Wn ?_
 refine Wi rfl (fun hi1 => ?_) (fun hi1 => ?_)
 ·have h0 : memCellAt m at_ ≠ 0 := by simpa using hi1
  refine Ws ?_
  refine W_region rfl ?_
  iterate 4 refine We tG rfl rfl rfl trivial ?_
  refine Wn ?_
  refine Wq ?_
  refine lP rfl ?_
  rw [memStore, if_neg h0]; rfl
 ·have h0 : memCellAt m at_ = 0 := by simpa using hi1
  refine Wj ?_
  refine Ws ?_
  refine W_drawU [1, 0, 0, 0, 0, 0, 0, 3, 0] [0, 1, 2, 3, 4, 5, 6, 7, 8] mG rfl (by kernel_rfl) ?_
  refine Xf tG rfl rfl rfl rfl (fun _ => rfl) trivial ?_
  refine Xe tG rfl rfl rfl rfl (fun _ => rfl) trivial ?_
  refine Xe tG rfl rfl rfl rfl (fun _ => rfl) trivial ?_
  refine Xc rfl rfl rfl rfl (fun _ => dC rfl Tryz.func221 rfl rfl ((cell_put8 n) _)) ?_
  refine Xc rfl rfl rfl rfl (fun _ => dC rfl Tryz.func162 rfl rfl ((mem_Write m at_ (putC n) hm ha (by rw [putC_len]; omega)) _)) ?_
  refine Xe tG rfl rfl rfl rfl (fun _ => rfl) trivial ?_
  refine Xe tG rfl rfl rfl rfl (fun _ => rfl) trivial ?_
  refine WU_ev3 tG rfl rfl rfl rfl rfl trivial ?_
  refine Xe tG rfl rfl rfl rfl (fun _ => rfl) trivial ?_
  refine WU_nil ?_
  refine Wq ?_
  refine lP rfl ?_
  rw [memStore, if_pos h0]; rfl
theorem mem_StoreByte (m : VMem) (at_ n : Int) (hm : MemOk m) (ha : Fit64 at_) : PureC Tryz.prog 111 [eMem m, i64 at_, i64 n] (tMem (memStoreByte m at_ n)) := by
 refine pW tG (rs := [.cell 6 27, .tmp 7]) Tryz.func111 rfl rfl rfl (by simp) (by simp) (fun B => ?_)
 refine Ws ?_
 refine W_region rfl ?_
 iterate 3 refine We tG rfl rfl rfl trivial ?_
 refine Wn ?_
 refine Ws ?_
 refine W_region rfl ?_
 iterate 4 refine We tG rfl rfl rfl trivial ?_
 refine Wa 11 rfl (loB_pv n) ?_
 refine We tG rfl rfl rfl trivial ?_
 first | refine Wa 12 rfl (bsL cByte [_] rfl rfl) ?_ | skip
 refine Wc rfl rfl (dC rfl Tryz.func162 rfl rfl ((mem_Write m at_ [loB n] hm ha (by simp)) _)) ?_
 iterate 4 refine We tG rfl rfl rfl trivial ?_
 refine Wn ?_
 refine Wq ?_
 refine lP rfl ?_
 first | rfl | (simp_all; done) | (simp_all; omega)
theorem wrapB (b : UInt8) : IntKind.i64.wrap (b.toNat : Int) = b.toNat := by have := b.toNat_lt; rw [i64w]; unfold wrap64; omega
theorem mem_FetchByte (m : VMem) (at_ : Int) (hm : MemOk m) (ha : Fit64 at_) : PureC Tryz.prog 106 [eMem m, i64 at_] (tFetch (memFetchByte m at_)) := by
 have hm1 := hm.b
 refine pW tG (rs := [.tmp 4, .tmp 5]) Tryz.func106 rfl rfl rfl (by simp) (by simp) (fun B => ?_)
 refine Ws ?_
 refine W_region rfl ?_
 iterate 3 refine We tG rfl rfl rfl trivial ?_
 refine Wn ?_
 iterate 2 refine Ws ?_
 refine W_region rfl ?_
 iterate 2 refine We tG rfl rfl rfl trivial ?_
 refine Wc rfl rfl (dC rfl Tryz.func219 rfl rfl ((mem_there m at_ 1 (by omega) ha (fitN (n := 1) (by omega))) _)) ?_
 refine We tG rfl rfl rfl trivial ?_
 refine Wn ?_
 refine Wi rfl (fun hi1 => ?_) (fun hi1 => ?_)
 ·refine Ws ?_
  refine W_region rfl ?_
  iterate 2 refine We tG rfl rfl rfl trivial ?_
  refine Wn ?_
  refine Wq ?_
  refine lP rfl ?_
  rw [memFetchByte, if_neg (by simpa using hi1)]; rfl
 ·have ht : memThere m at_ 1 = true := by simpa using hi1
  obtain ⟨k0, k1⟩ := there_in (n := 1) ht (by omega)
  refine Wj ?_
  refine Ws ?_
  refine W_region rfl ?_
  iterate 3 refine We tG rfl rfl rfl trivial ?_
  first | refine Wv tG rfl rfl rfl (by first | exact trivial | omega | (simp only [dnL] at *; omega) | (simp_all; done) | (simp_all; omega)) (iN cByte 1 (fun _ => rfl) 0 (by first | exact trivial | omega | (simp only [dnL] at *; omega) | (simp_all; done) | (simp_all; omega))) ?_ | refine Wv tG rfl rfl rfl (by first | exact trivial | omega | (simp only [dnL] at *; omega) | (simp_all; done) | (simp_all; omega)) (iR cByte 1 (fun _ => rfl) 0 (by first | exact trivial | omega | (simp only [dnL] at *; omega) | (simp_all; done) | (simp_all; omega))) ?_
  iterate 4 refine We tG rfl rfl rfl trivial ?_
  refine Wn ?_
  refine Wq ?_
  refine lP rfl ?_
  rw [memFetchByte, if_pos ht]; exact congrArg (fun z => tup2 (i64 z) (i64 0)) (wrapB _)
theorem thereN {m : VMem} {at_ n : Int} (h : memThere m at_ n = true) (h0 : n ≠ 0) : 0 < n ∧ 0 ≤ at_ ∧ at_ + n ≤ m.b.length := by
 unfold memThere at h
 simp only [decide_eq_true_eq] at h
 omega
theorem cut_rowI {l : List UInt8} {x n : Int} (h0 : 0 ≤ x) (h1 : 0 ≤ n) (h : IntKind.i64.wrap (x + n) = x + n) : sq cByte ((l.take (IntKind.i64.wrap (x + n)).toNat).drop x.toNat) = sq cByte ((l.drop x.toNat).take n.toNat) := by
 rw [h, sub_row]; congr 2; omega
theorem mem_Text (m : VMem) (at_ n : Int) (hm : MemOk m) (ha : Fit64 at_) (hn : Fit64 n) : PureC Tryz.prog 147 [eMem m, i64 at_, i64 n] (tText (memText m at_ n)) := by
 have hm1 := hm.b
 refine pW tG (rs := [.tmp 6, .tmp 7]) Tryz.func147 rfl rfl rfl (by simp) (by simp) (fun B => ?_)
 refine Ws ?_
 refine W_region rfl ?_
 iterate 3 refine We tG rfl rfl rfl trivial ?_
 refine Wn ?_
 iterate 2 refine Ws ?_
 refine W_region rfl ?_
 iterate 3 refine We tG rfl rfl rfl trivial ?_
 refine Wc rfl rfl (dC rfl Tryz.func219 rfl rfl ((mem_there m at_ n (by omega) ha hn) _)) ?_
 refine We tG rfl rfl rfl trivial ?_
 refine Wn ?_
 refine Wi rfl (fun hi1 => ?_) (fun hi1 => ?_)
 ·have ht : ¬ memThere m at_ n = true := by simpa using hi1
  refine Ws ?_
  refine W_region rfl ?_
  iterate 2 refine We tG rfl rfl rfl trivial ?_
  refine Wn ?_
  refine Wq ?_
  refine lP rfl ?_
  rw [memText, if_neg ht]; rfl
 ·have ht : memThere m at_ n = true := by simpa using hi1
  refine Wj ?_
  iterate 2 refine Ws ?_
  refine W_region rfl ?_
  iterate 2 refine We tG rfl rfl rfl trivial ?_
  refine Wn ?_
  refine Wi rfl (fun hi2 => ?_) (fun hi2 => ?_)
  ·have hz : n = 0 := by simpa using hi2
   refine Ws ?_
   refine W_region rfl ?_
   iterate 2 refine We tG rfl rfl rfl trivial ?_
   refine Wn ?_
   refine Wq ?_
   refine lP rfl ?_
   rw [memText, if_pos ht, hz]; rfl
  ·obtain ⟨k0, k1, k3⟩ := thereN ht (by simpa using hi2)
   have k2 : IntKind.i64.wrap (at_ + n) = at_ + n := wrap_in (by omega) (by omega)
   refine Wj ?_
   refine Ws ?_
   refine W_region rfl ?_
   iterate 6 refine We tG rfl rfl rfl trivial ?_
   refine We tG rfl rfl rfl (by rw [k2]; omega) ?_
   refine Wa 21 rfl (sq_slice cByte 1 (fun _ => rfl) (by rw [k2]; omega)) ?_
   refine Wa 21 rfl (cut_rowI k1 (by omega) k2) ?_
   refine Wc rfl rfl (dC rfl Tryz.func235 rfl rfl ((bytes_Clone _ (by simp; omega)) _)) ?_
   iterate 2 refine We tG rfl rfl rfl trivial ?_
   refine Wn ?_
   refine Wq ?_
   refine lP rfl ?_
   rw [memText, if_pos ht]; rfl
theorem memText_len {m : VMem} {at_ n : Int} (hm : MemOk m) : (memText m at_ n).1.length ≤ 1000000 := by
 have := hm.b
 unfold memText
 split
 ·simp; omega
 ·simp
theorem mem_Move (m : VMem) (x to_ n : Int) (hm : MemOk m) (hx : Fit64 x) (ht : Fit64 to_) (hn : Fit64 n) : PureC Tryz.prog 118 [eMem m, i64 x, i64 to_, i64 n] (tMem (memMove m x to_ n)) := by
 refine pW tG (rs := [.cell 8 27, .tmp 9]) Tryz.func118 rfl rfl rfl (by simp) (by simp) (fun B => ?_)
 refine Ws ?_
 refine W_region rfl ?_
 iterate 3 refine We tG rfl rfl rfl trivial ?_
 refine Wn ?_
 refine Ws ?_
 refine W_region rfl ?_
 iterate 3 refine We tG rfl rfl rfl trivial ?_
 refine Wc rfl rfl (dC rfl Tryz.func147 rfl rfl ((mem_Text m x n hm hx hn) _)) ?_
 iterate 5 refine We tG rfl rfl rfl trivial ?_
 refine Wn ?_
 iterate 2 refine Ws ?_
 refine W_region rfl ?_
 iterate 2 refine We tG rfl rfl rfl trivial ?_
 refine Wn ?_
 refine Wi rfl (fun hi1 => ?_) (fun hi1 => ?_)
 ·have h0 : ¬ (memText m x n).2 = 0 := by simpa using hi1
  refine Ws ?_
  refine W_region rfl ?_
  iterate 4 refine We tG rfl rfl rfl trivial ?_
  refine Wn ?_
  refine Wq ?_
  refine lP rfl ?_
  rw [memMove, if_neg h0]; rfl
 ·have h0 : (memText m x n).2 = 0 := by simpa using hi1
  refine Wj ?_
  refine Ws ?_
  refine W_region rfl ?_
  iterate 3 refine We tG rfl rfl rfl trivial ?_
  refine Wc rfl rfl (dC rfl Tryz.func162 rfl rfl ((mem_Write m to_ _ hm ht (memText_len hm)) _)) ?_
  iterate 4 refine We tG rfl rfl rfl trivial ?_
  refine Wn ?_
  refine Wq ?_
  refine lP rfl ?_
  rw [memMove, if_pos h0]; rfl
end Go.Proofs.YtphgdofmjpdhaaaGreat
namespace Go.Proofs.YtphgdofmjpdhaaaGreat
open Go.RowKit
set_option linter.unusedVariables false
set_option maxRecDepth 100000
set_option maxHeartbeats 4000000
theorem WO_obI {P : Program} {B : Nat → Nat → Prop} {n : Nat} {all : Array Oper} {l : List Oper} {T : Nat → PV} {H H' : List Ob} {K : (Nat → PV) → List Ob → Prop} (i : Nat) {ob ob' : Ob} (hi : H[i]? = some ob) (e : ob = ob') (hH : nfH (H.set i ob') = some H') (h1 : WO P B n all l T H' K) : WO P B n all l T H K := by
 rw [nfH_eq hH] at h1
 subst e
 have : H.set i ob = H := by
  apply List.ext_getElem?
  intro j
  rw [List.getElem?_set]
  split
  ·rename_i h; subst h; split
   ·exact hi.symm
   ·rename_i h2; rw [List.getElem?_eq_none (by omega)]
  ·rfl
 rwa [this] at h1
def onlyT : List Str := [[73], [74], [85, 78, 76, 79, 79, 80], [62, 82], [82, 62], [82, 64], [50, 62, 82], [50, 82, 62]]
def nowT : List Str := [[46, 34], [40], [92], [91]]
def bothT : List Str := [[59], [68, 79, 69, 83, 62], [91, 39, 93], [91, 67, 72, 65, 82, 93], [76, 73, 84, 69, 82, 65, 76], [80, 79, 83, 84, 80, 79, 78, 69], [82, 69, 67, 85, 82, 83, 69], [73, 70], [69, 76, 83, 69], [84, 72, 69, 78], [66, 69, 71, 73, 78], [87, 72, 73, 76, 69], [82, 69, 80, 69, 65, 84], [85, 78, 84, 73, 76], [65, 71, 65, 73, 78], [68, 79], [63, 68, 79], [76, 79, 79, 80], [43, 76, 79, 79, 80], [76, 69, 65, 86, 69], [83, 34], [69, 88, 73, 84]]
def inS (l : List Str) (s : Str) : Bool := l.any (fun x => decide (x = s))
theorem ref_in (l : List Str) (s : Str) (hl : l.length ≤ 1000000) : PureC Tryz.prog 206 [sq cStr l, str s] (boo (inS l s)) := by
 refine pW tG (rs := [.tmp 4]) Tryz.func206 rfl rfl rfl (by simp) (by simp) (fun B => ?_)
 refine Ws ?_
 refine W_region rfl ?_
 refine We tG rfl rfl rfl trivial ?_
 refine Wn ?_
 iterate 2 refine Ws ?_
 refine W_region rfl ?_
 refine We tG rfl rfl rfl trivial ?_
 refine Wn ?_
 refine Wl ?_
 show W _ _ _ _ _ _ _
 refine W_loopS (fun (k : Nat) => [(0, sq cStr l), (1, str s), (5, i64 k)]) (fun (k : Nat) => []) (fun (k : Nat) => []) (fun (k : Nat) => k ≤ l.length ∧ (l.take k).all (fun x => !decide (x = s)) = true) (fun (k : Nat) => l.length - k) (0) (by first | exact trivial | omega | simp) [] ?_ ?_
 ·exact ⟨rfl, ⟨(by repeat (first | exact reBase_nil | refine rB (.inl rfl) ?_ | refine rB (.inr rfl) ?_)), (by repeat (first | exact reX_nil | refine rX rfl ?_ | refine rX (by refine congrArg (fun q => some (Ob.free q)) ?_; simp <;> omega) ?_)), (by decide), (by repeat (first | exact moved_nil | refine mC (.inl (Nat.le_of_ble_eq_true rfl)) ?_ | refine mC (.inr rfl) ?_)), (by repeat (first | exact nlo_nil | exact nO nlo_nil | refine nlo_cells (by first | (refine nF ?_; simp; done) | (refine nF (flatL_map' ?_ _); intro x; simp; done) | (simp [NL1L, NL1]; done)) ?_ | refine nO ?_ | refine nlo_dead ?_ | refine nlo_iter ?_ | refine nlo_smap (by first | (refine nF ?_; simp; done) | (refine nF (flatL_map' ?_ _); intro x; simp; done) | (simp [NL1L, NL1]; done)) ?_))⟩, (by repeat (first | exact subL_nil | refine subL_cons (by first | exact imp_of rfl | exact imp_seq _ _ _ | exact imp_of (congrArg i64 (by first | (rw [i64w]; unfold wrap64; omega) | omega | (simp; done)))) ?_)), (by repeat (first | exact nls_nil | refine nls_cons (by first | (refine nl_flat ?_; simp; done) | (show _ < _; first | decide | (simp; done)) | (refine ⟨?_, flatL_map' ?_ _⟩ <;> first | decide | (intro x; simp; done) | (simp; done)) | (refine ⟨?_, ?_⟩ <;> first | decide | (simp; done)) | (simp [NL, NL1L, NL1]; done)) ?_))⟩
 ·intro k hk
  iterate 2 refine Ws ?_
  refine W_region rfl ?_
  iterate 4 refine We tG rfl rfl rfl trivial ?_
  refine Wn ?_
  refine Wi rfl (fun hi1 => ?_) (fun hi1 => ?_)
  ·have hlt : k < l.length := by have := of_decide_eq_true hi1; omega
   refine Wj ?_
   refine Ws ?_
   refine Wl ?_
   refine Ws ?_
   refine W_region rfl ?_
   iterate 2 refine We tG rfl rfl rfl trivial ?_
   first | refine Wv tG rfl rfl rfl (by first | exact trivial | omega | (simp only [dnL] at *; omega) | (simp_all; done) | (simp_all; omega)) (iN cStr 1 (fun _ => rfl) [] (by first | exact trivial | omega | (simp only [dnL] at *; omega) | (simp_all; done) | (simp_all; omega))) ?_ | refine Wv tG rfl rfl rfl (by first | exact trivial | omega | (simp only [dnL] at *; omega) | (simp_all; done) | (simp_all; omega)) (iR cStr 1 (fun _ => rfl) [] (by first | exact trivial | omega | (simp only [dnL] at *; omega) | (simp_all; done) | (simp_all; omega))) ?_
   iterate 3 refine We tG rfl rfl rfl trivial ?_
   refine Wa 17 rfl (str_eql _ _) ?_
   refine Wn ?_
   refine Wi rfl (fun hi2 => ?_) (fun hi2 => ?_)
   ·have hy : inS l s = true := by unfold inS; rw [List.any_eq_true]; exact ⟨_, mem_getD [] hlt, hi2⟩
    refine Ws ?_
    refine W_region rfl ?_
    refine We tG rfl rfl rfl trivial ?_
    refine Wn ?_
    refine Wq ?_
    refine lP rfl ?_
    rw [hy]; rfl
   ·refine Wj ?_
    refine W_region rfl ?_
    iterate 3 refine We tG rfl rfl rfl trivial ?_
    refine Wn ?_
    exact ⟨k + 1, [], (by exact ⟨by omega, all_snoc [] hlt hk.2 (by rw [hi2]; rfl)⟩), (by omega), ⟨rfl, ⟨(by repeat (first | exact reBase_nil | refine rB (.inl rfl) ?_ | refine rB (.inr rfl) ?_)), (by repeat (first | exact reX_nil | refine rX rfl ?_ | refine rX (by refine congrArg (fun q => some (Ob.free q)) ?_; simp <;> omega) ?_)), (by decide), (by repeat (first | exact moved_nil | refine mC (.inl (Nat.le_of_ble_eq_true rfl)) ?_ | refine mC (.inr rfl) ?_)), (by repeat (first | exact nlo_nil | exact nO nlo_nil | refine nlo_cells (by first | (refine nF ?_; simp; done) | (refine nF (flatL_map' ?_ _); intro x; simp; done) | (simp [NL1L, NL1]; done)) ?_ | refine nO ?_ | refine nlo_dead ?_ | refine nlo_iter ?_ | refine nlo_smap (by first | (refine nF ?_; simp; done) | (refine nF (flatL_map' ?_ _); intro x; simp; done) | (simp [NL1L, NL1]; done)) ?_))⟩, (by repeat (first | exact subL_nil | refine subL_cons (by first | exact imp_of rfl | exact imp_seq _ _ _ | exact imp_of (congrArg i64 (by first | (rw [i64w]; unfold wrap64; omega) | omega | (simp; done)))) ?_)), (by repeat (first | exact nls_nil | refine nls_cons (by first | (refine nl_flat ?_; simp; done) | (show _ < _; first | decide | (simp; done)) | (refine ⟨?_, flatL_map' ?_ _⟩ <;> first | decide | (intro x; simp; done) | (simp; done)) | (refine ⟨?_, ?_⟩ <;> first | decide | (simp; done)) | (simp [NL, NL1L, NL1]; done)) ?_))⟩⟩
  ·have hge : l.length ≤ k := by have := of_decide_eq_false hi1; omega
   have hn : inS l s = false := by have h1 := hk.2; rw [take_all' _ k hge] at h1; unfold inS; rw [List.any_eq_false]; intro x hx; have := List.all_eq_true.1 h1 x hx; simpa using this
   refine W_exit ?_
   refine Ws ?_
   refine W_region rfl ?_
   refine We tG rfl rfl rfl trivial ?_
   refine Wn ?_
   refine Wq ?_
   refine lP rfl ?_
   rw [hn]; rfl
def flagsN (name : Str) (i : Nat) : Int := if i < 12 then 6 else if inS onlyT name then 4 else if inS nowT name then 1 else if inS bothT name then 5 else 0
theorem ref_flags (name : Str) (i : Nat) : PureC Tryz.prog 78 [str name, i64 i] (i64 (flagsN name i)) := by
 refine pW tG (rs := [.tmp 4]) Tryz.func78 rfl rfl rfl (by simp) (by simp) (fun B => ?_)
 refine Ws ?_
 refine W_region rfl ?_
 refine We tG rfl rfl rfl trivial ?_
 refine Wn ?_
 iterate 2 refine Ws ?_
 refine W_region rfl ?_
 iterate 2 refine We tG rfl rfl rfl trivial ?_
 refine Wn ?_
 refine Wi rfl (fun hi1 => ?_) (fun hi1 => ?_)
 ·have h0 : i < 12 := by have := of_decide_eq_true hi1; omega
  refine Ws ?_
  refine W_region rfl ?_
  refine We tG rfl rfl rfl trivial ?_
  refine Wn ?_
  refine Wq ?_
  refine lP rfl ?_
  rw [flagsN, if_pos h0]; rfl
 ·have h0 : ¬ i < 12 := by have := of_decide_eq_false hi1; omega
  refine Wj ?_
  refine Ws ?_
  refine W_region rfl ?_
  refine We tG rfl rfl rfl trivial ?_
  first | refine Wa 10 rfl (bsL cStr [_, _, _, _, _, _, _, _] rfl rfl) ?_ | skip
  refine We tG rfl rfl rfl trivial ?_
  refine Wc rfl rfl (dC rfl Tryz.func206 rfl rfl ((ref_in onlyT name (by decide)) _)) ?_
  refine We tG rfl rfl rfl trivial ?_
  refine Wn ?_
  iterate 2 refine Ws ?_
  refine W_region rfl ?_
  refine We tG rfl rfl rfl trivial ?_
  refine Wn ?_
  refine Wi rfl (fun hi2 => ?_) (fun hi2 => ?_)
  ·refine Ws ?_
   refine W_region rfl ?_
   refine We tG rfl rfl rfl trivial ?_
   refine Wn ?_
   refine Wq ?_
   refine lP rfl ?_
   rw [flagsN, if_neg h0, if_pos hi2]; rfl
  ·refine Wj ?_
   refine Ws ?_
   refine W_region rfl ?_
   refine We tG rfl rfl rfl trivial ?_
   first | refine Wa 14 rfl (bsL cStr [_, _, _, _] rfl rfl) ?_ | skip
   refine We tG rfl rfl rfl trivial ?_
   refine Wc rfl rfl (dC rfl Tryz.func206 rfl rfl ((ref_in nowT name (by decide)) _)) ?_
   refine We tG rfl rfl rfl trivial ?_
   refine Wn ?_
   iterate 2 refine Ws ?_
   refine W_region rfl ?_
   refine We tG rfl rfl rfl trivial ?_
   refine Wn ?_
   refine Wi rfl (fun hi3 => ?_) (fun hi3 => ?_)
   ·refine Ws ?_
    refine W_region rfl ?_
    refine We tG rfl rfl rfl trivial ?_
    refine Wn ?_
    refine Wq ?_
    refine lP rfl ?_
    rw [flagsN, if_neg h0, if_neg (by rw [hi2]; simp), if_pos hi3]; rfl
   ·refine Wj ?_
    refine Ws ?_
    refine W_region rfl ?_
    refine We tG rfl rfl rfl trivial ?_
    first | refine Wa 18 rfl (bsL cStr [_, _, _, _, _, _, _, _, _, _, _, _, _, _, _, _, _, _, _, _, _, _] rfl rfl) ?_ | skip
    refine We tG rfl rfl rfl trivial ?_
    refine Wc rfl rfl (dC rfl Tryz.func206 rfl rfl ((ref_in bothT name (by decide)) _)) ?_
    refine We tG rfl rfl rfl trivial ?_
    refine Wn ?_
    iterate 2 refine Ws ?_
    refine W_region rfl ?_
    refine We tG rfl rfl rfl trivial ?_
    refine Wn ?_
    refine Wi rfl (fun hi4 => ?_) (fun hi4 => ?_)
    ·refine Ws ?_
     refine W_region rfl ?_
     refine We tG rfl rfl rfl trivial ?_
     refine Wn ?_
     refine Wq ?_
     refine lP rfl ?_
     rw [flagsN, if_neg h0, if_neg (by rw [hi2]; simp), if_neg (by rw [hi3]; simp), if_pos hi4]; rfl
    ·refine Wj ?_
     refine Ws ?_
     refine W_region rfl ?_
     refine We tG rfl rfl rfl trivial ?_
     refine Wn ?_
     refine Wq ?_
     refine lP rfl ?_
     rw [flagsN, if_neg h0, if_neg (by rw [hi2]; simp), if_neg (by rw [hi3]; simp), if_neg (by rw [hi4]; simp)]; rfl
theorem ref_NamesC : PureC Tryz.prog 30 [] (sqc cStr names) := by
 refine pW tG (rs := [.tmp 0]) Tryz.func30 rfl rfl rfl (by first | simp; done | exact flat_sqc flat_cStr _) (by first | simp; done | exact flat_sqc flat_cStr _) (fun B => ?_)
 refine Ws ?_
 refine W_region rfl ?_
 refine We tG rfl rfl rfl trivial ?_
 refine Wn ?_
 refine Ws ?_
 refine W_region rfl ?_
 refine We tG rfl rfl rfl trivial ?_
 first | refine Wa 1 rfl (bsL cStr [_, _, _, _, _, _, _, _, _, _, _, _, _, _, _, _, _, _, _, _, _, _, _, _, _, _, _, _, _, _, _, _, _, _, _, _, _, _, _, _, _, _, _, _, _, _, _, _, _, _, _, _, _, _, _, _, _, _, _, _, _, _, _, _, _, _, _, _, _, _, _, _, _, _, _, _, _, _, _, _, _, _, _, _, _, _, _, _, _, _, _, _, _, _, _, _, _, _, _, _, _, _, _, _, _, _, _, _, _, _, _, _, _, _, _, _, _, _, _, _, _, _, _, _, _, _, _, _, _, _] rfl rfl) ?_ | skip
 refine We tG rfl rfl rfl trivial ?_
 refine Wn ?_
 refine Wq ?_
 exact leafPx rfl rfl
def allN : List Str := names ++ specials
theorem allN_len : allN.length = 167 := by unfold allN; rw [List.length_append, names_len, specials_len]
def nval (i : Nat) : Nat := if 130 ≤ i then 170 + i else i
def put2 (b : List UInt8) (a n : Nat) : List UInt8 := (b.set a (UInt8.ofNat (n % 256))).set (a + 1) (UInt8.ofNat (n / 256))
def stepB (b : List UInt8) (i : Nat) : List UInt8 :=
 let b1 := put2 b (32 + 8 * i) (nval i)
 let b2 := if allN.getD i [] = [40, 104, 97, 108, 116, 41] then put2 b1 16 (32 + 8 * i) else b1
 if allN.getD i [] = [40, 99, 97, 117, 103, 104, 116, 41] then put2 b2 24 (32 + 8 * i) else b2
def newB (M : Nat) : Nat → List UInt8
 | 0 => (List.replicate M 0).set 0 10
 | k + 1 => stepB (newB M k) k
def wordN (i : Nat) : VWord := ⟨allN.getD i [], ((32 + 8 * i : Nat) : Int), flagsN (allN.getD i []) i⟩
def newL (k : Nat) : List VWord := (List.range k).map wordN
@[simp] theorem newL_len (k : Nat) : (newL k).length = k := by simp [newL]
theorem newL_succ (k : Nat) : newL (k + 1) = newL k ++ [wordN k] := by unfold newL; rw [List.range_succ, List.map_append]; rfl
theorem put2_len (b : List UInt8) (a n : Nat) : (put2 b a n).length = b.length := by simp [put2]
theorem stepB_len (b : List UInt8) (i : Nat) : (stepB b i).length = b.length := by
 unfold stepB
 simp only
 split <;> split <;> simp [put2_len]
theorem newB_len (M k : Nat) : (newB M k).length = M := by
 induction k with
 | zero => simp [newB]
 | succ k ih => rw [newB, stepB_len, ih]
def newVm (c : VConf) : VVm := { conf := c, mem := ⟨newB c.mem.toNat 167, []⟩, here := 1368, d := [], r := [], f := [], dict := newL 167, last := 0, out := [], pic := ⟨[], false⟩, req := [], free := 0, next := 0, arg := 0, self := 0, now := 0, hand := [] }
def vmZ : List PV := [i64 0, i64 0, i64 0, i64 0, i64 0, .seq 0 [] .clip, .seq 0 [] .clip, i64 0, .seq 0 [] .clip, .seq 0 [] .clip, .seq 0 [] .clip, .seq 0 [] .clip, i64 0, .seq 0 [] .clip, .seq 0 [] .clip, boo false, .seq 0 [] .clip, i64 0, i64 0, i64 0, i64 0, i64 0, .seq 0 [] .clip]
@[simp] theorem nl_vmZ {n : Nat} : NL1L n vmZ := nF (by simp [vmZ])
theorem u8_of (n : Nat) (h : n < 256) : ((UInt8.ofNat n).toNat : Int) = n := by rw [UInt8.toNat_ofNat']; omega
theorem u8_mod (n : Nat) : PV.val (Value.int .u8 (IntKind.u8.wrap ((n : Int).tmod 256))) = .val (.int .u8 ((UInt8.ofNat (n % 256)).toNat : Int)) := by
 rw [u8_of _ (by omega), Int.tmod_eq_emod_of_nonneg (by omega)]
 simp only [PV.val.injEq, Value.int.injEq, true_and]
 rw [IntKind.wrap_u8]; omega
theorem u8_quo (n : Nat) (h : n < 65536) : PV.val (Value.int .u8 (IntKind.u8.wrap (IntKind.i64.wrap ((n : Int).tdiv 256)))) = .val (.int .u8 ((UInt8.ofNat (n / 256)).toNat : Int)) := by
 rw [u8_of _ (by omega), Int.tdiv_eq_ediv_of_nonneg (by omega)]
 simp only [PV.val.injEq, Value.int.injEq, true_and]
 rw [i64w, IntKind.wrap_u8]; unfold wrap64; omega
theorem splice_at {b : List UInt8} {i : Int} {n : Nat} {x : UInt8} (hi : i = n) (hn : n < b.length) : splice (b.flatMap cByte) (0 + i.toNat * 1) [.val (.int .u8 (x.toNat : Int))] = (b.set n x).flatMap cByte := by
 subst hi
 rw [Int.toNat_natCast, Nat.mul_one, Nat.zero_add]
 exact splice_byte hn x
theorem zeros_b {M : Nat} {d : TD} {e : TypeId} (hd : d.zero = cByte 0) : Ob.cells (zerosPV M d) e = .cells ((List.replicate M (0 : UInt8)).flatMap cByte) e := by
 unfold zerosPV
 rw [hd, List.flatMap_replicate]
end Go.Proofs.YtphgdofmjpdhaaaGreat
namespace Go.Proofs.YtphgdofmjpdhaaaGreat
open Go.RowKit
set_option linter.unusedVariables false
namespace V
section
variable {P : Program} {B : Nat → Nat → Prop} {n : Nat} {md : Region.Mode} {ops : Array Oper} {cl : Nat → Nat}
def YU (P : Program) (B : Nat → Nat → Prop) (ops : Array Oper) (o : Oper) (T : Nat → PV) (H : List Ob) (x : PV) (H' : List Ob) : Prop :=
 (wantedA ops T o = some true ∧ (Does P B o T H x H' ∨ DoesC P B o T H x H')) ∨ (wantedA ops T o = some false ∧ x = .val undef ∧ H' = H)
def FU (P : Program) (B : Nat → Nat → Prop) (ops : Array Oper) (c : Nat) (o : Oper) (T : Nat → PV) (H : List Ob) (x : PV) (H' : List Ob) : Prop :=
 match c with
 | 0 => H' = H ∧ ∀ H2, YU P B ops o T H2 x H2
 | 1 => H' = H ∧ ∀ E, YU P B ops o T (H ++ E) x (H ++ E)
 | 2 => ∃ E, H' = H ++ E
 | 3 => True
 | c + 4 => match Nat.beq (c % 2) 0 with
  | true => H' = H ∧ c / 2 < H.length ∧ ∀ H2 : List Ob, H2[c / 2]? = H[c / 2]? → YU P B ops o T H2 x H2
  | false => ∃ ob, H' = H.set (c / 2) ob
def rdB (c : Nat) : Bool := Nat.ble 4 c && Nat.beq (c % 2) 0
def wrB (c : Nat) : Bool := Nat.ble 4 c && Nat.beq (c % 2) 1
def blk (c : Nat) : Nat := (c - 4) / 2
def compatU (a b : Nat) : Bool := Nat.beq a 0 || Nat.beq b 0 || (Nat.beq a 1 && Nat.ble b 2) || (rdB a && (Nat.ble b 2 || rdB b || (wrB b && !Nat.beq (blk a) (blk b)))) || (wrB a && rdB b && !Nat.beq (blk a) (blk b))
theorem YU.congr {o : Oper} {T T' : Nat → PV} {H H' : List Ob} {x : PV} (h : ∀ t ∈ o.looksAt ops, T' t = T t) (y : YU P B ops o T H x H') : YU P B ops o T' H x H' := by
 have hw : wantedA ops T' o = wantedA ops T o := by
  unfold wantedA
  cases hg : o.guard with
  | none => rfl
  | some q =>
   obtain ⟨g, b⟩ := q
   simp only
   cases hd : (ops[g]?).bind (·.dst) with
   | none => rfl
   | some d => simp only; rw [h d (looks_guard hg hd)]
 have ho : ∀ z ∈ o.op.operands.toList, opv T' z = opv T z := fun z hz => opv_congr fun t ht => h t (looks_op (by rw [← ht]; exact hz))
 rcases y with ⟨h1, h2 | h2⟩ | ⟨h1, h2⟩
 ·exact .inl ⟨by rw [hw]; exact h1, .inl fun σ w a s k => h2 σ w a s (fun z hz => by rw [← ho z hz]; exact k z hz)⟩
 ·exact .inl ⟨by rw [hw]; exact h1, .inr fun σ w a s k => h2 σ w a s (fun z hz => by rw [← ho z hz]; exact k z hz)⟩
 ·exact .inr ⟨by rw [hw]; exact h1, h2⟩
theorem FU.congr {c : Nat} {o : Oper} {T T' : Nat → PV} {H H' : List Ob} {x : PV} (h : ∀ t ∈ o.looksAt ops, T' t = T t) (y : FU P B ops c o T H x H') : FU P B ops c o T' H x H' := by
 match c, y with
 | 0, y => exact ⟨y.1, fun H2 => (y.2 H2).congr h⟩
 | 1, y => exact ⟨y.1, fun E => (y.2 E).congr h⟩
 | 2, y => exact y
 | 3, _ => trivial
 | c + 4, y =>
  simp only [FU] at y ⊢
  split at y
  ·exact ⟨y.1, y.2.1, fun H2 h2 => (y.2.2 H2 h2).congr h⟩
  ·exact y
theorem FU.rd {c : Nat} {o : Oper} {T : Nat → PV} {H H' : List Ob} {x : PV} (hc : rdB c = true) (f : FU P B ops c o T H x H') : H' = H ∧ blk c < H.length ∧ ∀ H2 : List Ob, H2[blk c]? = H[blk c]? → YU P B ops o T H2 x H2 := by
 simp only [rdB, Bool.and_eq_true, Nat.ble_eq, Nat.beq_eq] at hc
 obtain ⟨d, rfl⟩ : ∃ d, c = d + 4 := ⟨c - 4, by omega⟩
 have hd : Nat.beq (d % 2) 0 = true := by rw [Nat.beq_eq]; omega
 simp only [FU, hd] at f
 exact f
theorem FU.of_rd {c : Nat} {o : Oper} {T : Nat → PV} {H H' : List Ob} {x : PV} (hc : rdB c = true) (f : H' = H ∧ blk c < H.length ∧ ∀ H2 : List Ob, H2[blk c]? = H[blk c]? → YU P B ops o T H2 x H2) : FU P B ops c o T H x H' := by
 simp only [rdB, Bool.and_eq_true, Nat.ble_eq, Nat.beq_eq] at hc
 obtain ⟨d, rfl⟩ : ∃ d, c = d + 4 := ⟨c - 4, by omega⟩
 have hd : Nat.beq (d % 2) 0 = true := by rw [Nat.beq_eq]; omega
 simp only [FU, hd]
 exact f
theorem FU.wr {c : Nat} {o : Oper} {T : Nat → PV} {H H' : List Ob} {x : PV} (hc : wrB c = true) (f : FU P B ops c o T H x H') : ∃ ob, H' = H.set (blk c) ob := by
 simp only [wrB, Bool.and_eq_true, Nat.ble_eq, Nat.beq_eq] at hc
 obtain ⟨d, rfl⟩ : ∃ d, c = d + 4 := ⟨c - 4, by omega⟩
 have hd : Nat.beq (d % 2) 0 = false := by rw [← Bool.not_eq_true, Nat.beq_eq]; omega
 simp only [FU, hd] at f
 exact f
theorem FU.of_wr {c : Nat} {o : Oper} {T : Nat → PV} {H H' : List Ob} {x : PV} (hc : wrB c = true) (f : ∃ ob, H' = H.set (blk c) ob) : FU P B ops c o T H x H' := by
 simp only [wrB, Bool.and_eq_true, Nat.ble_eq, Nat.beq_eq] at hc
 obtain ⟨d, rfl⟩ : ∃ d, c = d + 4 := ⟨c - 4, by omega⟩
 have hd : Nat.beq (d % 2) 0 = false := by rw [← Bool.not_eq_true, Nat.beq_eq]; omega
 simp only [FU, hd]
 exact f
def qU (P : Program) (B : Nat → Nat → Prop) (ops : Array Oper) (cl : Nat → Nat) (i : Nat) (K : (Nat → PV) → List Ob → Prop) (T : Nat → PV) (H : List Ob) : Prop :=
 match ops[i]? with
 | none => K T H
 | some o => ∃ x H', YU P B ops o T H x H' ∧ FU P B ops (cl i) o T H x H' ∧ K (updD o.dst x T) H'
def anyU (P : Program) (B : Nat → Nat → Prop) (md : Region.Mode) (ops : Array Oper) (cl : Nat → Nat) (Q : (Nat → PV) → List Ob → Prop) : Nat → Array Bool → (Nat → PV) → List Ob → Prop
 | 0, listed, T, H => Region.ready md ops listed = [] ∧ Q T H
 | fuel + 1, listed, T, H => (Region.ready md ops listed = [] → Q T H) ∧ ∀ i ∈ Region.ready md ops listed, qU P B ops cl i (anyU P B md ops cl Q fuel (listed.setIfInBounds i true)) T H
theorem anyU_sound (hall : dstsOk n ops = true) {Q' : Exit → Act → World → Prop} {Q : (Nat → PV) → List Ob → Prop} {H0 : List Ob} {σ0 : Nat → Option Nat} {w0 : World} (hQ : ∀ T H σ w a, Good B n T H σ w a → Step B H0 σ0 w0 H σ w → Q T H → Q' .normal a w) :
  ∀ (fuel : Nat) (listed : Array Bool) (T : Nat → PV) (H : List Ob) (σ : Nat → Option Nat) (w : World) (a : Act), Good B n T H σ w a → Step B H0 σ0 w0 H σ w → anyU P B md ops cl Q fuel listed T H → wpAny P md ops Q' fuel listed a w
 | 0, _, _, _, _, _, _, g, st, h => ⟨h.1, hQ _ _ _ _ _ g st h.2⟩
 | fuel + 1, listed, T, H, σ, w, a, g, st, h => by
  refine ⟨fun h0 => hQ _ _ _ _ _ g st (h.1 h0), fun i hi => ?_⟩
  have h1 := h.2 i hi
  unfold qU at h1
  unfold wpOp
  cases ho : ops[i]? with
  | none => simp only [ho] at h1 ⊢; exact anyU_sound hall hQ fuel _ T H σ w a g st h1
  | some o =>
   simp only [ho] at h1 ⊢
   obtain ⟨x, H', hy, _, hk⟩ := h1
   have hd : ∀ j, o.dst = some j → Nat.blt j n = true := fun j hj => dstsOk_spec hall i j (by rw [ho]; exact hj)
   have hgd : ∀ q, wantedA ops T o = some q → Region.wanted o (yielded ops a.tmps) = q := fun q hq => guard_ok (dstsOk_spec hall) g hq
   rcases hy with ⟨hw, hdo | hdo⟩ | ⟨hw, rfl, rfl⟩
   ·rw [if_pos (hgd true hw)]
    refine .inl ?_
    obtain ⟨v, w', σ', h2, h3, h4, h5⟩ := hdo σ w a g.sim (fun y _ => rep_opv g.rep y)
    have k := anyU_sound hall hQ fuel _ _ _ σ' w' _ (good_put hd g h3 h4 h5) (st.trans h5) hk
    unfold Oper.wp
    rcases h2 with h2 | ⟨h2, rfl⟩
    ·rw [h2]; exact k
    ·rw [h2]; exact k
   ·rw [if_pos (hgd true hw)]
    refine .inl ?_
    obtain ⟨f, args, h2, hc⟩ := hdo σ w a g.sim (fun y _ => rep_opv g.rep y)
    unfold Oper.wp
    rw [h2]
    refine Calls.mono hc ?_
    rintro e w' ⟨v, σ', rfl, h3, h4, h5⟩
    exact anyU_sound hall hQ fuel _ _ _ σ' w' _ (good_put hd g h3 h4 h5) (st.trans h5) hk
   ·rw [if_neg (by rw [hgd false hw]; simp)]
    exact anyU_sound hall hQ fuel _ _ _ σ w _ (good_put hd g (rep_val _ _) g.sim (Step.refl _ _ _ _)) st hk
theorem swapU {ci cj : Nat} {oi oj : Oper} {T : Nat → PV} {H Hi Hj : List Ob} {x y : PV} (hc : compatU ci cj = true) (h1 : ∀ t ∈ oj.looksAt ops, updD oi.dst x T t = T t) (h2 : ∀ t ∈ oi.looksAt ops, updD oj.dst y T t = T t)
  (yi : YU P B ops oi T H x Hi) (fi : FU P B ops ci oi T H x Hi) (yj : YU P B ops oj (updD oi.dst x T) Hi y Hj) (fj : FU P B ops cj oj (updD oi.dst x T) Hi y Hj) :
  ∃ H', YU P B ops oj T H y H' ∧ FU P B ops cj oj T H y H' ∧ YU P B ops oi (updD oj.dst y T) H' x Hj ∧ FU P B ops ci oi (updD oj.dst y T) H' x Hj := by
 have b1 : ∀ t ∈ oj.looksAt ops, T t = updD oi.dst x T t := fun t ht => (h1 t ht).symm
 have yj' := yj.congr b1
 have fj' := fj.congr b1
 simp only [compatU, Bool.or_eq_true, Bool.and_eq_true, Nat.beq_eq, Nat.ble_eq] at hc
 rcases hc with (((rfl | rfl) | ⟨rfl, hj⟩) | ⟨hr, hj⟩) | ⟨⟨hw, hr⟩, hne⟩
 ·obtain ⟨rfl, hl⟩ := fi
  exact ⟨Hj, yj', fj', (hl Hj).congr h2, rfl, fun H2 => (hl H2).congr h2⟩
 ·obtain ⟨rfl, hl⟩ := fj'
  exact ⟨H, hl H, ⟨rfl, hl⟩, yi.congr h2, fi.congr h2⟩
 ·obtain ⟨rfl, hl⟩ := fi
  have : ∃ E, Hj = Hi ++ E := by
   match cj, hj, fj' with
   | 0, _, fj' => exact ⟨[], by rw [fj'.1]; simp⟩
   | 1, _, fj' => exact ⟨[], by rw [fj'.1]; simp⟩
   | 2, _, fj' => exact fj'
   | c + 3, hj, _ => omega
  obtain ⟨E, rfl⟩ := this
  exact ⟨Hi ++ E, yj', fj', (hl E).congr h2, rfl, fun E2 => by rw [List.append_assoc]; exact (hl (E ++ E2)).congr h2⟩
 ·obtain ⟨rfl, hlt, hl⟩ := fi.rd hr
  have key : Hj[blk ci]? = Hi[blk ci]? ∧ blk ci < Hj.length := by
   rcases hj with (hj | hj) | ⟨hj, hne⟩
   ·have : ∃ E, Hj = Hi ++ E := by
     match cj, hj, fj' with
     | 0, _, fj' => exact ⟨[], by rw [fj'.1]; simp⟩
     | 1, _, fj' => exact ⟨[], by rw [fj'.1]; simp⟩
     | 2, _, fj' => exact fj'
     | c + 3, hj, _ => omega
    obtain ⟨E, rfl⟩ := this
    exact ⟨List.getElem?_append_left hlt, by simp; omega⟩
   ·obtain ⟨rfl, _⟩ := fj'.rd hj
    exact ⟨rfl, hlt⟩
   ·obtain ⟨ob, rfl⟩ := fj'.wr hj
    refine ⟨List.getElem?_set_ne ?_, by simpa using hlt⟩
    intro h; rw [h] at hne; simp at hne
  exact ⟨Hj, yj', fj', (hl Hj key.1).congr h2, FU.of_rd hr ⟨rfl, key.2, fun H2 h3 => (hl H2 (h3.trans key.1)).congr h2⟩⟩
 ·obtain ⟨ob, rfl⟩ := fi.wr hw
  obtain ⟨rfl, hlt, hl⟩ := fj'.rd hr
  have hk : H[blk cj]? = (H.set (blk ci) ob)[blk cj]? := by
   rw [List.getElem?_set_ne]
   intro h; rw [h] at hne; simp at hne
  exact ⟨H, hl H hk, FU.of_rd hr ⟨rfl, by simpa using hlt, fun H2 h3 => hl H2 (h3.trans hk)⟩, yi.congr h2, fi.congr h2⟩
theorem anyU_first {Q : (Nat → PV) → List Ob → Prop} {i : Nat} {oi : Oper} {x : PV} (hi : ops[i]? = some oi) : ∀ (fuel : Nat) (listed : Array Bool) (T : Nat → PV) (H Hi : List Ob),
  (∀ j oj, ops[j]? = some oj → j ≠ i → listed.getD j true = false → (∀ e ∈ oj.after, Region.binds md e = true → e.on ≠ i) → oi.apart ops oj = true ∧ compatU (cl i) (cl j) = true) →
  i ∈ Region.ready md ops listed → YU P B ops oi T H x Hi → FU P B ops (cl i) oi T H x Hi → anyU P B md ops cl Q fuel (listed.setIfInBounds i true) (updD oi.dst x T) Hi → anyU P B md ops cl Q (fuel + 1) listed T H := by
 intro fuel
 have self : ∀ (fuel : Nat) (listed : Array Bool) (T : Nat → PV) (H Hi : List Ob), YU P B ops oi T H x Hi → FU P B ops (cl i) oi T H x Hi → anyU P B md ops cl Q fuel (listed.setIfInBounds i true) (updD oi.dst x T) Hi → qU P B ops cl i (anyU P B md ops cl Q fuel (listed.setIfInBounds i true)) T H := by
  intro fuel listed T H Hi hy hf h
  unfold qU
  simp only [hi]
  exact ⟨x, Hi, hy, hf, h⟩
 induction fuel with
 | zero =>
  intro listed T H Hi _ hr hy hf h
  refine ⟨fun h0 => (by rw [h0] at hr; cases hr), fun j hj => ?_⟩
  by_cases hji : j = i
  ·subst hji; exact self 0 listed T H Hi hy hf h
  ·have := ready_mono hj hji
   rw [h.1] at this
   cases this
 | succ fuel ih =>
  intro listed T H Hi hfree hr hy hf h
  refine ⟨fun h0 => (by rw [h0] at hr; cases hr), fun j hj => ?_⟩
  by_cases hji : j = i
  ·subst hji; exact self (fuel + 1) listed T H Hi hy hf h
  ·have h1 := h.2 j (ready_mono hj hji)
   obtain ⟨hjun, oj, hoj, hall⟩ := mem_ready.1 hj
   have hnot : ∀ e ∈ oj.after, Region.binds md e = true → e.on ≠ i := fun e he hb heq => by
    have a1 := hall e he hb
    have a0 := (mem_ready.1 hr).1
    rw [heq] at a1
    rcases Nat.lt_or_ge i listed.size with h' | h'
    ·simp [h'] at a0 a1; rw [a0] at a1; cases a1
    ·simp [Array.getElem?_eq_none h'] at a1
   obtain ⟨hap, hcp⟩ := hfree j oj hoj hji hjun hnot
   obtain ⟨l1, l2, l3⟩ := apart_looks hap
   unfold qU at h1 ⊢
   simp only [hoj] at h1 ⊢
   obtain ⟨y, Hj, hyj, hfj, hk⟩ := h1
   obtain ⟨H', k1, k2, k3, k4⟩ := swapU hcp (fun t ht => updD_look (l1 t ht)) (fun t ht => updD_look (l2 t ht)) hy hf hyj hfj
   refine ⟨y, H', k1, k2, ih (listed.setIfInBounds j true) _ H' Hj (fun k ok hk hki hun hno => ?_) (ready_mono hr (Ne.symm hji)) k3 k4 ?_⟩
   ·refine hfree k ok hk hki ?_ hno
    by_cases hjk : j = k
    ·subst hjk; exact hjun
    ·rw [getD_set_ne true hjk] at hun; exact hun
   ·rw [Array.setIfInBounds_comm _ _ hji, updD_comm _ _ _ l3]
    exact hk
def freeU (md : Region.Mode) (ops : Array Oper) (cl : Nat → Nat) (listed : Array Bool) (i : Nat) (oi : Oper) : Bool :=
 ops.toList.zipIdx.all fun q => Nat.beq q.2 i || listed.getD q.2 true || (q.1.after.any fun e => Region.binds md e && Nat.beq e.on i) || (oi.apart ops q.1 && compatU (cl i) (cl q.2))
def lexU (md : Region.Mode) (ops : Array Oper) (cl : Nat → Nat) : List Nat → Array Bool → Bool
 | [], listed => (Region.ready md ops listed).isEmpty
 | i :: l, listed => (Region.ready md ops listed).contains i && (match ops[i]? with | some oi => freeU md ops cl listed i oi | none => false) && lexU md ops cl l (listed.setIfInBounds i true)
theorem freeU_spec {listed : Array Bool} {i : Nat} {oi : Oper} (h : freeU md ops cl listed i oi = true) : ∀ j oj, ops[j]? = some oj → j ≠ i → listed.getD j true = false → (∀ e ∈ oj.after, Region.binds md e = true → e.on ≠ i) → oi.apart ops oj = true ∧ compatU (cl i) (cl j) = true := by
 intro j oj hj hji hun hno
 have h1 := List.all_eq_true.1 h (oj, j) (zip_get (by rw [Array.getElem?_toList]; exact hj))
 simp only [Bool.or_eq_true, Bool.and_eq_true, Nat.beq_eq] at h1
 rcases h1 with ((h1 | h1) | h1) | h1
 ·exact absurd h1 hji
 ·rw [hun] at h1; cases h1
 ·obtain ⟨e, he, h3⟩ := Array.any_eq_true'.1 h1
  simp only [Bool.and_eq_true, Nat.beq_eq] at h3
  exact absurd h3.2 (hno e he h3.1)
 ·exact h1
def WU (P : Program) (B : Nat → Nat → Prop) (n : Nat) (ops : Array Oper) (cl : Nat → Nat) : List Nat → (Nat → PV) → List Ob → ((Nat → PV) → List Ob → Prop) → Prop
 | [], T, H, K => K T H
 | i :: l, T, H, K => ∃ o, ops[i]? = some o ∧ ∃ x H', YU P B ops o T H x H' ∧ FU P B ops (cl i) o T H x H' ∧ WU P B n ops cl l (updD o.dst x T) H' K
theorem anyU_lex {Q : (Nat → PV) → List Ob → Prop} : ∀ (l : List Nat) (listed : Array Bool) (T : Nat → PV) (H : List Ob), lexU md ops cl l listed = true → WU P B n ops cl l T H Q → anyU P B md ops cl Q l.length listed T H
 | [], listed, T, H, hB, h => ⟨by simpa [lexU] using hB, h⟩
 | i :: l, listed, T, H, hB, h => by
  simp only [lexU, Bool.and_eq_true] at hB
  obtain ⟨⟨hr, hf⟩, hB'⟩ := hB
  obtain ⟨o, ho, x, H', hy, hfu, hK⟩ := h
  rw [ho] at hf
  exact anyU_first ho l.length listed T H H' (freeU_spec hf) (by simpa using hr) hy hfu (anyU_lex l _ _ _ hB' hK)
def clOf (l : List Nat) (i : Nat) : Nat := l.getD i 3
def lexUB (md : Region.Mode) (ops : Array Oper) (cl : List Nat) (ord : List Nat) : Bool := Nat.beq ord.length ops.size && lexU md ops (clOf cl) ord (Array.replicate ops.size false)
variable {T : Nat → PV} {H : List Ob} {Q : Exit → (Nat → PV) → List Ob → Prop}
theorem W_drawU {id : Nat} (cl ord : List Nat) (hm : P.follows .mixedOrders = true) (hall : dstsOk n ops = true) (hB : lexUB .any ops cl ord = true) (h : WU P B n ops (clOf cl) ord T H (fun T' H' => Q .normal T' H')) : W P B n (.region id ops true) T H Q := by
 intro σ w a g
 simp only [lexUB, Bool.and_eq_true, Nat.beq_eq] at hB
 refine wp_region_any hm ?_
 have hd : Grows w { w with drawn := w.drawn + 1 } := Grows.drew w
 obtain ⟨s', st⟩ := grow_sim g.sim hd
 have hA := anyU_lex (P := P) (B := B) (n := n) (md := .any) ord (Array.replicate ops.size false) T H hB.2 h
 rw [hB.1] at hA
 exact anyU_sound (P := P) (md := .any) hall (H0 := H) (σ0 := σ) (w0 := w) (Q' := Post B n H σ w Q) (fun T' H' σ' w' a' g' st' hq => ⟨T', H', σ', hq, g', st'⟩) ops.size _ T H σ _ a ⟨s', fun i => (g.rep i).mono st.le, g.size, g.defers⟩ st hA
variable {o : Oper} {l : List Nat} {i : Nat} {K : (Nat → PV) → List Ob → Prop} {x : PV} {H' : List Ob} {G : List (Nat × TD)} {p : Prop} {d : Option Tmp}
theorem WU_nil (h : K T H) : WU P B n ops cl [] T H K := h
theorem WU_does0 (h0 : ops[i]? = some o) (hc : cl i = 0) (hd : nfD n o.dst = some d) (hw : wantedA ops T o = some true) (h : ∀ H2, Does P B o T H2 x H2) (k : WU P B n ops cl l (updD d x T) H K) : WU P B n ops cl (i :: l) T H K :=
 ⟨o, h0, x, H, .inl ⟨hw, .inl (h H)⟩, by rw [hc]; exact ⟨rfl, fun H2 => .inl ⟨hw, .inl (h H2)⟩⟩, (nfD_eq hd).1 ▸ k⟩
theorem Xc (h0 : ops[i]? = some o) (hc : cl i = 0) (hd : nfD n o.dst = some d) (hw : wantedA ops T o = some true) (h : ∀ H2, DoesC P B o T H2 x H2) (k : WU P B n ops cl l (updD d x T) H K) : WU P B n ops cl (i :: l) T H K :=
 ⟨o, h0, x, H, .inl ⟨hw, .inr (h H)⟩, by rw [hc]; exact ⟨rfl, fun H2 => .inl ⟨hw, .inr (h H2)⟩⟩, (nfD_eq hd).1 ▸ k⟩
theorem Xe (hG : tysOk P G = true) (h0 : ops[i]? = some o) (hc : cl i = 0) (hd : nfD n o.dst = some d) (hw : wantedA ops T o = some true) (h : ∀ H2, evS G T H2 o.type o.op = some (x, H2, p)) (hp : p) (k : WU P B n ops cl l (updD d x T) H K) : WU P B n ops cl (i :: l) T H K :=
 WU_does0 h0 hc hd hw (fun H2 => evOp_ok hG rfl (evS_ok (h H2)) hp) k
theorem Xi {y : PV} (hG : tysOk P G = true) (h0 : ops[i]? = some o) (hc : cl i = 0) (hd : nfD n o.dst = some d) (hw : wantedA ops T o = some true) (h : ∀ H2, evS G T H2 o.type o.op = some (x, H2, p)) (hp : p) (hi : Imp x y) (k : WU P B n ops cl l (updD d y T) H K) : WU P B n ops cl (i :: l) T H K :=
 WU_does0 h0 hc hd hw (fun H2 => (evOp_ok hG rfl (evS_ok (h H2)) hp).imp hi) k
theorem WU_skip (h0 : ops[i]? = some o) (hc : Nat.ble (cl i) 3 = true) (hd : nfD n o.dst = some d) (hw : wantedA ops T o = some false) (k : WU P B n ops cl l (updD d (.val undef) T) H K) : WU P B n ops cl (i :: l) T H K := by
 refine ⟨o, h0, _, H, .inr ⟨hw, rfl, rfl⟩, ?_, (nfD_eq hd).1 ▸ k⟩
 generalize cl i = q at hc
 match q, hc with
 | 0, _ => exact ⟨rfl, fun H2 => .inr ⟨hw, rfl, rfl⟩⟩
 | 1, _ => exact ⟨rfl, fun E => .inr ⟨hw, rfl, rfl⟩⟩
 | 2, _ => exact ⟨[], by simp⟩
 | 3, _ => trivial
 | c + 4, hc => rw [Nat.ble_eq] at hc; omega
theorem Xf (hG : tysOk P G = true) (h0 : ops[i]? = some o) (hc : cl i = 1) (hd : nfD n o.dst = some d) (hw : wantedA ops T o = some true) (h : ∀ E, evS G T (H ++ E) o.type o.op = some (x, H ++ E, p)) (hp : p) (k : WU P B n ops cl l (updD d x T) H K) : WU P B n ops cl (i :: l) T H K :=
 ⟨o, h0, x, H, .inl ⟨hw, .inl (by have := evOp_ok (P := P) (B := B) (o := o) hG rfl (evS_ok (h [])) hp; rwa [List.append_nil] at this)⟩, by rw [hc]; exact ⟨rfl, fun E => .inl ⟨hw, .inl (evOp_ok hG rfl (evS_ok (h E)) hp)⟩⟩, (nfD_eq hd).1 ▸ k⟩
theorem WU_ev2 {E : List Ob} (hG : tysOk P G = true) (h0 : ops[i]? = some o) (hc : cl i = 2) (hd : nfD n o.dst = some d) (hw : wantedA ops T o = some true) (h : evN G T H o.type o.op = some (x, H', p)) (hp : p) (hH : H' = H ++ E) (k : WU P B n ops cl l (updD d x T) H' K) : WU P B n ops cl (i :: l) T H K :=
 ⟨o, h0, x, H', .inl ⟨hw, .inl (evOp_ok hG rfl (evN_ok h) hp)⟩, by rw [hc]; exact ⟨E, hH⟩, (nfD_eq hd).1 ▸ k⟩
theorem WU_ev3 (hG : tysOk P G = true) (h0 : ops[i]? = some o) (hc : cl i = 3) (hd : nfD n o.dst = some d) (hw : wantedA ops T o = some true) (h : evN G T H o.type o.op = some (x, H', p)) (hp : p) (k : WU P B n ops cl l (updD d x T) H' K) : WU P B n ops cl (i :: l) T H K :=
 ⟨o, h0, x, H', .inl ⟨hw, .inl (evOp_ok hG rfl (evN_ok h) hp)⟩, by rw [hc]; trivial, (nfD_eq hd).1 ▸ k⟩
theorem WU_does3 (h0 : ops[i]? = some o) (hc : cl i = 3) (hd : nfD n o.dst = some d) (hw : wantedA ops T o = some true) (h : Does P B o T H x H') (k : WU P B n ops cl l (updD d x T) H' K) : WU P B n ops cl (i :: l) T H K :=
 ⟨o, h0, x, H', .inl ⟨hw, .inl h⟩, by rw [hc]; trivial, (nfD_eq hd).1 ▸ k⟩
theorem WU_call3 (h0 : ops[i]? = some o) (hc : cl i = 3) (hd : nfD n o.dst = some d) (hw : wantedA ops T o = some true) (h : DoesC P B o T H x H') (k : WU P B n ops cl l (updD d x T) H' K) : WU P B n ops cl (i :: l) T H K :=
 ⟨o, h0, x, H', .inl ⟨hw, .inr h⟩, by rw [hc]; trivial, (nfD_eq hd).1 ▸ k⟩
theorem WU_split (d : Nat) {b : Bool} (hT : T d = .val (.bool b)) (h1 : b = true → WU P B n ops cl l (upd d (.val (.bool true)) T) H K) (h2 : b = false → WU P B n ops cl l (upd d (.val (.bool false)) T) H K) : WU P B n ops cl l T H K := by
 have e : ∀ q, b = q → upd d (.val (.bool q)) T = T := by
  rintro q rfl
  funext i
  by_cases hi : i = d
  ·subst hi; rw [upd_same, hT]
  ·rw [upd_other _ _ _ _ hi]
 cases hb : b with
 | true => have := h1 hb; rwa [e true hb] at this
 | false => have := h2 hb; rwa [e false hb] at this
theorem Xa (d : Nat) {x y : PV} (hT : T d = x) (hxy : x = y) (h1 : WU P B n ops cl l (upd d y T) H K) : WU P B n ops cl l T H K := by
 have e : upd d y T = T := by
  funext i
  by_cases hi : i = d
  ·subst hi; rw [upd_same, hT, hxy]
  ·rw [upd_other _ _ _ _ hi]
 rwa [e] at h1
theorem WU_ob {H' : List Ob} (hH : H' = H) (h1 : WU P B n ops cl l T H' K) : WU P B n ops cl l T H K := by subst hH; exact h1
theorem WU_rd (b : Nat) {ob : Ob} (h0 : ops[i]? = some o) (hc : cl i = 4 + 2 * b) (hd : nfD n o.dst = some d) (hw : wantedA ops T o = some true) (hb : H[b]? = some ob) (h : ∀ H2 : List Ob, H2[b]? = some ob → Does P B o T H2 x H2) (k : WU P B n ops cl l (updD d x T) H K) : WU P B n ops cl (i :: l) T H K := by
 have hk : blk (4 + 2 * b) = b := by unfold blk; omega
 exact ⟨o, h0, x, H, .inl ⟨hw, .inl (h H hb)⟩, by rw [hc]; exact FU.of_rd (by simp only [rdB, Bool.and_eq_true, Nat.ble_eq, Nat.beq_eq]; omega) ⟨rfl, by rw [hk]; exact lt_of_get hb, fun H2 h2 => .inl ⟨hw, .inl (h H2 (by rw [hk, hb] at h2; exact h2))⟩⟩, (nfD_eq hd).1 ▸ k⟩
theorem WU_wr (b : Nat) {ob : Ob} (hG : tysOk P G = true) (h0 : ops[i]? = some o) (hc : cl i = 5 + 2 * b) (hd : nfD n o.dst = some d) (hw : wantedA ops T o = some true) (h : evN G T H o.type o.op = some (x, H', p)) (hp : p) (hH : H' = H.set b ob) (k : WU P B n ops cl l (updD d x T) H' K) : WU P B n ops cl (i :: l) T H K := by
 have hk : blk (5 + 2 * b) = b := by unfold blk; omega
 exact ⟨o, h0, x, H', .inl ⟨hw, .inl (evOp_ok hG rfl (evN_ok h) hp)⟩, by rw [hc]; exact FU.of_wr (by simp only [wrB, Bool.and_eq_true, Nat.ble_eq, Nat.beq_eq]; omega) ⟨ob, by rw [hk]; exact hH⟩, (nfD_eq hd).1 ▸ k⟩
theorem WU_wrC (b : Nat) {ob : Ob} (h0 : ops[i]? = some o) (hc : cl i = 5 + 2 * b) (hd : nfD n o.dst = some d) (hw : wantedA ops T o = some true) (h : DoesC P B o T H x H') (hH : H' = H.set b ob) (k : WU P B n ops cl l (updD d x T) H' K) : WU P B n ops cl (i :: l) T H K := by
 have hk : blk (5 + 2 * b) = b := by unfold blk; omega
 exact ⟨o, h0, x, H', .inl ⟨hw, .inr h⟩, by rw [hc]; exact FU.of_wr (by simp only [wrB, Bool.and_eq_true, Nat.ble_eq, Nat.beq_eq]; omega) ⟨ob, by rw [hk]; exact hH⟩, (nfD_eq hd).1 ▸ k⟩
end
end V
end Go.Proofs.YtphgdofmjpdhaaaGreat
namespace Go.Proofs.YtphgdofmjpdhaaaGreat
open Go.RowKit
set_option linter.unusedVariables false
set_option maxRecDepth 100000
set_option maxHeartbeats 4000000
def vmPrint (v : VVm) (s : Str) : VVm × Int := if (s.length : Int) > v.conf.out - v.out.length then (v, -260) else ({ v with out := v.out ++ s }, 0)
def tVm (r : VVm × Int) : PV := tup2 (eVm r.1) (i64 r.2)
@[simp] theorem flat_tVm (r : VVm × Int) : Flat (tVm r) := by simp [tVm]
theorem sq_append_str {l m : Str} {k : SK} : PV.seq (l.length + (⟨m.toArray⟩ : ByteArray).size) (l.flatMap cByte ++ (⟨m.toArray⟩ : ByteArray).data.toList.map fun b => byteP b.toNat) k = .seq (l ++ m).length ((l ++ m).flatMap cByte) k := by
 have h : (⟨m.toArray⟩ : ByteArray).data.toList.map (fun b => byteP b.toNat) = m.flatMap cByte := by rw [cByte_map, List.map_map]; rfl
 rw [str_size, h, ← List.flatMap_append, List.length_append]
theorem vm_Print (v : VVm) (s : Str) (hc : 0 ≤ v.conf.out ∧ v.conf.out ≤ 1000000) (ho : v.out.length ≤ 1000000) (hs : s.length ≤ 140737488355328) : PureC Tryz.prog 228 [eVm v, str s] (tVm (vmPrint v s)) := by
 have w1 : IntKind.i64.wrap (v.conf.out - v.out.length) = v.conf.out - v.out.length := by (first | omega | (simp only [dnL] at *; omega) | (rw [i64w]; unfold wrap64; (try simp only [dnL] at *); omega))
 refine pW tG (rs := [.cell 4 36, .tmp 5]) Tryz.func228 rfl rfl rfl (by simp) (by simp) (fun B => ?_)
 refine Ws ?_
 refine W_region rfl ?_
 iterate 3 refine We tG rfl rfl rfl trivial ?_
 refine Wn ?_
 iterate 2 refine Ws ?_
 refine W_region rfl ?_
 iterate 2 refine We tG rfl rfl rfl trivial ?_
 refine Wa 7 rfl (str_len _) ?_
 iterate 8 refine We tG rfl rfl rfl trivial ?_
 refine Wn ?_
 refine Wi rfl (fun hi1 => ?_) (fun hi1 => ?_)
 ·have h0 : (s.length : Int) > v.conf.out - v.out.length := by (try simp only [dnL] at *); omega
  refine Ws ?_
  refine W_region rfl ?_
  iterate 3 refine We tG rfl rfl rfl trivial ?_
  refine Wn ?_
  refine Wq ?_
  refine lP rfl ?_
  rw [vmPrint, if_pos h0]; rfl
 ·have h0 : ¬ (s.length : Int) > v.conf.out - v.out.length := by (try simp only [dnL] at *); omega
  have h1 : (⟨s.toArray⟩ : ByteArray).size = s.length := str_size s
  refine Wj ?_
  refine Ws ?_
  refine W_region rfl ?_
  iterate 2 refine We tG rfl rfl rfl trivial ?_
  refine Wc rfl rfl (dC rfl Tryz.func258 rfl rfl ((clip_bytes v.out (by omega)) _)) ?_
  refine We tG rfl rfl rfl trivial ?_
  first | refine Wd rfl rfl (does_append_clip (lO tG rfl) rfl (lO tG rfl) (lO tG rfl) rfl rfl (by first | exact ⟨_, rfl⟩ | rfl) (by first | exact ⟨rfl, rfl, flatMap_len _ 1 (fun _ => rfl) _, okC_flat _ (fun _ => rfl) _⟩ | exact ⟨rfl, rfl, by simp, by simp [okC]⟩ | exact ⟨rfl, rfl, rfl⟩) (by first | exact flatMap_len _ 1 (fun _ => rfl) _ | rfl | simp) (by first | (dsimp only; omega) | (first | exact trivial | omega | (simp only [dnL] at *; omega) | (simp_all; done) | (simp_all; omega))) (by first | (dsimp only; omega) | (first | exact trivial | omega | (simp only [dnL] at *; omega) | (simp_all; done) | (simp_all; omega)))) ?_ | refine Wd rfl rfl (does_append_own (lO tG rfl) rfl (lO tG rfl) (lO tG rfl) rfl rfl rfl rfl (by simp) (by first | exact ⟨_, rfl⟩ | rfl) (by first | exact ⟨rfl, rfl, flatMap_len _ 1 (fun _ => rfl) _, okC_flat _ (fun _ => rfl) _⟩ | exact ⟨rfl, rfl, by simp, by simp [okC]⟩ | exact ⟨rfl, rfl, rfl⟩) (by first | (dsimp only; omega) | (first | exact trivial | omega | (simp only [dnL] at *; omega) | (simp_all; done) | (simp_all; omega))) (by first | (dsimp only; omega) | (first | exact trivial | omega | (simp only [dnL] at *; omega) | (simp_all; done) | (simp_all; omega)))) ?_
  refine Wa 21 rfl (sq_append_str) ?_
  iterate 2 refine We tG rfl rfl rfl trivial ?_
  refine Wn ?_
  refine Ws ?_
  refine W_region rfl ?_
  iterate 3 refine We tG rfl rfl rfl trivial ?_
  refine Wn ?_
  refine Wq ?_
  refine lP rfl ?_
  rw [vmPrint, if_neg h0]; rfl
end Go.Proofs.YtphgdofmjpdhaaaGreat
namespace Go.Proofs.YtphgdofmjpdhaaaGreat
open Go.RowKit
set_option linter.unusedVariables false
set_option maxRecDepth 100000
set_option maxHeartbeats 4000000
theorem stepB_of {b : List UInt8} {k n : Nat} {p q : Prop} [Decidable p] [Decidable q] (hn : nval k = n) (h1 : (allN.getD k [] = [40, 104, 97, 108, 116, 41]) = p) (h2 : (allN.getD k [] = [40, 99, 97, 117, 103, 104, 116, 41]) = q) :
  stepB b k = if q then put2 (if p then put2 (put2 b (32 + 8 * k) n) 16 (32 + 8 * k) else put2 b (32 + 8 * k) n) 24 (32 + 8 * k) else (if p then put2 (put2 b (32 + 8 * k) n) 16 (32 + 8 * k) else put2 b (32 + 8 * k) n) := by
 subst h1 h2 hn
 unfold stepB
 simp only
 split <;> split <;> simp_all
theorem ar_1 {k : Nat} (h : k < 167) : IntKind.i64.wrap (32 + IntKind.i64.wrap (8 * (k : Int))) = ((32 + 8 * k : Nat) : Int) := by simp only [i64w]; unfold wrap64; omega
theorem ar_2 {k n : Nat} (h : k < 167) (hn : n = 130) (h3 : 130 ≤ k) : IntKind.i64.wrap (IntKind.i64.wrap (300 + (k : Int)) - (n : Int)) = ((170 + k : Nat) : Int) := by subst hn; simp only [i64w]; unfold wrap64; omega
theorem ar_3 {k : Nat} (h : k < 167) : IntKind.i64.wrap (((32 + 8 * k : Nat) : Int) + 1) = ((32 + 8 * k + 1 : Nat) : Int) := by simp only [i64w]; unfold wrap64; omega
theorem newW (k : Nat) {q : SK} : PV.seq (newL k ++ [wordN k]).length ((newL k ++ [wordN k]).flatMap cWord) q = .seq (newL (k + 1)).length ((newL (k + 1)).flatMap cWord) q := by rw [newL_succ]
theorem frz_b {M : Nat} {b : List UInt8} (h : b.length = M) : PV.seq M ((b.flatMap cByte).take M) .any = sq cByte b := by rw [cB_take, List.take_of_length_le (by omega), ← h]; rfl
def vmOf (c : VConf) (b : List UInt8) (l : List VWord) : VVm := { conf := c, mem := ⟨b, []⟩, here := 1368, d := [], r := [], f := [], dict := l, last := 0, out := [], pic := ⟨[], false⟩, req := [], free := 0, next := 0, arg := 0, self := 0, now := 0, hand := [] }
theorem newVm_of (c : VConf) : newVm c = vmOf c (newB c.mem.toNat 167) (newL 167) := rfl
theorem ref_New (c : VConf) (hc : fitsV c) : PureC Tryz.prog 44 [eConf c] (tVm (newVm c, 0)) := by
 have hM : 2048 ≤ c.mem ∧ c.mem ≤ 65536 := ⟨hc.1, hc.2.1⟩
 obtain ⟨M, hMe⟩ : ∃ M : Nat, c.mem = M := ⟨c.mem.toNat, by omega⟩
 have hMt : c.mem.toNat = M := by omega
 have hN := names_len
 have hS := specials_len
 have hA := allN_len
 have hD : decide (fitsV c) = true := decide_eq_true hc
 refine pW tG (rs := [.cell 2 36, .tmp 3]) Tryz.func44 rfl rfl rfl (by simp) (by simp) (fun B => ?_)
 refine Ws ?_
 refine W_region rfl ?_
 iterate 3 refine We tG rfl rfl rfl trivial ?_
 refine Wn ?_
 refine Ws ?_
 refine W_region rfl ?_
 refine We tG rfl rfl rfl trivial ?_
 refine Wc rfl rfl (dC rfl Tryz.func40 rfl rfl ((ref_Fits c) _)) ?_
 refine We tG rfl rfl rfl trivial ?_
 refine Wn ?_
 iterate 2 refine Ws ?_
 refine W_region rfl ?_
 iterate 2 refine We tG rfl rfl rfl trivial ?_
 refine Wn ?_
 refine Wf rfl (by rw [hD]; rfl) ?_
 refine Wj ?_
 refine Ws ?_
 refine W_region rfl ?_
 iterate 2 refine We tG rfl rfl rfl trivial ?_
 refine We tG rfl rfl rfl (by first | exact trivial | omega | (simp only [dnL] at *; omega) | (simp_all; done) | (simp_all; omega)) ?_
 refine WO_obI 2 rfl (zeros_b rfl) rfl ?_
 refine Wa 18 rfl (show PV.arr 2 0 c.mem.toNat c.mem.toNat = .arr 2 0 M M by rw [hMt]) ?_
 refine WO_obI 2 rfl (show Ob.cells ((List.replicate c.mem.toNat (0 : UInt8)).flatMap cByte) 5 = .cells ((List.replicate M (0 : UInt8)).flatMap cByte) 5 by rw [hMt]) rfl ?_
 refine We tG rfl rfl rfl trivial ?_
 refine Wn ?_
 refine Ws ?_
 refine W_region rfl ?_
 refine We tG rfl rfl rfl trivial ?_
 refine We tG rfl rfl rfl (by omega) ?_
 refine Wd rfl rfl (does_store (lO tG rfl) rfl rfl rfl rfl rfl rfl (by rw [Nat.ble_eq, cB_len]; simp; omega)) ?_
 refine WO_obI 2 rfl (congrArg (fun z => Ob.cells z 5) (splice_at (x := 10) (n := 0) rfl (by simp; omega))) rfl ?_
 refine Wn ?_
 refine Ws ?_
 refine W_region rfl ?_
 refine Wc rfl rfl (dC rfl Tryz.func30 rfl rfl ((ref_NamesC) _)) ?_
 refine Wc rfl rfl (dC rfl Tryz.func77 rfl rfl ((ref_Specials) _)) ?_
 first | refine Wd rfl rfl (does_append_clip (lO tG rfl) rfl (lO tG rfl) (lO tG rfl) rfl rfl (by first | exact ⟨_, rfl⟩ | rfl) (by first | exact ⟨rfl, rfl, flatMap_len _ 1 (fun _ => rfl) _, okC_flat _ (fun _ => rfl) _⟩ | exact ⟨rfl, rfl, by simp, by simp [okC]⟩ | exact ⟨rfl, rfl, rfl⟩) (by first | exact flatMap_len _ 1 (fun _ => rfl) _ | rfl | simp) (by first | (dsimp only; omega) | (rw [hN, hS]; decide)) (by first | (dsimp only; omega) | (rw [hN, hS]; decide))) ?_ | refine Wd rfl rfl (does_append_own (lO tG rfl) rfl (lO tG rfl) (lO tG rfl) rfl rfl rfl rfl (by simp) (by first | exact ⟨_, rfl⟩ | rfl) (by first | exact ⟨rfl, rfl, flatMap_len _ 1 (fun _ => rfl) _, okC_flat _ (fun _ => rfl) _⟩ | exact ⟨rfl, rfl, by simp, by simp [okC]⟩ | exact ⟨rfl, rfl, rfl⟩) (by first | (dsimp only; omega) | (rw [hN, hS]; decide)) (by first | (dsimp only; omega) | (rw [hN, hS]; decide))) ?_
 first | refine Wa 23 rfl (sq_append cStr) ?_ | refine Wa 23 rfl (sq_snoc cStr _) ?_ | refine Wa 23 rfl (sq_one cStr _) ?_ | refine Wa 23 rfl (sq_none cStr) ?_
 refine Wm 23 rfl (imp_seq _ _ _) ?_
 refine We tG rfl rfl rfl trivial ?_
 refine Wn ?_
 refine Ws ?_
 refine W_region rfl ?_
 refine We tG rfl rfl rfl trivial ?_
 first | refine WO_own 7 0 3 rfl rfl ?_ | skip
 refine Wn ?_
 iterate 2 refine Ws ?_
 refine W_region rfl ?_
 refine We tG rfl rfl rfl trivial ?_
 refine Wn ?_
 refine Wl ?_
 show W _ _ _ _ _ _ _
 refine W_loopS (fun (k : Nat) => [(1, .ptr 0 0), (2, .ptr 1 0), (5, .arr 2 0 M M), (6, sq cStr allN), (7, .seq (newL k).length ((newL k).flatMap cWord) (.own 5 3)), (8, i64 k)]) (fun (k : Nat) => [.cells (cConf c) 23, .cells vmZ 36, .cells ((newB M k).flatMap cByte) 5, .dead, .dead]) (fun (k : Nat) => [.free ((newL k).length * 3)]) (fun (k : Nat) => k ≤ 167) (fun (k : Nat) => 167 - k) (0) (by omega) [4] ?_ ?_
 ·exact ⟨rfl, ⟨(by repeat (first | exact reBase_nil | refine rB (.inl rfl) ?_ | refine rB (.inr rfl) ?_)), (by repeat (first | exact reX_nil | refine rX rfl ?_ | refine rX (by refine congrArg (fun q => some (Ob.free q)) ?_; simp <;> omega) ?_)), (by decide), (by repeat (first | exact moved_nil | refine mC (.inl (Nat.le_of_ble_eq_true rfl)) ?_ | refine mC (.inr rfl) ?_)), (by repeat (first | exact nlo_nil | exact nO nlo_nil | refine nlo_cells (by first | (refine nF ?_; simp; done) | (refine nF (flatL_map' ?_ _); intro x; simp; done) | (simp [NL1L, NL1]; done)) ?_ | refine nO ?_ | refine nlo_dead ?_ | refine nlo_iter ?_ | refine nlo_smap (by first | (refine nF ?_; simp; done) | (refine nF (flatL_map' ?_ _); intro x; simp; done) | (simp [NL1L, NL1]; done)) ?_))⟩, (by repeat (first | exact subL_nil | refine subL_cons (by first | exact imp_of rfl | exact imp_seq _ _ _ | exact imp_of (congrArg i64 (by first | (rw [i64w]; unfold wrap64; omega) | omega | (simp; done)))) ?_)), (by repeat (first | exact nls_nil | refine nls_cons (by first | (refine nl_flat ?_; simp; done) | (show _ < _; first | decide | (simp; done)) | (refine ⟨?_, flatL_map' ?_ _⟩ <;> first | decide | (intro x; simp; done) | (simp; done)) | (refine ⟨?_, ?_⟩ <;> first | decide | (simp; done)) | (simp [NL, NL1L, NL1]; done)) ?_))⟩
 ·intro k hk
  iterate 2 refine Ws ?_
  refine W_region rfl ?_
  iterate 4 refine We tG rfl rfl rfl trivial ?_
  refine Wn ?_
  refine Wi rfl (fun hi2 => ?_) (fun hi2 => ?_)
  ·have hlt : k < 167 := by have := of_decide_eq_true hi2; rw [hA] at this; omega
   have hB := newB_len M k
   have hL := newL_len k
   have w1 := ar_1 hlt
   have w3 := ar_3 hlt
   refine Wj ?_
   refine Ws ?_
   refine Wl ?_
   refine Ws ?_
   refine W_region rfl ?_
   iterate 3 refine We tG rfl rfl rfl trivial ?_
   refine Wa 32 rfl (congrArg (fun z => PV.val (Value.int .i64 z)) w1) ?_
   refine We tG rfl rfl rfl trivial ?_
   refine Wn ?_
   refine Ws ?_
   refine W_region rfl ?_
   iterate 2 refine We tG rfl rfl rfl trivial ?_
   refine Wn ?_
   iterate 2 refine Ws ?_
   refine W_region rfl ?_
   refine We tG rfl rfl rfl trivial ?_
   refine Wc rfl rfl (dC rfl Tryz.func30 rfl rfl ((ref_Names) _)) ?_
   iterate 2 refine We tG rfl rfl rfl trivial ?_
   refine Wn ?_
   refine Wi rfl (fun hi3 => ?_) (fun hi3 => ?_)
   ·have hk3 : 130 ≤ k := by have := of_decide_eq_true hi3; rw [hN] at this; omega
    have w2 := ar_2 hlt hN hk3
    have hn : nval k = 170 + k := by unfold nval; rw [if_pos hk3]
    refine W_region rfl ?_
    iterate 2 refine We tG rfl rfl rfl trivial ?_
    refine Wc rfl rfl (dC rfl Tryz.func30 rfl rfl ((ref_Names) _)) ?_
    iterate 2 refine We tG rfl rfl rfl trivial ?_
    refine Wa 42 rfl (congrArg (fun z => PV.val (Value.int .i64 z)) w2) ?_
    refine We tG rfl rfl rfl trivial ?_
    refine Wn ?_
    refine Ws ?_
    refine W_region rfl ?_
    iterate 5 refine We tG rfl rfl rfl trivial ?_
    refine Wa 47 rfl (u8_mod _) ?_
    refine We tG rfl rfl rfl (by omega) ?_
    refine Wd rfl rfl (does_store (lO tG rfl) rfl rfl rfl rfl rfl rfl (by rw [Nat.ble_eq, cB_len, hB]; (try dsimp only); simp; omega)) ?_
    refine WO_obI 2 rfl (congrArg (fun z => Ob.cells z 5) (splice_at rfl (by omega))) rfl ?_
    refine Wn ?_
    refine Ws ?_
    refine W_region rfl ?_
    iterate 3 refine We tG rfl rfl rfl trivial ?_
    refine Wa 51 rfl (congrArg (fun z => PV.val (Value.int .i64 z)) w3) ?_
    iterate 3 refine We tG rfl rfl rfl trivial ?_
    refine Wa 54 rfl (u8_quo _ (by omega)) ?_
    refine We tG rfl rfl rfl (by omega) ?_
    refine Wd rfl rfl (does_store (lO tG rfl) rfl rfl rfl rfl rfl rfl (by rw [Nat.ble_eq, cB_len, List.length_set, hB]; (try dsimp only); simp; omega)) ?_
    refine WO_obI 2 rfl (congrArg (fun z => Ob.cells z 5) (splice_at rfl (by rw [List.length_set]; omega))) rfl ?_
    refine Wn ?_
    refine Ws ?_
    refine W_drawU [0, 0, 0, 0, 0, 0, 0, 0, 0, 0, 0, 0, 0, 0, 3, 0] [0, 1, 2, 3, 4, 5, 6, 7, 8, 9, 10, 11, 12, 13, 14, 15] mG rfl (by kernel_rfl) ?_
    refine Xe tG rfl rfl rfl rfl (fun _ => rfl) trivial ?_
    refine Xe tG rfl rfl rfl rfl (fun _ => rfl) trivial ?_
    refine Xe tG rfl rfl rfl rfl (fun _ => rfl) trivial ?_
    first | refine Xi tG rfl rfl rfl rfl (fun _ => rfl) (by first | exact trivial | omega | (simp only [dnL] at *; omega) | (simp_all; done) | (simp_all; omega)) (iN cStr 1 (fun _ => rfl) [] (by first | exact trivial | omega | (simp only [dnL] at *; omega) | (simp_all; done) | (simp_all; omega))) ?_ | refine Xi tG rfl rfl rfl rfl (fun _ => rfl) (by first | exact trivial | omega | (simp only [dnL] at *; omega) | (simp_all; done) | (simp_all; omega)) (iR cStr 1 (fun _ => rfl) [] (by first | exact trivial | omega | (simp only [dnL] at *; omega) | (simp_all; done) | (simp_all; omega))) ?_
    refine Xe tG rfl rfl rfl rfl (fun _ => rfl) trivial ?_
    refine Xe tG rfl rfl rfl rfl (fun _ => rfl) trivial ?_
    refine Xe tG rfl rfl rfl rfl (fun _ => rfl) trivial ?_
    refine Xe tG rfl rfl rfl rfl (fun _ => rfl) trivial ?_
    first | refine Xi tG rfl rfl rfl rfl (fun _ => rfl) (by first | exact trivial | omega | (simp only [dnL] at *; omega) | (simp_all; done) | (simp_all; omega)) (iN cStr 1 (fun _ => rfl) [] (by first | exact trivial | omega | (simp only [dnL] at *; omega) | (simp_all; done) | (simp_all; omega))) ?_ | refine Xi tG rfl rfl rfl rfl (fun _ => rfl) (by first | exact trivial | omega | (simp only [dnL] at *; omega) | (simp_all; done) | (simp_all; omega)) (iR cStr 1 (fun _ => rfl) [] (by first | exact trivial | omega | (simp only [dnL] at *; omega) | (simp_all; done) | (simp_all; omega))) ?_
    refine Xe tG rfl rfl rfl rfl (fun _ => rfl) trivial ?_
    refine Xe tG rfl rfl rfl rfl (fun _ => rfl) trivial ?_
    refine Xc rfl rfl rfl rfl (fun _ => dC rfl Tryz.func78 rfl rfl ((ref_flags _ k) _)) ?_
    refine Xe tG rfl rfl rfl rfl (fun _ => rfl) trivial ?_
    refine Xe tG rfl rfl rfl rfl (fun _ => rfl) trivial ?_
    refine Xa 69 rfl ((show PV.seq 1 _ .clip = .seq (List.length [wordN k]) (List.flatMap cWord [wordN k]) .clip from rfl)) ?_
    refine WU_does3 rfl rfl rfl rfl (does_append_own (lO tG rfl) rfl (lO tG rfl) (lO tG rfl) rfl rfl rfl rfl (by simp) (by first | exact ⟨_, rfl⟩ | rfl) (by first | exact ⟨rfl, rfl, flatMap_len _ 3 (fun _ => rfl) _, okC_flat _ (fun _ => rfl) _⟩ | exact ⟨rfl, rfl, by simp, by simp [okC]⟩ | exact ⟨rfl, rfl, rfl⟩) (by first | (dsimp only; omega) | (rw [hL]; dsimp only; simp; omega) | (simp; omega)) (by first | (dsimp only; omega) | (rw [hL]; dsimp only; simp; omega) | (simp; omega))) ?_
    first | refine Xa 70 rfl (sq_append cWord) ?_ | refine Xa 70 rfl (sq_snoc cWord _) ?_ | refine Xa 70 rfl (sq_one cWord _) ?_ | refine Xa 70 rfl (sq_none cWord) ?_
    refine Xe tG rfl rfl rfl rfl (fun _ => rfl) trivial ?_
    first | refine WO_own 7 0 3 rfl rfl ?_ | skip
    refine WU_nil ?_
    iterate 2 refine Ws ?_
    refine W_region rfl ?_
    iterate 2 refine We tG rfl rfl rfl trivial ?_
    first | refine Wv tG rfl rfl rfl (by first | exact trivial | omega | (simp only [dnL] at *; omega) | (simp_all; done) | (simp_all; omega)) (iN cStr 1 (fun _ => rfl) [] (by first | exact trivial | omega | (simp only [dnL] at *; omega) | (simp_all; done) | (simp_all; omega))) ?_ | refine Wv tG rfl rfl rfl (by first | exact trivial | omega | (simp only [dnL] at *; omega) | (simp_all; done) | (simp_all; omega)) (iR cStr 1 (fun _ => rfl) [] (by first | exact trivial | omega | (simp only [dnL] at *; omega) | (simp_all; done) | (simp_all; omega))) ?_
    iterate 2 refine We tG rfl rfl rfl trivial ?_
    refine Wa 75 rfl (str_eql _ _) ?_
    refine Wn ?_
    refine Wi rfl (fun hi4 => ?_) (fun hi4 => ?_)
    ·have h1 : (allN.getD k [] = [40, 104, 97, 108, 116, 41]) = True := eq_true (of_decide_eq_true hi4)
     refine Ws ?_
     refine W_region rfl ?_
     iterate 4 refine We tG rfl rfl rfl trivial ?_
     refine Wa 79 rfl (u8_mod _) ?_
     refine We tG rfl rfl rfl (by omega) ?_
     refine Wd rfl rfl (does_store (lO tG rfl) rfl rfl rfl rfl rfl rfl (by rw [Nat.ble_eq, cB_len]; simp only [List.length_set, hB]; (try dsimp only); simp; omega)) ?_
     refine WO_obI 2 rfl (congrArg (fun z => Ob.cells z 5) (splice_at rfl (by simp only [List.length_set]; omega))) rfl ?_
     refine Wn ?_
     refine W_region rfl ?_
     iterate 4 refine We tG rfl rfl rfl trivial ?_
     refine Wa 84 rfl (u8_quo _ (by omega)) ?_
     refine We tG rfl rfl rfl (by omega) ?_
     refine Wd rfl rfl (does_store (lO tG rfl) rfl rfl rfl rfl rfl rfl (by rw [Nat.ble_eq, cB_len]; simp only [List.length_set, hB]; (try dsimp only); simp; omega)) ?_
     refine WO_obI 2 rfl (congrArg (fun z => Ob.cells z 5) (splice_at rfl (by simp only [List.length_set]; omega))) rfl ?_
     refine Wn ?_
     refine Ws ?_
     refine W_region rfl ?_
     iterate 2 refine We tG rfl rfl rfl trivial ?_
     first | refine Wv tG rfl rfl rfl (by first | exact trivial | omega | (simp only [dnL] at *; omega) | (simp_all; done) | (simp_all; omega)) (iN cStr 1 (fun _ => rfl) [] (by first | exact trivial | omega | (simp only [dnL] at *; omega) | (simp_all; done) | (simp_all; omega))) ?_ | refine Wv tG rfl rfl rfl (by first | exact trivial | omega | (simp only [dnL] at *; omega) | (simp_all; done) | (simp_all; omega)) (iR cStr 1 (fun _ => rfl) [] (by first | exact trivial | omega | (simp only [dnL] at *; omega) | (simp_all; done) | (simp_all; omega))) ?_
     iterate 2 refine We tG rfl rfl rfl trivial ?_
     refine Wa 90 rfl (str_eql _ _) ?_
     refine Wn ?_
     refine Wi rfl (fun hi5 => ?_) (fun hi5 => ?_)
     ·have h2 : (allN.getD k [] = [40, 99, 97, 117, 103, 104, 116, 41]) = True := eq_true (of_decide_eq_true hi5)
      refine Ws ?_
      refine W_region rfl ?_
      iterate 4 refine We tG rfl rfl rfl trivial ?_
      refine Wa 94 rfl (u8_mod _) ?_
      refine We tG rfl rfl rfl (by omega) ?_
      refine Wd rfl rfl (does_store (lO tG rfl) rfl rfl rfl rfl rfl rfl (by rw [Nat.ble_eq, cB_len]; simp only [List.length_set, hB]; (try dsimp only); simp; omega)) ?_
      refine WO_obI 2 rfl (congrArg (fun z => Ob.cells z 5) (splice_at rfl (by simp only [List.length_set]; omega))) rfl ?_
      refine Wn ?_
      refine W_region rfl ?_
      iterate 4 refine We tG rfl rfl rfl trivial ?_
      refine Wa 99 rfl (u8_quo _ (by omega)) ?_
      refine We tG rfl rfl rfl (by omega) ?_
      refine Wd rfl rfl (does_store (lO tG rfl) rfl rfl rfl rfl rfl rfl (by rw [Nat.ble_eq, cB_len]; simp only [List.length_set, hB]; (try dsimp only); simp; omega)) ?_
      refine WO_obI 2 rfl (congrArg (fun z => Ob.cells z 5) (splice_at rfl (by simp only [List.length_set]; omega))) rfl ?_
      refine Wn ?_
      refine W_region rfl ?_
      refine We tG rfl rfl rfl trivial ?_
      refine WO_obI 2 rfl (congrArg (fun z => Ob.cells (List.flatMap cByte z) 5) (show _ = newB M (k + 1) from (stepB_of hn h1 h2).symm)) rfl ?_
      iterate 2 refine We tG rfl rfl rfl trivial ?_
      refine Wn ?_
      exact ⟨k + 1, [6], (by omega), (by omega), ⟨rfl, ⟨(by repeat (first | exact reBase_nil | refine rB (.inl rfl) ?_ | refine rB (.inr rfl) ?_)), (by repeat (first | exact reX_nil | refine rX rfl ?_ | refine rX (by refine congrArg (fun q => some (Ob.free q)) ?_; simp <;> omega) ?_)), (by decide), (by repeat (first | exact moved_nil | refine mC (.inl (Nat.le_of_ble_eq_true rfl)) ?_ | refine mC (.inr rfl) ?_)), (by repeat (first | exact nlo_nil | exact nO nlo_nil | refine nlo_cells (by first | (refine nF ?_; simp; done) | (refine nF (flatL_map' ?_ _); intro x; simp; done) | (simp [NL1L, NL1]; done)) ?_ | refine nO ?_ | refine nlo_dead ?_ | refine nlo_iter ?_ | refine nlo_smap (by first | (refine nF ?_; simp; done) | (refine nF (flatL_map' ?_ _); intro x; simp; done) | (simp [NL1L, NL1]; done)) ?_))⟩, (by repeat (first | exact subL_nil | refine subL_cons (by first | exact imp_of rfl | exact imp_seq _ _ _ | exact imp_of (newW k) | exact imp_of (congrArg i64 (by first | (rw [i64w]; unfold wrap64; omega) | omega | (simp; done)))) ?_)), (by repeat (first | exact nls_nil | refine nls_cons (by first | (refine nl_flat ?_; simp; done) | (show _ < _; first | decide | (simp; done)) | (refine ⟨?_, flatL_map' ?_ _⟩ <;> first | decide | (intro x; simp; done) | (simp; done)) | (refine ⟨?_, ?_⟩ <;> first | decide | (simp; done)) | (simp [NL, NL1L, NL1]; done)) ?_))⟩⟩
     ·have h2 : (allN.getD k [] = [40, 99, 97, 117, 103, 104, 116, 41]) = False := eq_false (of_decide_eq_false hi5)
      refine Wj ?_
      refine W_region rfl ?_
      refine We tG rfl rfl rfl trivial ?_
      refine WO_obI 2 rfl (congrArg (fun z => Ob.cells (List.flatMap cByte z) 5) (show _ = newB M (k + 1) from (stepB_of hn h1 h2).symm)) rfl ?_
      iterate 2 refine We tG rfl rfl rfl trivial ?_
      refine Wn ?_
      exact ⟨k + 1, [6], (by omega), (by omega), ⟨rfl, ⟨(by repeat (first | exact reBase_nil | refine rB (.inl rfl) ?_ | refine rB (.inr rfl) ?_)), (by repeat (first | exact reX_nil | refine rX rfl ?_ | refine rX (by refine congrArg (fun q => some (Ob.free q)) ?_; simp <;> omega) ?_)), (by decide), (by repeat (first | exact moved_nil | refine mC (.inl (Nat.le_of_ble_eq_true rfl)) ?_ | refine mC (.inr rfl) ?_)), (by repeat (first | exact nlo_nil | exact nO nlo_nil | refine nlo_cells (by first | (refine nF ?_; simp; done) | (refine nF (flatL_map' ?_ _); intro x; simp; done) | (simp [NL1L, NL1]; done)) ?_ | refine nO ?_ | refine nlo_dead ?_ | refine nlo_iter ?_ | refine nlo_smap (by first | (refine nF ?_; simp; done) | (refine nF (flatL_map' ?_ _); intro x; simp; done) | (simp [NL1L, NL1]; done)) ?_))⟩, (by repeat (first | exact subL_nil | refine subL_cons (by first | exact imp_of rfl | exact imp_seq _ _ _ | exact imp_of (newW k) | exact imp_of (congrArg i64 (by first | (rw [i64w]; unfold wrap64; omega) | omega | (simp; done)))) ?_)), (by repeat (first | exact nls_nil | refine nls_cons (by first | (refine nl_flat ?_; simp; done) | (show _ < _; first | decide | (simp; done)) | (refine ⟨?_, flatL_map' ?_ _⟩ <;> first | decide | (intro x; simp; done) | (simp; done)) | (refine ⟨?_, ?_⟩ <;> first | decide | (simp; done)) | (simp [NL, NL1L, NL1]; done)) ?_))⟩⟩
    ·have h1 : (allN.getD k [] = [40, 104, 97, 108, 116, 41]) = False := eq_false (of_decide_eq_false hi4)
     refine Wj ?_
     refine Ws ?_
     refine W_region rfl ?_
     iterate 2 refine We tG rfl rfl rfl trivial ?_
     first | refine Wv tG rfl rfl rfl (by first | exact trivial | omega | (simp only [dnL] at *; omega) | (simp_all; done) | (simp_all; omega)) (iN cStr 1 (fun _ => rfl) [] (by first | exact trivial | omega | (simp only [dnL] at *; omega) | (simp_all; done) | (simp_all; omega))) ?_ | refine Wv tG rfl rfl rfl (by first | exact trivial | omega | (simp only [dnL] at *; omega) | (simp_all; done) | (simp_all; omega)) (iR cStr 1 (fun _ => rfl) [] (by first | exact trivial | omega | (simp only [dnL] at *; omega) | (simp_all; done) | (simp_all; omega))) ?_
     iterate 2 refine We tG rfl rfl rfl trivial ?_
     refine Wa 90 rfl (str_eql _ _) ?_
     refine Wn ?_
     refine Wi rfl (fun hi5 => ?_) (fun hi5 => ?_)
     ·have h2 : (allN.getD k [] = [40, 99, 97, 117, 103, 104, 116, 41]) = True := eq_true (of_decide_eq_true hi5)
      refine Ws ?_
      refine W_region rfl ?_
      iterate 4 refine We tG rfl rfl rfl trivial ?_
      refine Wa 94 rfl (u8_mod _) ?_
      refine We tG rfl rfl rfl (by omega) ?_
      refine Wd rfl rfl (does_store (lO tG rfl) rfl rfl rfl rfl rfl rfl (by rw [Nat.ble_eq, cB_len]; simp only [List.length_set, hB]; (try dsimp only); simp; omega)) ?_
      refine WO_obI 2 rfl (congrArg (fun z => Ob.cells z 5) (splice_at rfl (by simp only [List.length_set]; omega))) rfl ?_
      refine Wn ?_
      refine W_region rfl ?_
      iterate 4 refine We tG rfl rfl rfl trivial ?_
      refine Wa 99 rfl (u8_quo _ (by omega)) ?_
      refine We tG rfl rfl rfl (by omega) ?_
      refine Wd rfl rfl (does_store (lO tG rfl) rfl rfl rfl rfl rfl rfl (by rw [Nat.ble_eq, cB_len]; simp only [List.length_set, hB]; (try dsimp only); simp; omega)) ?_
      refine WO_obI 2 rfl (congrArg (fun z => Ob.cells z 5) (splice_at rfl (by simp only [List.length_set]; omega))) rfl ?_
      refine Wn ?_
      refine W_region rfl ?_
      refine We tG rfl rfl rfl trivial ?_
      refine WO_obI 2 rfl (congrArg (fun z => Ob.cells (List.flatMap cByte z) 5) (show _ = newB M (k + 1) from (stepB_of hn h1 h2).symm)) rfl ?_
      iterate 2 refine We tG rfl rfl rfl trivial ?_
      refine Wn ?_
      exact ⟨k + 1, [6], (by omega), (by omega), ⟨rfl, ⟨(by repeat (first | exact reBase_nil | refine rB (.inl rfl) ?_ | refine rB (.inr rfl) ?_)), (by repeat (first | exact reX_nil | refine rX rfl ?_ | refine rX (by refine congrArg (fun q => some (Ob.free q)) ?_; simp <;> omega) ?_)), (by decide), (by repeat (first | exact moved_nil | refine mC (.inl (Nat.le_of_ble_eq_true rfl)) ?_ | refine mC (.inr rfl) ?_)), (by repeat (first | exact nlo_nil | exact nO nlo_nil | refine nlo_cells (by first | (refine nF ?_; simp; done) | (refine nF (flatL_map' ?_ _); intro x; simp; done) | (simp [NL1L, NL1]; done)) ?_ | refine nO ?_ | refine nlo_dead ?_ | refine nlo_iter ?_ | refine nlo_smap (by first | (refine nF ?_; simp; done) | (refine nF (flatL_map' ?_ _); intro x; simp; done) | (simp [NL1L, NL1]; done)) ?_))⟩, (by repeat (first | exact subL_nil | refine subL_cons (by first | exact imp_of rfl | exact imp_seq _ _ _ | exact imp_of (newW k) | exact imp_of (congrArg i64 (by first | (rw [i64w]; unfold wrap64; omega) | omega | (simp; done)))) ?_)), (by repeat (first | exact nls_nil | refine nls_cons (by first | (refine nl_flat ?_; simp; done) | (show _ < _; first | decide | (simp; done)) | (refine ⟨?_, flatL_map' ?_ _⟩ <;> first | decide | (intro x; simp; done) | (simp; done)) | (refine ⟨?_, ?_⟩ <;> first | decide | (simp; done)) | (simp [NL, NL1L, NL1]; done)) ?_))⟩⟩
     ·have h2 : (allN.getD k [] = [40, 99, 97, 117, 103, 104, 116, 41]) = False := eq_false (of_decide_eq_false hi5)
      refine Wj ?_
      refine W_region rfl ?_
      refine We tG rfl rfl rfl trivial ?_
      refine WO_obI 2 rfl (congrArg (fun z => Ob.cells (List.flatMap cByte z) 5) (show _ = newB M (k + 1) from (stepB_of hn h1 h2).symm)) rfl ?_
      iterate 2 refine We tG rfl rfl rfl trivial ?_
      refine Wn ?_
      exact ⟨k + 1, [6], (by omega), (by omega), ⟨rfl, ⟨(by repeat (first | exact reBase_nil | refine rB (.inl rfl) ?_ | refine rB (.inr rfl) ?_)), (by repeat (first | exact reX_nil | refine rX rfl ?_ | refine rX (by refine congrArg (fun q => some (Ob.free q)) ?_; simp <;> omega) ?_)), (by decide), (by repeat (first | exact moved_nil | refine mC (.inl (Nat.le_of_ble_eq_true rfl)) ?_ | refine mC (.inr rfl) ?_)), (by repeat (first | exact nlo_nil | exact nO nlo_nil | refine nlo_cells (by first | (refine nF ?_; simp; done) | (refine nF (flatL_map' ?_ _); intro x; simp; done) | (simp [NL1L, NL1]; done)) ?_ | refine nO ?_ | refine nlo_dead ?_ | refine nlo_iter ?_ | refine nlo_smap (by first | (refine nF ?_; simp; done) | (refine nF (flatL_map' ?_ _); intro x; simp; done) | (simp [NL1L, NL1]; done)) ?_))⟩, (by repeat (first | exact subL_nil | refine subL_cons (by first | exact imp_of rfl | exact imp_seq _ _ _ | exact imp_of (newW k) | exact imp_of (congrArg i64 (by first | (rw [i64w]; unfold wrap64; omega) | omega | (simp; done)))) ?_)), (by repeat (first | exact nls_nil | refine nls_cons (by first | (refine nl_flat ?_; simp; done) | (show _ < _; first | decide | (simp; done)) | (refine ⟨?_, flatL_map' ?_ _⟩ <;> first | decide | (intro x; simp; done) | (simp; done)) | (refine ⟨?_, ?_⟩ <;> first | decide | (simp; done)) | (simp [NL, NL1L, NL1]; done)) ?_))⟩⟩
   ·have hn : nval k = k := by have := of_decide_eq_false hi3; rw [hN] at this; unfold nval; rw [if_neg (by omega)]
    refine Wj ?_
    refine Ws ?_
    refine W_region rfl ?_
    iterate 5 refine We tG rfl rfl rfl trivial ?_
    refine Wa 47 rfl (u8_mod _) ?_
    refine We tG rfl rfl rfl (by omega) ?_
    refine Wd rfl rfl (does_store (lO tG rfl) rfl rfl rfl rfl rfl rfl (by rw [Nat.ble_eq, cB_len, hB]; (try dsimp only); simp; omega)) ?_
    refine WO_obI 2 rfl (congrArg (fun z => Ob.cells z 5) (splice_at rfl (by omega))) rfl ?_
    refine Wn ?_
    refine Ws ?_
    refine W_region rfl ?_
    iterate 3 refine We tG rfl rfl rfl trivial ?_
    refine Wa 51 rfl (congrArg (fun z => PV.val (Value.int .i64 z)) w3) ?_
    iterate 3 refine We tG rfl rfl rfl trivial ?_
    refine Wa 54 rfl (u8_quo _ (by omega)) ?_
    refine We tG rfl rfl rfl (by omega) ?_
    refine Wd rfl rfl (does_store (lO tG rfl) rfl rfl rfl rfl rfl rfl (by rw [Nat.ble_eq, cB_len, List.length_set, hB]; (try dsimp only); simp; omega)) ?_
    refine WO_obI 2 rfl (congrArg (fun z => Ob.cells z 5) (splice_at rfl (by rw [List.length_set]; omega))) rfl ?_
    refine Wn ?_
    refine Ws ?_
    refine W_drawU [0, 0, 0, 0, 0, 0, 0, 0, 0, 0, 0, 0, 0, 0, 3, 0] [0, 1, 2, 3, 4, 5, 6, 7, 8, 9, 10, 11, 12, 13, 14, 15] mG rfl (by kernel_rfl) ?_
    refine Xe tG rfl rfl rfl rfl (fun _ => rfl) trivial ?_
    refine Xe tG rfl rfl rfl rfl (fun _ => rfl) trivial ?_
    refine Xe tG rfl rfl rfl rfl (fun _ => rfl) trivial ?_
    first | refine Xi tG rfl rfl rfl rfl (fun _ => rfl) (by first | exact trivial | omega | (simp only [dnL] at *; omega) | (simp_all; done) | (simp_all; omega)) (iN cStr 1 (fun _ => rfl) [] (by first | exact trivial | omega | (simp only [dnL] at *; omega) | (simp_all; done) | (simp_all; omega))) ?_ | refine Xi tG rfl rfl rfl rfl (fun _ => rfl) (by first | exact trivial | omega | (simp only [dnL] at *; omega) | (simp_all; done) | (simp_all; omega)) (iR cStr 1 (fun _ => rfl) [] (by first | exact trivial | omega | (simp only [dnL] at *; omega) | (simp_all; done) | (simp_all; omega))) ?_
    refine Xe tG rfl rfl rfl rfl (fun _ => rfl) trivial ?_
    refine Xe tG rfl rfl rfl rfl (fun _ => rfl) trivial ?_
    refine Xe tG rfl rfl rfl rfl (fun _ => rfl) trivial ?_
    refine Xe tG rfl rfl rfl rfl (fun _ => rfl) trivial ?_
    first | refine Xi tG rfl rfl rfl rfl (fun _ => rfl) (by first | exact trivial | omega | (simp only [dnL] at *; omega) | (simp_all; done) | (simp_all; omega)) (iN cStr 1 (fun _ => rfl) [] (by first | exact trivial | omega | (simp only [dnL] at *; omega) | (simp_all; done) | (simp_all; omega))) ?_ | refine Xi tG rfl rfl rfl rfl (fun _ => rfl) (by first | exact trivial | omega | (simp only [dnL] at *; omega) | (simp_all; done) | (simp_all; omega)) (iR cStr 1 (fun _ => rfl) [] (by first | exact trivial | omega | (simp only [dnL] at *; omega) | (simp_all; done) | (simp_all; omega))) ?_
    refine Xe tG rfl rfl rfl rfl (fun _ => rfl) trivial ?_
    refine Xe tG rfl rfl rfl rfl (fun _ => rfl) trivial ?_
    refine Xc rfl rfl rfl rfl (fun _ => dC rfl Tryz.func78 rfl rfl ((ref_flags _ k) _)) ?_
    refine Xe tG rfl rfl rfl rfl (fun _ => rfl) trivial ?_
    refine Xe tG rfl rfl rfl rfl (fun _ => rfl) trivial ?_
    refine Xa 69 rfl ((show PV.seq 1 _ .clip = .seq (List.length [wordN k]) (List.flatMap cWord [wordN k]) .clip from rfl)) ?_
    refine WU_does3 rfl rfl rfl rfl (does_append_own (lO tG rfl) rfl (lO tG rfl) (lO tG rfl) rfl rfl rfl rfl (by simp) (by first | exact ⟨_, rfl⟩ | rfl) (by first | exact ⟨rfl, rfl, flatMap_len _ 3 (fun _ => rfl) _, okC_flat _ (fun _ => rfl) _⟩ | exact ⟨rfl, rfl, by simp, by simp [okC]⟩ | exact ⟨rfl, rfl, rfl⟩) (by first | (dsimp only; omega) | (rw [hL]; dsimp only; simp; omega) | (simp; omega)) (by first | (dsimp only; omega) | (rw [hL]; dsimp only; simp; omega) | (simp; omega))) ?_
    first | refine Xa 70 rfl (sq_append cWord) ?_ | refine Xa 70 rfl (sq_snoc cWord _) ?_ | refine Xa 70 rfl (sq_one cWord _) ?_ | refine Xa 70 rfl (sq_none cWord) ?_
    refine Xe tG rfl rfl rfl rfl (fun _ => rfl) trivial ?_
    first | refine WO_own 7 0 3 rfl rfl ?_ | skip
    refine WU_nil ?_
    iterate 2 refine Ws ?_
    refine W_region rfl ?_
    iterate 2 refine We tG rfl rfl rfl trivial ?_
    first | refine Wv tG rfl rfl rfl (by first | exact trivial | omega | (simp only [dnL] at *; omega) | (simp_all; done) | (simp_all; omega)) (iN cStr 1 (fun _ => rfl) [] (by first | exact trivial | omega | (simp only [dnL] at *; omega) | (simp_all; done) | (simp_all; omega))) ?_ | refine Wv tG rfl rfl rfl (by first | exact trivial | omega | (simp only [dnL] at *; omega) | (simp_all; done) | (simp_all; omega)) (iR cStr 1 (fun _ => rfl) [] (by first | exact trivial | omega | (simp only [dnL] at *; omega) | (simp_all; done) | (simp_all; omega))) ?_
    iterate 2 refine We tG rfl rfl rfl trivial ?_
    refine Wa 75 rfl (str_eql _ _) ?_
    refine Wn ?_
    refine Wi rfl (fun hi4 => ?_) (fun hi4 => ?_)
    ·have h1 : (allN.getD k [] = [40, 104, 97, 108, 116, 41]) = True := eq_true (of_decide_eq_true hi4)
     refine Ws ?_
     refine W_region rfl ?_
     iterate 4 refine We tG rfl rfl rfl trivial ?_
     refine Wa 79 rfl (u8_mod _) ?_
     refine We tG rfl rfl rfl (by omega) ?_
     refine Wd rfl rfl (does_store (lO tG rfl) rfl rfl rfl rfl rfl rfl (by rw [Nat.ble_eq, cB_len]; simp only [List.length_set, hB]; (try dsimp only); simp; omega)) ?_
     refine WO_obI 2 rfl (congrArg (fun z => Ob.cells z 5) (splice_at rfl (by simp only [List.length_set]; omega))) rfl ?_
     refine Wn ?_
     refine W_region rfl ?_
     iterate 4 refine We tG rfl rfl rfl trivial ?_
     refine Wa 84 rfl (u8_quo _ (by omega)) ?_
     refine We tG rfl rfl rfl (by omega) ?_
     refine Wd rfl rfl (does_store (lO tG rfl) rfl rfl rfl rfl rfl rfl (by rw [Nat.ble_eq, cB_len]; simp only [List.length_set, hB]; (try dsimp only); simp; omega)) ?_
     refine WO_obI 2 rfl (congrArg (fun z => Ob.cells z 5) (splice_at rfl (by simp only [List.length_set]; omega))) rfl ?_
     refine Wn ?_
     refine Ws ?_
     refine W_region rfl ?_
     iterate 2 refine We tG rfl rfl rfl trivial ?_
     first | refine Wv tG rfl rfl rfl (by first | exact trivial | omega | (simp only [dnL] at *; omega) | (simp_all; done) | (simp_all; omega)) (iN cStr 1 (fun _ => rfl) [] (by first | exact trivial | omega | (simp only [dnL] at *; omega) | (simp_all; done) | (simp_all; omega))) ?_ | refine Wv tG rfl rfl rfl (by first | exact trivial | omega | (simp only [dnL] at *; omega) | (simp_all; done) | (simp_all; omega)) (iR cStr 1 (fun _ => rfl) [] (by first | exact trivial | omega | (simp only [dnL] at *; omega) | (simp_all; done) | (simp_all; omega))) ?_
     iterate 2 refine We tG rfl rfl rfl trivial ?_
     refine Wa 90 rfl (str_eql _ _) ?_
     refine Wn ?_
     refine Wi rfl (fun hi5 => ?_) (fun hi5 => ?_)
     ·have h2 : (allN.getD k [] = [40, 99, 97, 117, 103, 104, 116, 41]) = True := eq_true (of_decide_eq_true hi5)
      refine Ws ?_
      refine W_region rfl ?_
      iterate 4 refine We tG rfl rfl rfl trivial ?_
      refine Wa 94 rfl (u8_mod _) ?_
      refine We tG rfl rfl rfl (by omega) ?_
      refine Wd rfl rfl (does_store (lO tG rfl) rfl rfl rfl rfl rfl rfl (by rw [Nat.ble_eq, cB_len]; simp only [List.length_set, hB]; (try dsimp only); simp; omega)) ?_
      refine WO_obI 2 rfl (congrArg (fun z => Ob.cells z 5) (splice_at rfl (by simp only [List.length_set]; omega))) rfl ?_
      refine Wn ?_
      refine W_region rfl ?_
      iterate 4 refine We tG rfl rfl rfl trivial ?_
      refine Wa 99 rfl (u8_quo _ (by omega)) ?_
      refine We tG rfl rfl rfl (by omega) ?_
      refine Wd rfl rfl (does_store (lO tG rfl) rfl rfl rfl rfl rfl rfl (by rw [Nat.ble_eq, cB_len]; simp only [List.length_set, hB]; (try dsimp only); simp; omega)) ?_
      refine WO_obI 2 rfl (congrArg (fun z => Ob.cells z 5) (splice_at rfl (by simp only [List.length_set]; omega))) rfl ?_
      refine Wn ?_
      refine W_region rfl ?_
      refine We tG rfl rfl rfl trivial ?_
      refine WO_obI 2 rfl (congrArg (fun z => Ob.cells (List.flatMap cByte z) 5) (show _ = newB M (k + 1) from (stepB_of hn h1 h2).symm)) rfl ?_
      iterate 2 refine We tG rfl rfl rfl trivial ?_
      refine Wn ?_
      exact ⟨k + 1, [6], (by omega), (by omega), ⟨rfl, ⟨(by repeat (first | exact reBase_nil | refine rB (.inl rfl) ?_ | refine rB (.inr rfl) ?_)), (by repeat (first | exact reX_nil | refine rX rfl ?_ | refine rX (by refine congrArg (fun q => some (Ob.free q)) ?_; simp <;> omega) ?_)), (by decide), (by repeat (first | exact moved_nil | refine mC (.inl (Nat.le_of_ble_eq_true rfl)) ?_ | refine mC (.inr rfl) ?_)), (by repeat (first | exact nlo_nil | exact nO nlo_nil | refine nlo_cells (by first | (refine nF ?_; simp; done) | (refine nF (flatL_map' ?_ _); intro x; simp; done) | (simp [NL1L, NL1]; done)) ?_ | refine nO ?_ | refine nlo_dead ?_ | refine nlo_iter ?_ | refine nlo_smap (by first | (refine nF ?_; simp; done) | (refine nF (flatL_map' ?_ _); intro x; simp; done) | (simp [NL1L, NL1]; done)) ?_))⟩, (by repeat (first | exact subL_nil | refine subL_cons (by first | exact imp_of rfl | exact imp_seq _ _ _ | exact imp_of (newW k) | exact imp_of (congrArg i64 (by first | (rw [i64w]; unfold wrap64; omega) | omega | (simp; done)))) ?_)), (by repeat (first | exact nls_nil | refine nls_cons (by first | (refine nl_flat ?_; simp; done) | (show _ < _; first | decide | (simp; done)) | (refine ⟨?_, flatL_map' ?_ _⟩ <;> first | decide | (intro x; simp; done) | (simp; done)) | (refine ⟨?_, ?_⟩ <;> first | decide | (simp; done)) | (simp [NL, NL1L, NL1]; done)) ?_))⟩⟩
     ·have h2 : (allN.getD k [] = [40, 99, 97, 117, 103, 104, 116, 41]) = False := eq_false (of_decide_eq_false hi5)
      refine Wj ?_
      refine W_region rfl ?_
      refine We tG rfl rfl rfl trivial ?_
      refine WO_obI 2 rfl (congrArg (fun z => Ob.cells (List.flatMap cByte z) 5) (show _ = newB M (k + 1) from (stepB_of hn h1 h2).symm)) rfl ?_
      iterate 2 refine We tG rfl rfl rfl trivial ?_
      refine Wn ?_
      exact ⟨k + 1, [6], (by omega), (by omega), ⟨rfl, ⟨(by repeat (first | exact reBase_nil | refine rB (.inl rfl) ?_ | refine rB (.inr rfl) ?_)), (by repeat (first | exact reX_nil | refine rX rfl ?_ | refine rX (by refine congrArg (fun q => some (Ob.free q)) ?_; simp <;> omega) ?_)), (by decide), (by repeat (first | exact moved_nil | refine mC (.inl (Nat.le_of_ble_eq_true rfl)) ?_ | refine mC (.inr rfl) ?_)), (by repeat (first | exact nlo_nil | exact nO nlo_nil | refine nlo_cells (by first | (refine nF ?_; simp; done) | (refine nF (flatL_map' ?_ _); intro x; simp; done) | (simp [NL1L, NL1]; done)) ?_ | refine nO ?_ | refine nlo_dead ?_ | refine nlo_iter ?_ | refine nlo_smap (by first | (refine nF ?_; simp; done) | (refine nF (flatL_map' ?_ _); intro x; simp; done) | (simp [NL1L, NL1]; done)) ?_))⟩, (by repeat (first | exact subL_nil | refine subL_cons (by first | exact imp_of rfl | exact imp_seq _ _ _ | exact imp_of (newW k) | exact imp_of (congrArg i64 (by first | (rw [i64w]; unfold wrap64; omega) | omega | (simp; done)))) ?_)), (by repeat (first | exact nls_nil | refine nls_cons (by first | (refine nl_flat ?_; simp; done) | (show _ < _; first | decide | (simp; done)) | (refine ⟨?_, flatL_map' ?_ _⟩ <;> first | decide | (intro x; simp; done) | (simp; done)) | (refine ⟨?_, ?_⟩ <;> first | decide | (simp; done)) | (simp [NL, NL1L, NL1]; done)) ?_))⟩⟩
    ·have h1 : (allN.getD k [] = [40, 104, 97, 108, 116, 41]) = False := eq_false (of_decide_eq_false hi4)
     refine Wj ?_
     refine Ws ?_
     refine W_region rfl ?_
     iterate 2 refine We tG rfl rfl rfl trivial ?_
     first | refine Wv tG rfl rfl rfl (by first | exact trivial | omega | (simp only [dnL] at *; omega) | (simp_all; done) | (simp_all; omega)) (iN cStr 1 (fun _ => rfl) [] (by first | exact trivial | omega | (simp only [dnL] at *; omega) | (simp_all; done) | (simp_all; omega))) ?_ | refine Wv tG rfl rfl rfl (by first | exact trivial | omega | (simp only [dnL] at *; omega) | (simp_all; done) | (simp_all; omega)) (iR cStr 1 (fun _ => rfl) [] (by first | exact trivial | omega | (simp only [dnL] at *; omega) | (simp_all; done) | (simp_all; omega))) ?_
     iterate 2 refine We tG rfl rfl rfl trivial ?_
     refine Wa 90 rfl (str_eql _ _) ?_
     refine Wn ?_
     refine Wi rfl (fun hi5 => ?_) (fun hi5 => ?_)
     ·have h2 : (allN.getD k [] = [40, 99, 97, 117, 103, 104, 116, 41]) = True := eq_true (of_decide_eq_true hi5)
      refine Ws ?_
      refine W_region rfl ?_
      iterate 4 refine We tG rfl rfl rfl trivial ?_
      refine Wa 94 rfl (u8_mod _) ?_
      refine We tG rfl rfl rfl (by omega) ?_
      refine Wd rfl rfl (does_store (lO tG rfl) rfl rfl rfl rfl rfl rfl (by rw [Nat.ble_eq, cB_len]; simp only [List.length_set, hB]; (try dsimp only); simp; omega)) ?_
      refine WO_obI 2 rfl (congrArg (fun z => Ob.cells z 5) (splice_at rfl (by simp only [List.length_set]; omega))) rfl ?_
      refine Wn ?_
      refine W_region rfl ?_
      iterate 4 refine We tG rfl rfl rfl trivial ?_
      refine Wa 99 rfl (u8_quo _ (by omega)) ?_
      refine We tG rfl rfl rfl (by omega) ?_
      refine Wd rfl rfl (does_store (lO tG rfl) rfl rfl rfl rfl rfl rfl (by rw [Nat.ble_eq, cB_len]; simp only [List.length_set, hB]; (try dsimp only); simp; omega)) ?_
      refine WO_obI 2 rfl (congrArg (fun z => Ob.cells z 5) (splice_at rfl (by simp only [List.length_set]; omega))) rfl ?_
      refine Wn ?_
      refine W_region rfl ?_
      refine We tG rfl rfl rfl trivial ?_
      refine WO_obI 2 rfl (congrArg (fun z => Ob.cells (List.flatMap cByte z) 5) (show _ = newB M (k + 1) from (stepB_of hn h1 h2).symm)) rfl ?_
      iterate 2 refine We tG rfl rfl rfl trivial ?_
      refine Wn ?_
      exact ⟨k + 1, [6], (by omega), (by omega), ⟨rfl, ⟨(by repeat (first | exact reBase_nil | refine rB (.inl rfl) ?_ | refine rB (.inr rfl) ?_)), (by repeat (first | exact reX_nil | refine rX rfl ?_ | refine rX (by refine congrArg (fun q => some (Ob.free q)) ?_; simp <;> omega) ?_)), (by decide), (by repeat (first | exact moved_nil | refine mC (.inl (Nat.le_of_ble_eq_true rfl)) ?_ | refine mC (.inr rfl) ?_)), (by repeat (first | exact nlo_nil | exact nO nlo_nil | refine nlo_cells (by first | (refine nF ?_; simp; done) | (refine nF (flatL_map' ?_ _); intro x; simp; done) | (simp [NL1L, NL1]; done)) ?_ | refine nO ?_ | refine nlo_dead ?_ | refine nlo_iter ?_ | refine nlo_smap (by first | (refine nF ?_; simp; done) | (refine nF (flatL_map' ?_ _); intro x; simp; done) | (simp [NL1L, NL1]; done)) ?_))⟩, (by repeat (first | exact subL_nil | refine subL_cons (by first | exact imp_of rfl | exact imp_seq _ _ _ | exact imp_of (newW k) | exact imp_of (congrArg i64 (by first | (rw [i64w]; unfold wrap64; omega) | omega | (simp; done)))) ?_)), (by repeat (first | exact nls_nil | refine nls_cons (by first | (refine nl_flat ?_; simp; done) | (show _ < _; first | decide | (simp; done)) | (refine ⟨?_, flatL_map' ?_ _⟩ <;> first | decide | (intro x; simp; done) | (simp; done)) | (refine ⟨?_, ?_⟩ <;> first | decide | (simp; done)) | (simp [NL, NL1L, NL1]; done)) ?_))⟩⟩
     ·have h2 : (allN.getD k [] = [40, 99, 97, 117, 103, 104, 116, 41]) = False := eq_false (of_decide_eq_false hi5)
      refine Wj ?_
      refine W_region rfl ?_
      refine We tG rfl rfl rfl trivial ?_
      refine WO_obI 2 rfl (congrArg (fun z => Ob.cells (List.flatMap cByte z) 5) (show _ = newB M (k + 1) from (stepB_of hn h1 h2).symm)) rfl ?_
      iterate 2 refine We tG rfl rfl rfl trivial ?_
      refine Wn ?_
      exact ⟨k + 1, [6], (by omega), (by omega), ⟨rfl, ⟨(by repeat (first | exact reBase_nil | refine rB (.inl rfl) ?_ | refine rB (.inr rfl) ?_)), (by repeat (first | exact reX_nil | refine rX rfl ?_ | refine rX (by refine congrArg (fun q => some (Ob.free q)) ?_; simp <;> omega) ?_)), (by decide), (by repeat (first | exact moved_nil | refine mC (.inl (Nat.le_of_ble_eq_true rfl)) ?_ | refine mC (.inr rfl) ?_)), (by repeat (first | exact nlo_nil | exact nO nlo_nil | refine nlo_cells (by first | (refine nF ?_; simp; done) | (refine nF (flatL_map' ?_ _); intro x; simp; done) | (simp [NL1L, NL1]; done)) ?_ | refine nO ?_ | refine nlo_dead ?_ | refine nlo_iter ?_ | refine nlo_smap (by first | (refine nF ?_; simp; done) | (refine nF (flatL_map' ?_ _); intro x; simp; done) | (simp [NL1L, NL1]; done)) ?_))⟩, (by repeat (first | exact subL_nil | refine subL_cons (by first | exact imp_of rfl | exact imp_seq _ _ _ | exact imp_of (newW k) | exact imp_of (congrArg i64 (by first | (rw [i64w]; unfold wrap64; omega) | omega | (simp; done)))) ?_)), (by repeat (first | exact nls_nil | refine nls_cons (by first | (refine nl_flat ?_; simp; done) | (show _ < _; first | decide | (simp; done)) | (refine ⟨?_, flatL_map' ?_ _⟩ <;> first | decide | (intro x; simp; done) | (simp; done)) | (refine ⟨?_, ?_⟩ <;> first | decide | (simp; done)) | (simp [NL, NL1L, NL1]; done)) ?_))⟩⟩
  ·have hge : k = 167 := by have := of_decide_eq_false hi2; rw [hA] at this; omega
   have hB := newB_len M k
   have eN : tVm (newVm c, 0) = tVm (vmOf c (newB M k) (newL k), 0) := by rw [hge, newVm_of, hMt]
   generalize newB M k = b0 at hB eN ⊢
   generalize newL k = l0 at eN ⊢
   refine W_exit ?_
   refine Ws ?_
   refine W_region rfl ?_
   iterate 2 refine We tG rfl rfl rfl trivial ?_
   refine Wm 102 rfl (imp_arr_arw (Nat.le_refl _)) ?_
   refine WO_freeze 102 2 _ M rfl rfl (by rw [cB_len, hB]; exact Nat.le_refl _) ?_
   refine Wa 102 rfl (show _ = sq cByte b0 from frz_b hB) ?_
   iterate 5 refine We tG rfl rfl rfl trivial ?_
   refine Wn ?_
   refine Wq ?_
   refine lP rfl ?_
   rw [eN]; rfl
end Go.Proofs.YtphgdofmjpdhaaaGreat
namespace Go.Proofs.YtphgdofmjpdhaaaGreat
open Go.RowKit (wrap64)
def digS (n : Int) : Int := if 0 ≤ n ∧ n ≤ 9 then 48 + n else if 10 ≤ n ∧ n ≤ 35 then 55 + n else 63
def isB (b : Int) : Bool := decide (2 ≤ b) && decide (b ≤ 36)
theorem isB_iff (b : Int) : isB b = true ↔ 2 ≤ b ∧ b ≤ 36 := by unfold isB; simp
def chr (n : Nat) : UInt8 := UInt8.ofNat (digS n).toNat
def digL (b : Nat) : Nat → Nat → List Nat
 | 0, _ => []
 | k + 1, u => u % b :: (if u / b = 0 then [] else digL b k (u / b))
def ushowL (u b : Nat) : List UInt8 := ((digL b 64 u).map chr).reverse
def ushowS (n b : Int) : List UInt8 × Int := if isB b then (ushowL (U n) b.toNat, 0) else ([], -24)
def showS (n b : Int) : List UInt8 × Int := if isB b then (if 0 ≤ n then ushowL (U n) b.toNat else 45 :: ushowL (U (wrap64 (-n))) b.toNat, 0) else ([], -24)
theorem base_nat {b : Int} (h : isB b = true) : ∃ B : Nat, b = (B : Int) ∧ 2 ≤ B ∧ B ≤ 36 := by
 rw [isB_iff] at h; exact ⟨b.toNat, by omega, by omega, by omega⟩
end Go.Proofs.YtphgdofmjpdhaaaGreat
namespace Go.Proofs.YtphgdofmjpdhaaaGreat
open Go.RowKit
theorem ret_k {k : IntKind} {a b : Int} (h : a = b) : Ending.returned (.int k a) = .returned (.int k b) := by rw [h]
theorem ret_b {a b : Bool} (h : a = b) : Ending.returned (.bool a) = .returned (.bool b) := by rw [h]
theorem digits_at : ∀ k : Nat, (h : k < 36) → (((ByteArray.mk #[48, 49, 50, 51, 52, 53, 54, 55, 56, 57, 65, 66, 67, 68, 69, 70, 71, 72, 73, 74, 75, 76, 77, 78, 79, 80, 81, 82, 83, 84, 85, 86, 87, 88, 89, 90])[k]'(by exact h)).toNat : Int) = digS k := by decide
theorem num_Digit (n : Int) (w : World) : Calls Tryz.prog 237 #[.int .i64 n] w fun e w' => e = .returned (.int .u8 (digS n)) ∧ w = w' := by
 by_cases h0 : n < 0
 ·have d : decide (n < 0) = true := by simp [h0]
  go_enter Tryz.func237, Tryz.ntmps237
  go_wp2
  go_ret
  exact ⟨ret_k (by unfold digS; rw [if_neg (by omega), if_neg (by omega)]), rfl⟩
 ·by_cases h1 : 36 ≤ n
  ·have d : decide (n < 0) = false := by simp; omega
   have d1 : decide (36 ≤ n) = true := by simp [h1]
   go_enter Tryz.func237, Tryz.ntmps237
   go_wp2
   go_ret
   exact ⟨ret_k (by unfold digS; rw [if_neg (by omega), if_neg (by omega)]), rfl⟩
  ·have d : decide (n < 0) = false := by simp; omega
   have d1 : decide (36 ≤ n) = false := by simp; omega
   obtain ⟨k, rfl⟩ := Int.eq_ofNat_of_zero_le (by omega : 0 ≤ n)
   go_enter Tryz.func237, Tryz.ntmps237
   go_wp2
   go_ret
   exact ⟨ret_k (digits_at k (by omega)), rfl⟩
theorem num_is (b : Int) (w : World) : Calls Tryz.prog 236 #[.int .i64 b] w fun e w' => e = .returned (.bool (isB b)) ∧ w = w' := by
 go_enter Tryz.func236, Tryz.ntmps236
 go_wp2
 all_goals go_ret
 all_goals exact ⟨ret_b (by unfold isB; simp <;> omega), rfl⟩
end Go.Proofs.YtphgdofmjpdhaaaGreat
namespace Go.Proofs
open Go.Shelf
def Tryz.lReverse_ren : Go.Shelf.Ren := ⟨fun | 35 => 238 | n => n, fun | 22 => 24 | 23 => 5 | 3 => 3 | 4 => 4 | 0 => 0 | n => n, fun | n => n⟩
theorem Tryz.lReverse : Go.Proofs.SlLaysE.n35 Tryz.prog Tryz.lReverse_ren := {
 mixed := by kernel_rfl
 f35 := ⟨Tryz.f238.name, by decide, Tryz.func238.trans (congrArg some (by kernel_rfl))⟩
 t0 := Tryz.underlying0
 a0 := Tryz.isAgg0
 z0 := Tryz.sizeOf0
 v0 := Tryz.zeroValue0
 t3 := Tryz.underlying3
 a3 := Tryz.isAgg3
 z3 := Tryz.sizeOf3
 v3 := Tryz.zeroValue3
 t4 := Tryz.underlying4
 a4 := Tryz.isAgg4
 z4 := Tryz.sizeOf4
 v4 := Tryz.zeroValue4
 t22 := Tryz.underlying24
 a22 := Tryz.isAgg24
 z22 := Tryz.sizeOf24
 v22 := Tryz.zeroValue24
 a23 := Tryz.isAgg5
 z23 := Tryz.sizeOf5 }
def Tryz.lClone_ren : Go.Shelf.Ren := ⟨fun | 41 => 240 | n => n, fun | 22 => 24 | 23 => 5 | 4 => 4 | n => n, fun | n => n⟩
theorem Tryz.lClone : Go.Proofs.SlLaysE0.n41 Tryz.prog Tryz.lClone_ren := {
 mixed := by kernel_rfl
 f41 := ⟨Tryz.f240.name, by decide, Tryz.func240.trans (congrArg some (by kernel_rfl))⟩
 t4 := Tryz.underlying4
 a4 := Tryz.isAgg4
 z4 := Tryz.sizeOf4
 v4 := Tryz.zeroValue4
 t22 := Tryz.underlying24
 a22 := Tryz.isAgg24
 z22 := Tryz.sizeOf24
 v22 := Tryz.zeroValue24 }
end Go.Proofs
namespace Go.Proofs.YtphgdofmjpdhaaaGreat
open Go.RowKit
theorem info8 : (Tryz.prog.info? 5).map (fun i => (i.zero, i.size, i.bytes)) = some (some (.int .u8 0), 1, 1) := by kernel_rfl
theorem own_drewN {w w1 : World} {B e s n : Nat} {v : Value} {xs : List Value} {q : Nat} (h : w.ownsRow B e s v n xs) (hw : w1 = w.drewN q) : w1.ownsRow B e s v n xs := by rw [hw]; exact h
theorem bel_drewN {w0 w w1 : World} {B q : Nat} (h : Below B w0 w) (hw : w1 = w.drewN q) : Below B w0 w1 := by rw [hw]; exact below_drewN h q
theorem own_low {w : World} {B e s n : Nat} {v : Value} {xs : List Value} (h : w.ownsRow B e s v n xs) : ∀ k, v.ownBlock = some k → B ≤ k := by
 intro k hk
 rcases h.2 with ⟨rfl, _⟩ | ⟨g, cap, cur, rfl, hb, _⟩
 ·simp [Value.ownBlock] at hk
 ·simp [Value.ownBlock] at hk; omega
theorem own_base {w : World} {B B' e s n : Nat} {v : Value} {xs : List Value} (h : w.ownsRow B e s v n xs) (hB : B' ≤ B) : w.ownsRow B' e s v n xs := by
 refine ⟨h.1, ?_⟩
 rcases h.2 with h1 | ⟨g, cap, cur, e1, hb, h2⟩
 ·exact .inl h1
 ·exact .inr ⟨g, cap, cur, e1, by omega, h2⟩
theorem rev_own (w : World) (B : Nat) (v : Value) (n : Nat) (zs : List Int) (h : w.ownsRow B 5 1 v n (zs.map (Value.int .u8))) (hn : n ≤ 9223372036854775807) :
  Calls Tryz.prog 238 #[v] w fun e w' => e = .returned (.tuple #[]) ∧ w'.ownsRow B 5 1 v n (zs.reverse.map (Value.int .u8)) ∧ ∀ w0, Below B w0 w → Below B w0 w' := by
 by_cases hv : v = .slice none 0 0
 ·have h0 : n = 0 := by
   rcases h.2 with ⟨_, h⟩ | ⟨g, cap, cur, h, _⟩
   ·exact h
   ·rw [h] at hv; cases hv
  have hz : zs = [] := List.eq_nil_of_length_eq_zero (by have := h.1; simp at this; omega)
  subst hz hv
  refine (AnyE.slices_Reverse_empty Tryz.lReverse none 0 w).mono ?_
  rintro e w' ⟨rfl, rfl⟩
  exact ⟨rfl, h, fun _ hb => hb⟩
 ·obtain ⟨g, cap, rfl, hb, _, _, _, hl, hH⟩ := Lib.holds_of_ownsRow h hv
  subst hl
  refine (AnyE.slices_Reverse Tryz.lReverse (Value.int .u8) (fun _ => rfl) g 0 cap zs w hH hn).mono ?_
  rintro e w' ⟨rfl, q, rfl⟩
  refine ⟨rfl, ?_, fun w0 hw => Lib.below_putRow hw hb⟩
  have := Lib.ownsRow_putRow (q := q) h (ys := zs.reverse) (by simp) (Nat.le_refl _)
  rw [List.take_of_length_le (by simp)] at this
  exact this
theorem text_own {w : World} {B n : Nat} {v : Value} {zs : List Int} (h : w.ownsRow B 5 1 v n (zs.map (Value.int .u8))) :
  (convert 24 9 v).run Tryz.prog w = .ok (.string (strOfNums zs)) w := by
 by_cases hv : v = .slice none 0 0
 ·have h0 : n = 0 := by
   rcases h.2 with ⟨_, h⟩ | ⟨g, cap, cur, h, _⟩
   ·exact h
   ·rw [h] at hv; cases hv
  have hz : zs = [] := List.eq_nil_of_length_eq_zero (by have := h.1; simp at this; omega)
  subst hz hv
  exact run_convert_bytes_nil (w := w) 24 5 Tryz.underlying24 Tryz.underlying5 0 0 9 Tryz.underlying9
 ·obtain ⟨g, cap, rfl, hb, _, _, _, hl, hH⟩ := Lib.holds_of_ownsRow h hv
  subst hl
  refine run_convert_bytes_arg w 24 5 Tryz.underlying24 Tryz.underlying5 g 0 zs.length cap zs rfl (fun i hi => ?_) 9 Tryz.underlying9
  rw [(hH i (by simpa using hi)).1]
  simp [List.getD, hi]
end Go.Proofs.YtphgdofmjpdhaaaGreat
namespace Go.Proofs.YtphgdofmjpdhaaaGreat
open Go.RowKit
def digI (ds : List Nat) : List Int := ds.map fun d : Nat => digS (d : Int)
theorem digI_snoc (ds : List Nat) (d : Nat) : digI (ds ++ [d]) = digI ds ++ [digS (d : Int)] := by simp [digI]
theorem r_pos {u r B : Nat} (hz : ¬ u / B = 0) (h : u < 2 ^ (r + 1)) (hB : 2 ≤ B) : 1 ≤ r := by
 rcases Nat.eq_zero_or_pos r with rfl | h1
 ·exact absurd (Nat.div_eq_of_lt (by simp at h; omega)) hz
 ·exact h1
theorem U_less {u B : Nat} (hu : u < 18446744073709551616) (hz : ¬ u / B = 0) (hB : 2 ≤ B) : U (S (u / B)) < U (S u) := by
 have h0 : 0 < u := Nat.pos_of_ne_zero (fun e => hz (by rw [e]; exact Nat.zero_div B))
 rw [U_S u hu, U_S (u / B) (Nat.lt_of_le_of_lt (Nat.div_le_self u B) hu)]
 exact Nat.div_lt_self h0 hB
def measU (v : Value) : Nat := U (intOf v)
theorem measU_is (x : Int) : measU (.int .i64 x) = U x := by unfold measU; simp [intOf]
theorem measU_less {u B : Nat} (hu : Hid (u < 18446744073709551616)) (hz : Hid (¬ u / B = 0)) (hB : 2 ≤ B) : measU (.int .i64 (S (u / B))) < measU (.int .i64 (S u)) := by
 rw [measU_is, measU_is]; exact U_less hu.out hz.out hB
def dig0 (B u : Nat) : List Nat := digL B 64 u
theorem dig0_start (B u : Nat) : Hid ([] ++ digL B 64 u = dig0 B u) := Lib.hid rfl
theorem len_start : Hid (([] : List Nat).length + 64 = 64) := Lib.hid rfl
theorem own_start (w : World) (e : TypeId) : w.ownsRow w.heap.size e 1 (.slice none 0 0) ([] : List Nat).length ((digI []).map (Value.int .u8)) := ⟨rfl, .inl ⟨rfl, rfl⟩⟩
theorem two64 {u : Nat} (h : u < 18446744073709551616) : Hid (u < 2 ^ 64) := Lib.hid (by rw [show (2:Nat)^64 = 18446744073709551616 from by decide]; exact h)
theorem digL_more {B r u : Nat} {ds all : List Nat} (h : ds ++ digL B (r + 1) u = all) (hz : ¬ u / B = 0) : (ds ++ [u % B]) ++ digL B r (u / B) = all := by
 rw [← h]; simp only [digL, hz, if_false, List.append_assoc, List.singleton_append]
theorem digL_end {B r u : Nat} {ds all : List Nat} (h : ds ++ digL B (r + 1) u = all) (hz : u / B = 0) : ds ++ [u % B] = all := by
 rw [← h]; simp only [digL, hz, if_true]
theorem udivS_small (u B : Nat) (hu : u < 18446744073709551616) (h2 : 2 ≤ B) (h3 : B ≤ 36) : udivS (S u) 0 (B : Int) = (S (u / B), ((u % B : Nat) : Int), 0) := by
 have e1 : U (B : Int) = B := by unfold U; omega
 have e2 : U (0 : Int) = 0 := by decide
 have e3 : PU (S u) 0 = u := by unfold PU; rw [U_S u hu, e2]; omega
 unfold udivS
 rw [if_neg (by omega), e1, e2, if_neg (by omega), e3]
 have hm := Nat.mod_lt u (show 0 < B by omega)
 have : S (u % B) = ((u % B : Nat) : Int) := by unfold S; exact wrap64_fit _ (by omega)
 rw [this]
theorem S_zero {u : Nat} (h : u < 18446744073709551616) : S u = 0 ↔ u = 0 := by unfold S wrap64; omega
theorem pow_half {u r B : Nat} (h : u < 2 ^ (r + 1)) (hB : 2 ≤ B) : u / B < 2 ^ r := by
 rw [Nat.pow_succ] at h
 have := Nat.div_le_div_left hB (show 0 < 2 by omega) (a := u)
 omega
theorem chr_text (ds : List Nat) : strOfNums (digI ds).reverse = ⟨((ds.map chr).reverse).toArray⟩ := by
 unfold strOfNums chr digI
 congr 1
 rw [← List.map_reverse, List.map_map, ← List.map_reverse]
 rfl
set_option maxRecDepth 100000 in
set_option maxHeartbeats 1000000 in
theorem num_UShow (n b : Int) (w : World) (hn : Fit n) : Calls Tryz.prog 149 #[.int .i64 n, .int .i64 b] w fun e w' => e = .returned (.tuple #[.string ⟨(ushowS n b).1.toArray⟩, .int .i64 (ushowS n b).2]) ∧ Below w.heap.size w w' := by
 by_cases hb : isB b = true
 ·obtain ⟨B, rfl, h2, h3⟩ := base_nat hb
  have e : ushowS n (B : Int) = (ushowL (U n) B, 0) := by unfold ushowS; rw [if_pos hb, Int.toNat_natCast]
  have E := Lib.hid e
  have EN := Lib.hid (S_U n hn)
  obtain ⟨i0, hi, hz0, hz1, hz2⟩ := info_parts info8
  clear e
  go_enter Tryz.func149, Tryz.ntmps149
  go_wp2_with (go_at_call 236; refine (num_is _ _).mono ?_; rintro e w' ⟨rfl, rfl⟩)
  go_loopw [0, 6] (fun n0 v wr => ∃ (r u : Nat) (ds : List Nat), n0 = .int .i64 (S u) ∧ Hid (u < 18446744073709551616) ∧ Hid (u < 2 ^ r) ∧ 1 ≤ r ∧ Hid (ds.length + r = 64) ∧ Hid (ds ++ digL B r u = dig0 B (U n)) ∧
   wr.ownsRow w.heap.size 5 1 v ds.length ((digI ds).map (Value.int .u8)) ∧ Below w.heap.size w wr) (fun n0 _ _ => measU n0)
  case atStart => exact ⟨64, U n, [], by rw [EN.out], U_lt n, two64 (U_lt n), by omega, len_start, dig0_start _ _, own_start _ _, Below.refl _ _⟩
  case round =>
   obtain ⟨r, u, ds, rfl, hu, hur, hr1, hlen, hds, hown, hbel⟩ := hrel
   obtain ⟨r, rfl⟩ : ∃ r', r = r' + 1 := ⟨r - 1, by omega⟩
   have D0 := fun w => cell_UDiv (S u) 0 (B : Int) w
   rw [udivS_small u B hu.out h2 h3] at D0
   have D := Lib.hid D0
   clear D0
   have hm := Nat.mod_lt u (show 0 < B by omega)
   have hq : u / B < 18446744073709551616 := Nat.lt_of_le_of_lt (Nat.div_le_self _ _) hu.out
   have hds64 : ds.length ≤ 63 := by have := hlen.out; omega
   by_cases hz : u / B = 0
   ·have t : (S (u / B) == 0) = true := by rw [hz]; decide +kernel
    have hds' := Lib.hid (digL_end hds.out hz)
    have HZ := Lib.hid hz
    clear hq hz hds
    go_wp2_with (first
     | (go_at_call 96; refine (D.out _).mono ?_; rintro e w1 ⟨rfl, n1, hw1⟩; have hown1 := own_drewN hown hw1; have hbel1 := bel_drewN hbel hw1; clear hw1)
     | (go_at_call 237; refine (num_Digit _ _).mono ?_; rintro e w' ⟨rfl, rfl⟩)
     | (at_builtin; refine wpList_append_own _ rfl _ _ 24 rfl w.heap.size 5 i0 (.int .u8 0) 1 1 Tryz.underlying24 hi hz0 hz1 hz2 rfl (by decide) _ _ _ rfl (hown1.alloc _) ⟨w1.heap.size, 0, none⟩ 1 1 [.int .u8 (digS ((u : Int) % (B : Int)))] rfl rfl ?c1 ?c2 ?c3 ?c4 ?c5 ?_))
    case c1 => exact cell_one_new _ _ _
    case c2 => simp [Value.oneCell']
    case c3 => unfold maxLen; omega
    case c4 => omega
    case c5 => have := hbel1.size; simp; omega
    intro v' w2 hown2 hgrow _
    have hown3 : w2.ownsRow w.heap.size 5 1 v' (ds ++ [u % B]).length ((digI (ds ++ [u % B])).map (Value.int .u8)) := by
     rw [digI_snoc, List.map_append, List.length_append]; exact hown2
    have hbel2 : Below w.heap.size w w2 := (hbel1.alloc hbel1.size _).grown hgrow (by have := hbel1.size; simp; omega) (own_low hown1)
    have RV := Lib.hid (rev_own w2 w.heap.size v' _ _ hown3 (by simp; omega))
    clear hown hown1 hown2 hgrow hown3
    go_wp2_with fail
    refine RV.out.mono ?_
    rintro e w3 ⟨rfl, hown5, hb5⟩
    have hbel5 := hb5 w hbel2
    have hcv := text_own hown5
    rw [hds'.out, chr_text] at hcv
    clear hown5 hb5
    go_wp2
    go_ret2
    exact ⟨by rw [E.out]; rfl, hbel5⟩
   ·have t : (S (u / B) == 0) = false := by simp only [beq_eq_false_iff_ne]; intro h; exact hz ((S_zero hq).1 h)
    have HQ := Lib.hid hq
    have hds' := Lib.hid (digL_more hds.out hz)
    have HZ := Lib.hid hz
    clear hq hz hds
    go_wp2_with (first
     | (go_at_call 96; refine (D.out _).mono ?_; rintro e w1 ⟨rfl, n1, hw1⟩; have hown1 := own_drewN hown hw1; have hbel1 := bel_drewN hbel hw1; clear hw1)
     | (go_at_call 237; refine (num_Digit _ _).mono ?_; rintro e w' ⟨rfl, rfl⟩)
     | (at_builtin; refine wpList_append_own _ rfl _ _ 24 rfl w.heap.size 5 i0 (.int .u8 0) 1 1 Tryz.underlying24 hi hz0 hz1 hz2 rfl (by decide) _ _ _ rfl (hown1.alloc _) ⟨w1.heap.size, 0, none⟩ 1 1 [.int .u8 (digS ((u : Int) % (B : Int)))] rfl rfl ?c1 ?c2 ?c3 ?c4 ?c5 ?_))
    case c1 => exact cell_one_new _ _ _
    case c2 => simp [Value.oneCell']
    case c3 => unfold maxLen; omega
    case c4 => omega
    case c5 => have := hbel1.size; simp; omega
    intro v' w2 hown2 hgrow _
    have hown3 : w2.ownsRow w.heap.size 5 1 v' (ds ++ [u % B]).length ((digI (ds ++ [u % B])).map (Value.int .u8)) := by
     rw [digI_snoc, List.map_append, List.length_append]; exact hown2
    have hbel2 : Below w.heap.size w w2 := (hbel1.alloc hbel1.size _).grown hgrow (by have := hbel1.size; simp; omega) (own_low hown1)
    clear hown hown1 hown2 hgrow
    go_wp2_with fail
    go_roundw
    case rel => exact ⟨r, u / B, ds ++ [u % B], rfl, HQ.out, pow_half hur.out h2, r_pos HZ.out hur.out h2, by have := hlen.out; show _ = _; simp; omega, hds', hown3, hbel2⟩
    case measure => exact measU_less hu HZ h2
 ·have e : ushowS n b = ([], -24) := by unfold ushowS; rw [if_neg hb]
  have E := Lib.hid e
  simp only [Bool.not_eq_true] at hb
  clear e
  go_enter Tryz.func149, Tryz.ntmps149
  go_wp2_with (go_at_call 236; refine (num_is _ _).mono ?_; rintro e w' ⟨rfl, rfl⟩)
  go_ret2
  exact ⟨by rw [E.out]; rfl, Below.refl _ _⟩
end Go.Proofs.YtphgdofmjpdhaaaGreat
namespace Go.Proofs.YtphgdofmjpdhaaaGreat
open Go.RowKit
theorem str_eq {a b : ByteArray} (h : a.data.toList = b.data.toList) : a = b := by
 apply ByteArray.ext; exact Array.toList_inj.1 h
theorem ret_si {a b : ByteArray} {x y : Int} (h : a = b) (g : x = y) : Ending.returned (.tuple #[.string a, .int .i64 x]) = .returned (.tuple #[.string b, .int .i64 y]) := by rw [h, g]
theorem digL_le (B : Nat) : ∀ k u, (digL B k u).length ≤ k := by
  intro k
  induction k with
  | zero => intro u; simp [digL]
  | succ k ih => intro u; simp only [digL, List.length_cons]; split
                 · simp
                 · have := ih (u / B); omega
theorem ushowL_len (u B : Nat) : (ushowL u B).length ≤ 64 := by unfold ushowL; simpa using digL_le B 64 u
theorem num_Show (n b : Int) (w : World) (hn : Fit n) : Calls Tryz.prog 148 #[.int .i64 n, .int .i64 b] w fun e w' => e = .returned (.tuple #[.string ⟨(showS n b).1.toArray⟩, .int .i64 (showS n b).2]) ∧ Below w.heap.size w w' := by
 by_cases h0 : 0 ≤ n
 ·have e : showS n b = ushowS n b := by unfold showS ushowS; simp only [h0, if_true]
  rw [e]
  have H := Lib.hid (num_UShow n b w hn)
  go_enter Tryz.func148, Tryz.ntmps148
  go_wp2_with (go_at_call 149; refine H.out.mono ?_; rintro e w1 ⟨rfl, hb⟩)
  go_ret2
  exact ⟨rfl, hb⟩
 ·have h1 : decide (0 ≤ n) = false := by simp; omega
  by_cases hb : isB b = true
  ·have e : ushowS (wrap64 (-n)) b = (ushowL (U (wrap64 (-n))) b.toNat, 0) := by unfold ushowS; rw [if_pos hb]
   have e2 : showS n b = (45 :: ushowL (U (wrap64 (-n))) b.toNat, 0) := by unfold showS; rw [if_pos hb]; simp only [h0, if_false]
   have H0 := num_UShow (wrap64 (-n)) b w (wrap64_rng _)
   rw [e] at H0
   clear e
   have hl := ushowL_len (U (wrap64 (-n))) b.toNat
   generalize ushowL (U (wrap64 (-n))) b.toNat = l at H0 e2 hl
   have H := Lib.hid H0
   have E2 := Lib.hid e2
   clear e2 H0
   go_enter Tryz.func148, Tryz.ntmps148
   go_wp2_with (go_at_call 149; refine H.out.mono ?_; rintro e w1 ⟨rfl, hb⟩)
   go_ret2
   exact ⟨by rw [E2.out]; exact ret_si (str_eq (by simp)) rfl, hb⟩
  ·have e : ushowS (wrap64 (-n)) b = ([], -24) := by unfold ushowS; rw [if_neg hb]
   have e2 : showS n b = ([], -24) := by unfold showS; rw [if_neg hb]
   have H0 := num_UShow (wrap64 (-n)) b w (wrap64_rng _)
   rw [e] at H0
   have H := Lib.hid H0
   have E2 := Lib.hid e2
   clear e e2 H0
   go_enter Tryz.func148, Tryz.ntmps148
   go_wp2_with (go_at_call 149; refine H.out.mono ?_; rintro e w1 ⟨rfl, hb⟩)
   go_ret2
   exact ⟨by rw [E2.out]; rfl, hb⟩
end Go.Proofs.YtphgdofmjpdhaaaGreat
namespace Go.Proofs.YtphgdofmjpdhaaaGreat
open Go.RowKit
set_option linter.unusedVariables false
def tShow (r : List UInt8 × Int) : PV := tup2 (str r.1) (i64 r.2)
@[simp] theorem flat_tShow (r : List UInt8 × Int) : Flat (tShow r) := by simp [tShow]
theorem pureS {P : Program} {f : FuncId} {args : List Value} {r : List UInt8 × Int} (h : ∀ w, Calls P f args.toArray w fun e w' => e = .returned (.tuple #[.string ⟨r.1.toArray⟩, .int .i64 r.2]) ∧ Grows w w') : PureC P f (args.map .val) (tShow r) :=
 pure_of_calls (v := .tuple #[.string ⟨r.1.toArray⟩, .int .i64 r.2]) (fun c => by unfold tShow tup2 Rep; exact ⟨[_, _], rfl, repL_cons.2 ⟨rep_val _ _, repL_cons.2 ⟨rep_val _ _, repL_nil.2 rfl⟩⟩⟩) h
theorem gbelow {w : World} {v : Value} : ∀ {e : Ending} {w' : World}, (e = .returned v ∧ Below w.heap.size w w') → (e = .returned v ∧ Grows w w') := by rintro e w' ⟨h, k⟩; exact ⟨h, Grows.of_below k⟩
theorem k_Show (n b : Int) (hn : Fit n) : PureC Tryz.prog 148 [i64 n, i64 b] (tShow (showS n b)) := pureS (args := [.int .i64 n, .int .i64 b]) fun w => Calls.mono (num_Show n b w hn) fun _ _ h => gbelow h
theorem k_UShow (n b : Int) (hn : Fit n) : PureC Tryz.prog 149 [i64 n, i64 b] (tShow (ushowS n b)) := pureS (args := [.int .i64 n, .int .i64 b]) fun w => Calls.mono (num_UShow n b w hn) fun _ _ h => gbelow h
theorem k_Digit (n : Int) : PureC Tryz.prog 237 [i64 n] (.val (.int .u8 (digS n))) := pure_of_calls (args := [.int .i64 n]) (fun c => rep_val _ _) fun w => Calls.mono (num_Digit n w) fun _ _ h => gsame h
end Go.Proofs.YtphgdofmjpdhaaaGreat
namespace Go.Proofs.YtphgdofmjpdhaaaGreat
open Go.RowKit
set_option linter.unusedVariables false
set_option maxRecDepth 100000
set_option maxHeartbeats 4000000
def picHold (p : VPic) (c : Int) : VPic × Int := if p.on = true ∧ p.b.length < 130 then (⟨p.b ++ [loB c], p.on⟩, 0) else (p, -17)
def picSign (p : VPic) (n : Int) : VPic × Int := if 0 ≤ n then (p, 0) else picHold p 45
def tPic (r : VPic × Int) : PV := tup2 (ePic r.1) (i64 r.2)
@[simp] theorem flat_tPic (r : VPic × Int) : Flat (tPic r) := by simp [tPic]
theorem pic_Begin : PureC Tryz.prog 153 [] (ePic ⟨[], true⟩) := by
 refine pW tG (rs := [.cell 0 32]) Tryz.func153 rfl rfl rfl (by simp) (by simp) (fun B => ?_)
 refine Ws ?_
 refine W_region rfl ?_
 refine We tG rfl rfl rfl trivial ?_
 refine Wn ?_
 refine Ws ?_
 refine W_region rfl ?_
 iterate 2 refine We tG rfl rfl rfl trivial ?_
 refine Wn ?_
 refine Wq ?_
 refine lP rfl ?_
 first | rfl | (simp_all; done) | (simp_all; omega)
theorem picHold_no {p : VPic} {c : Int} (h : ¬ (p.on = true ∧ p.b.length < 130)) : picHold p c = (p, -17) := by unfold picHold; rw [if_neg h]
theorem picHold_yes {p : VPic} {c : Int} (h : p.on = true ∧ p.b.length < 130) : picHold p c = (⟨p.b ++ [loB c], p.on⟩, 0) := by unfold picHold; rw [if_pos h]
theorem pic_Hold (p : VPic) (c : Int) (hp : p.b.length ≤ 1000000) : PureC Tryz.prog 158 [ePic p, i64 c] (tPic (picHold p c)) := by
 refine pW tG (rs := [.cell 4 32, .tmp 5]) Tryz.func158 rfl rfl rfl (by simp) (by simp) (fun B => ?_)
 refine Ws ?_
 refine W_region rfl ?_
 iterate 3 refine We tG rfl rfl rfl trivial ?_
 refine Wn ?_
 iterate 2 refine Ws ?_
 refine W_region rfl ?_
 iterate 4 refine We tG rfl rfl rfl trivial ?_
 refine Wb 10 rfl (fun hg1 => ?_) (fun hg1 => ?_)
 ·refine Wk rfl rfl ?_
  iterate 3 refine Wk rfl rfl ?_
  refine We tG rfl rfl rfl trivial ?_
  refine Wn ?_
  refine Wt rfl rfl ?_
  refine Ws ?_
  refine W_region rfl ?_
  iterate 3 refine We tG rfl rfl rfl trivial ?_
  refine Wn ?_
  refine Wq ?_
  refine lP rfl ?_
  have hno : ¬ (p.on = true ∧ p.b.length < 130) := by rintro ⟨q1, q2⟩; (try simp only [dnL] at *); (try simp_all) <;> omega
  rw [picHold_no hno]; rfl
 ·refine We tG rfl rfl rfl trivial ?_
  iterate 4 refine We tG rfl rfl rfl trivial ?_
  refine Wn ?_
  refine Wi rfl (fun hi1 => ?_) (fun hi1 => ?_)
  ·refine Ws ?_
   refine W_region rfl ?_
   iterate 3 refine We tG rfl rfl rfl trivial ?_
   refine Wn ?_
   refine Wq ?_
   refine lP rfl ?_
   have hno : ¬ (p.on = true ∧ p.b.length < 130) := by rintro ⟨q1, q2⟩; (try simp only [dnL] at *); (try simp_all) <;> omega
   rw [picHold_no hno]; rfl
  ·refine Wj ?_
   refine Ws ?_
   refine W_region rfl ?_
   iterate 4 refine We tG rfl rfl rfl trivial ?_
   refine Wn ?_
   refine Ws ?_
   refine W_region rfl ?_
   iterate 4 refine We tG rfl rfl rfl trivial ?_
   refine We tG rfl rfl rfl (by first | exact trivial | omega | (simp only [dnL] at *; omega) | (simp_all; done) | (simp_all; omega)) ?_
   refine Wa 24 rfl (sq_slice cByte 1 (fun _ => rfl) (by first | exact trivial | omega | (simp only [dnL] at *; omega) | (simp_all; done) | (simp_all; omega))) ?_
   refine Wa 24 rfl ((show _ = sqc cByte p.b by simp [sqc]; rfl)) ?_
   iterate 2 refine We tG rfl rfl rfl trivial ?_
   refine Wa 26 rfl (loB_pv c) ?_
   refine We tG rfl rfl rfl trivial ?_
   first | refine Wa 27 rfl (bsL cByte [_] rfl rfl) ?_ | skip
   first | refine Wd rfl rfl (does_append_clip (lO tG rfl) rfl (lO tG rfl) (lO tG rfl) rfl rfl (by first | exact ⟨_, rfl⟩ | rfl) (by first | exact ⟨rfl, rfl, flatMap_len _ 1 (fun _ => rfl) _, okC_flat _ (fun _ => rfl) _⟩ | exact ⟨rfl, rfl, by simp, by simp [okC]⟩ | exact ⟨rfl, rfl, rfl⟩) (by first | exact flatMap_len _ 1 (fun _ => rfl) _ | rfl | simp) (by first | (dsimp only; omega) | (first | exact trivial | omega | (simp only [dnL] at *; omega) | (simp_all; done) | (simp_all; omega))) (by first | (dsimp only; omega) | (first | exact trivial | omega | (simp only [dnL] at *; omega) | (simp_all; done) | (simp_all; omega)))) ?_ | refine Wd rfl rfl (does_append_own (lO tG rfl) rfl (lO tG rfl) (lO tG rfl) rfl rfl rfl rfl (by simp) (by first | exact ⟨_, rfl⟩ | rfl) (by first | exact ⟨rfl, rfl, flatMap_len _ 1 (fun _ => rfl) _, okC_flat _ (fun _ => rfl) _⟩ | exact ⟨rfl, rfl, by simp, by simp [okC]⟩ | exact ⟨rfl, rfl, rfl⟩) (by first | (dsimp only; omega) | (first | exact trivial | omega | (simp only [dnL] at *; omega) | (simp_all; done) | (simp_all; omega))) (by first | (dsimp only; omega) | (first | exact trivial | omega | (simp only [dnL] at *; omega) | (simp_all; done) | (simp_all; omega)))) ?_
   first | refine Wa 28 rfl (sq_append cByte) ?_ | refine Wa 28 rfl (sq_snoc cByte _) ?_ | refine Wa 28 rfl (sq_one cByte _) ?_ | refine Wa 28 rfl (sq_none cByte) ?_
   iterate 2 refine We tG rfl rfl rfl trivial ?_
   refine Wn ?_
   refine Ws ?_
   refine W_region rfl ?_
   iterate 3 refine We tG rfl rfl rfl trivial ?_
   refine Wn ?_
   refine Wq ?_
   refine lP rfl ?_
   have hon : p.on = true := by (try simp only [dnL] at *); simp_all
   have hyes : p.on = true ∧ p.b.length < 130 := ⟨hon, by (try simp only [dnL] at *); omega⟩
   rw [picHold_yes hyes]; rfl
end Go.Proofs.YtphgdofmjpdhaaaGreat
namespace Go.Proofs.YtphgdofmjpdhaaaGreat
open Go.RowKit
set_option linter.unusedVariables false
set_option maxRecDepth 100000
set_option maxHeartbeats 4000000
inductive Op1 where
 | abs
 | neg
 | inv
 | inc
 | dec
 | dbl
 | half
 | cells
 | algn
 | cellp
 | eq0
 | lt0
 | ne0
 | gt0
deriving DecidableEq
def names1 : List (Str × Op1) := [([65, 66, 83], .abs), ([78, 69, 71, 65, 84, 69], .neg), ([73, 78, 86, 69, 82, 84], .inv), ([49, 43], .inc), ([49, 45], .dec), ([50, 42], .dbl), ([50, 47], .half), ([67, 69, 76, 76, 83], .cells), ([65, 76, 73, 71, 78, 69, 68], .algn), ([67, 69, 76, 76, 43], .cellp), ([48, 61], .eq0), ([48, 60], .lt0), ([48, 60, 62], .ne0), ([48, 62], .gt0)]
def op1 (s : Str) : Option Op1 := names1.lookup s
def flagS (b : Bool) : Int := if b then -1 else 0
def one (o : Op1) (a : Int) : Int := match o with
 | .abs => if 0 ≤ a then a else wrap64 (-a)
 | .neg => wrap64 (-a)
 | .inv => -1 - a
 | .inc => wrap64 (a + 1)
 | .dec => wrap64 (a - 1)
 | .dbl => wrap64 (a + a)
 | .half => a / 2
 | .cells => wrap64 (a * 8)
 | .algn => if a % 8 = 0 then a else wrap64 (a - a % 8 + 8)
 | .cellp => wrap64 (a + 8)
 | .eq0 => flagS (decide (a = 0))
 | .lt0 => flagS (decide (a < 0))
 | .ne0 => flagS (!decide (a = 0))
 | .gt0 => flagS (decide (0 < a))
def oneS (name : Str) (a : Int) : Int × Bool := match op1 name with
 | some o => (one o a, true)
 | none => (0, false)
def tOne (r : Int × Bool) : PV := tup2 (i64 r.1) (boo r.2)
@[simp] theorem flat_tOne (r : Int × Bool) : Flat (tOne r) := by simp [tOne]
theorem oneS_of {name : Str} {o : Op1} {a : Int} (h : op1 name = some o) : oneS name a = (one o a, true) := by unfold oneS; rw [h]
theorem oneS_no {name : Str} {a : Int} (h : op1 name = none) : oneS name a = (0, false) := by unfold oneS; rw [h]
theorem op1_none {s : Str} (h0 : s ≠ [65, 66, 83]) (h1 : s ≠ [78, 69, 71, 65, 84, 69]) (h2 : s ≠ [73, 78, 86, 69, 82, 84]) (h3 : s ≠ [49, 43]) (h4 : s ≠ [49, 45]) (h5 : s ≠ [50, 42]) (h6 : s ≠ [50, 47]) (h7 : s ≠ [67, 69, 76, 76, 83]) (h8 : s ≠ [65, 76, 73, 71, 78, 69, 68]) (h9 : s ≠ [67, 69, 76, 76, 43]) (h10 : s ≠ [48, 61]) (h11 : s ≠ [48, 60]) (h12 : s ≠ [48, 60, 62]) (h13 : s ≠ [48, 62]) : op1 s = none := by
 unfold op1 names1
 simp only [List.lookup]
 simp [beq_eq_false_iff_ne.2 h0, beq_eq_false_iff_ne.2 h1, beq_eq_false_iff_ne.2 h2, beq_eq_false_iff_ne.2 h3, beq_eq_false_iff_ne.2 h4, beq_eq_false_iff_ne.2 h5, beq_eq_false_iff_ne.2 h6, beq_eq_false_iff_ne.2 h7, beq_eq_false_iff_ne.2 h8, beq_eq_false_iff_ne.2 h9, beq_eq_false_iff_ne.2 h10, beq_eq_false_iff_ne.2 h11, beq_eq_false_iff_ne.2 h12, beq_eq_false_iff_ne.2 h13]
theorem ar_neg (a : Int) : wrap64 (0 - a) = wrap64 (-a) := congrArg wrap64 (by omega)
theorem ar_inv {a : Int} (ha : -9223372036854775808 ≤ a ∧ a ≤ 9223372036854775807) : wrap64 ((BitVec.ofInt 64 (-1) ^^^ BitVec.ofInt 64 a).toNat : Int) = -1 - a := by
 have h1 : BitVec.ofInt 64 (-1) = BitVec.allOnes 64 := by decide
 rw [h1, BitVec.allOnes_xor, BitVec.toNat_not, BitVec.toNat_ofInt]
 have h2 : ((2 ^ 64 : Nat) : Int) = 18446744073709551616 := by decide
 have h3 : (2 ^ 64 : Nat) = 18446744073709551616 := by decide
 rw [h2, h3]
 unfold wrap64
 omega
theorem ar_dbl (a : Int) : wrap64 (a * 2 ^ min (Int.toNat 1) IntKind.i64.bits) = wrap64 (a + a) := by
 have : (2 : Int) ^ min (Int.toNat 1) IntKind.i64.bits = 2 := rfl
 rw [this]; exact congrArg wrap64 (by omega)
theorem ar_half (a : Int) : a.fdiv (2 ^ min (Int.toNat 1) IntKind.i64.bits) = a / 2 := by
 have : (2 : Int) ^ min (Int.toNat 1) IntKind.i64.bits = 2 := rfl
 rw [this, Int.fdiv_eq_ediv_of_nonneg _ (by omega)]
theorem bv_split (x m : BitVec 64) : (x &&& m) + (x &&& ~~~ m) = x := by
 have h1 : (x &&& m) &&& (x &&& ~~~ m) = 0#64 := by
  ext i hi
  simp only [BitVec.getElem_and, BitVec.getElem_not, BitVec.getElem_zero]
  cases x[i] <;> cases m[i] <;> rfl
 rw [BitVec.add_eq_or_of_and_eq_zero _ _ h1]
 ext i hi
 simp only [BitVec.getElem_or, BitVec.getElem_and, BitVec.getElem_not]
 cases x[i] <;> cases m[i] <;> rfl
theorem bv_low (x : BitVec 64) : (x &&& ~~~ 7#64).toNat = x.toNat - x.toNat % 8 := by
 have h2 := bv_split x 7#64
 have h4 := congrArg BitVec.toNat h2
 rw [BitVec.toNat_add] at h4
 have h5 : (x &&& 7#64).toNat = x.toNat % 8 := by rw [BitVec.toNat_and]; exact Nat.and_two_pow_sub_one_eq_mod x.toNat 3
 have h6 : (x &&& ~~~ 7#64).toNat ≤ x.toNat := by rw [BitVec.toNat_and]; exact Nat.and_le_left
 have h7 : (2 ^ 64 : Nat) = 18446744073709551616 := by decide
 have h8 := x.isLt
 rw [h5] at h4
 rw [h7] at h4 h8
 omega
theorem ar_algn {a : Int} (ha : -9223372036854775808 ≤ a ∧ a ≤ 9223372036854775807) : wrap64 ((BitVec.ofInt 64 (IntKind.i64.wrap (IntKind.i64.wrap (a + 8) - 1)) &&& ~~~ BitVec.ofInt 64 7).toNat : Int) = if a % 8 = 0 then a else wrap64 (a - a % 8 + 8) := by
 have h1 : BitVec.ofInt 64 7 = 7#64 := by decide
 rw [h1, bv_low, BitVec.toNat_ofInt]
 have h2 : ((2 ^ 64 : Nat) : Int) = 18446744073709551616 := by decide
 rw [h2, i64w, i64w]
 unfold wrap64
 split <;> omega
theorem pv_one {x y : Int} (h : x = y) : tup2 (.val (.int .i64 x)) (.val (.bool true)) = tOne (y, true) := by rw [h]; rfl
theorem alu_flag (b : Bool) : PureC Tryz.prog 207 [boo b] (i64 (flagS b)) := by
 refine pW tG (rs := [.tmp 2]) Tryz.func207 rfl rfl rfl (by simp) (by simp) (fun B => ?_)
 refine Ws ?_
 refine W_region rfl ?_
 refine We tG rfl rfl rfl trivial ?_
 refine Wn ?_
 iterate 2 refine Ws ?_
 refine W_region rfl ?_
 refine We tG rfl rfl rfl trivial ?_
 refine Wn ?_
 refine Wi rfl (fun hi1 => ?_) (fun hi1 => ?_)
 ·refine Ws ?_
  refine W_region rfl ?_
  refine We tG rfl rfl rfl trivial ?_
  refine Wn ?_
  refine Wq ?_
  refine lP rfl ?_
  simp_all [flagS, i64]
 ·refine Wj ?_
  refine Ws ?_
  refine W_region rfl ?_
  refine We tG rfl rfl rfl trivial ?_
  refine Wn ?_
  refine Wq ?_
  refine lP rfl ?_
  simp_all [flagS, i64]
theorem alu_asked1 (b : Bool) : PureC Tryz.prog 209 [boo b] (tOne (flagS b, true)) := by
 refine pW tG (rs := [.tmp 2, .tmp 3]) Tryz.func209 rfl rfl rfl (by simp) (by simp) (fun B => ?_)
 refine Ws ?_
 refine W_region rfl ?_
 iterate 2 refine We tG rfl rfl rfl trivial ?_
 refine Wn ?_
 refine Ws ?_
 refine W_region rfl ?_
 refine We tG rfl rfl rfl trivial ?_
 refine Wc rfl rfl (dC rfl Tryz.func207 rfl rfl ((alu_flag b) _)) ?_
 iterate 2 refine We tG rfl rfl rfl trivial ?_
 refine Wn ?_
 refine Wq ?_
 refine lP rfl ?_
 first | rfl | (simp_all; done) | (simp_all; omega)
def askS (name : Str) (a : Int) : Int × Bool := if name = [48, 61] then (one .eq0 a, true) else if name = [48, 60] then (one .lt0 a, true) else if name = [48, 60, 62] then (one .ne0 a, true) else if name = [48, 62] then (one .gt0 a, true) else (0, false)
theorem askS_one {s : Str} {a : Int} (h0 : s ≠ [65, 66, 83]) (h1 : s ≠ [78, 69, 71, 65, 84, 69]) (h2 : s ≠ [73, 78, 86, 69, 82, 84]) (h3 : s ≠ [49, 43]) (h4 : s ≠ [49, 45]) (h5 : s ≠ [50, 42]) (h6 : s ≠ [50, 47]) (h7 : s ≠ [67, 69, 76, 76, 83]) (h8 : s ≠ [65, 76, 73, 71, 78, 69, 68]) (h9 : s ≠ [67, 69, 76, 76, 43]) : askS s a = oneS s a := by
 unfold askS
 by_cases h10 : s = [48, 61]
 ·subst h10; rfl
 rw [if_neg h10]
 by_cases h11 : s = [48, 60]
 ·subst h11; rfl
 rw [if_neg h11]
 by_cases h12 : s = [48, 60, 62]
 ·subst h12; rfl
 rw [if_neg h12]
 by_cases h13 : s = [48, 62]
 ·subst h13; rfl
 rw [if_neg h13]
 exact (oneS_no (op1_none h0 h1 h2 h3 h4 h5 h6 h7 h8 h9 h10 h11 h12 h13)).symm
theorem alu_asked (name : Str) (a : Int) : PureC Tryz.prog 84 [str name, i64 a] (tOne (askS name a)) := by
 refine pW tG (rs := [.tmp 4, .tmp 5]) Tryz.func84 rfl rfl rfl (by simp) (by simp) (fun B => ?_)
 refine Ws ?_
 refine W_region rfl ?_
 iterate 2 refine We tG rfl rfl rfl trivial ?_
 refine Wn ?_
 refine Ws ?_
 refine W_region rfl ?_
 refine We tG rfl rfl rfl trivial ?_
 refine Wn ?_
 iterate 2 refine Ws ?_
 refine W_region rfl ?_
 refine We tG rfl rfl rfl trivial ?_
 refine Wn ?_
 refine Wl ?_
 refine Ws ?_
 refine W_region rfl ?_
 refine We tG rfl rfl rfl trivial ?_
 refine Wa 9 rfl (str_eql _ _) ?_
 refine We tG rfl rfl rfl trivial ?_
 refine Wn ?_
 refine Wi rfl (fun hi1 => ?_) (fun hi1 => ?_)
 ·obtain rfl := of_decide_eq_true hi1
  refine Ws ?_
  refine W_region rfl ?_
  iterate 3 refine We tG rfl rfl rfl trivial ?_
  refine Wc rfl rfl (doesCWv rfl rfl Tryz.func209 rfl rfl (alu_asked1 _ _)) ?_
  iterate 4 refine We tG rfl rfl rfl trivial ?_
  refine Wn ?_
  refine Wq ?_
  refine lP rfl ?_
  exact congrArg tOne (Prod.ext (congrArg flagS (by first | rfl | (rw [Bool.eq_iff_iff]; simp))) rfl)
 ·refine Ws ?_
  refine W_region rfl ?_
  refine We tG rfl rfl rfl trivial ?_
  refine Wa 17 rfl (str_eql _ _) ?_
  refine We tG rfl rfl rfl trivial ?_
  refine Wn ?_
  refine Wi rfl (fun hi2 => ?_) (fun hi2 => ?_)
  ·obtain rfl := of_decide_eq_true hi2
   refine Ws ?_
   refine W_region rfl ?_
   iterate 3 refine We tG rfl rfl rfl trivial ?_
   refine Wc rfl rfl (doesCWv rfl rfl Tryz.func209 rfl rfl (alu_asked1 _ _)) ?_
   iterate 4 refine We tG rfl rfl rfl trivial ?_
   refine Wn ?_
   refine Wq ?_
   refine lP rfl ?_
   exact congrArg tOne (Prod.ext (congrArg flagS (by first | rfl | (rw [Bool.eq_iff_iff]; simp))) rfl)
  ·refine Ws ?_
   refine W_region rfl ?_
   refine We tG rfl rfl rfl trivial ?_
   refine Wa 25 rfl (str_eql _ _) ?_
   refine We tG rfl rfl rfl trivial ?_
   refine Wn ?_
   refine Wi rfl (fun hi3 => ?_) (fun hi3 => ?_)
   ·obtain rfl := of_decide_eq_true hi3
    refine Ws ?_
    refine W_region rfl ?_
    iterate 3 refine We tG rfl rfl rfl trivial ?_
    refine Wc rfl rfl (doesCWv rfl rfl Tryz.func209 rfl rfl (alu_asked1 _ _)) ?_
    iterate 4 refine We tG rfl rfl rfl trivial ?_
    refine Wn ?_
    refine Wq ?_
    refine lP rfl ?_
    exact congrArg tOne (Prod.ext (congrArg flagS (by first | rfl | (rw [Bool.eq_iff_iff]; simp))) rfl)
   ·refine Ws ?_
    refine W_region rfl ?_
    refine We tG rfl rfl rfl trivial ?_
    refine Wa 33 rfl (str_eql _ _) ?_
    refine We tG rfl rfl rfl trivial ?_
    refine Wn ?_
    refine Wi rfl (fun hi4 => ?_) (fun hi4 => ?_)
    ·obtain rfl := of_decide_eq_true hi4
     refine Ws ?_
     refine W_region rfl ?_
     iterate 3 refine We tG rfl rfl rfl trivial ?_
     refine Wc rfl rfl (doesCWv rfl rfl Tryz.func209 rfl rfl (alu_asked1 _ _)) ?_
     iterate 4 refine We tG rfl rfl rfl trivial ?_
     refine Wn ?_
     refine Wq ?_
     refine lP rfl ?_
     exact congrArg tOne (Prod.ext (congrArg flagS (by first | rfl | (rw [Bool.eq_iff_iff]; simp))) rfl)
    ·refine Wj ?_
     refine Ws ?_
     refine W_region rfl ?_
     iterate 2 refine We tG rfl rfl rfl trivial ?_
     refine Wn ?_
     refine Wq ?_
     refine lP rfl ?_
     have h1 := of_decide_eq_false hi1
     have h2 := of_decide_eq_false hi2
     have h3 := of_decide_eq_false hi3
     have h4 := of_decide_eq_false hi4
     rw [askS, if_neg h1, if_neg h2, if_neg h3, if_neg h4]; rfl
theorem alu_One (name : Str) (a : Int) (ha : -9223372036854775808 ≤ a ∧ a ≤ 9223372036854775807) : PureC Tryz.prog 54 [str name, i64 a] (tOne (oneS name a)) := by
 refine pW tG (rs := [.tmp 4, .tmp 5]) Tryz.func54 rfl rfl rfl (by simp) (by simp) (fun B => ?_)
 refine Ws ?_
 refine W_region rfl ?_
 iterate 2 refine We tG rfl rfl rfl trivial ?_
 refine Wn ?_
 iterate 2 refine Ws ?_
 refine W_region rfl ?_
 refine We tG rfl rfl rfl trivial ?_
 refine Wn ?_
 refine Wl ?_
 refine Ws ?_
 refine Wl ?_
 refine Ws ?_
 refine Wl ?_
 refine Ws ?_
 refine Wl ?_
 refine Ws ?_
 refine Wl ?_
 refine Ws ?_
 refine Wl ?_
 refine Ws ?_
 refine Wl ?_
 refine Ws ?_
 refine Wl ?_
 refine Ws ?_
 refine Wl ?_
 refine Ws ?_
 refine Wl ?_
 refine Ws ?_
 refine Wl ?_
 iterate 3 refine Ws ?_
 refine W_region rfl ?_
 refine We tG rfl rfl rfl trivial ?_
 refine Wa 8 rfl (str_eql _ _) ?_
 refine We tG rfl rfl rfl trivial ?_
 refine Wn ?_
 refine Wi rfl (fun hi1 => ?_) (fun hi1 => ?_)
 ·obtain rfl := of_decide_eq_true hi1
  refine W_exit ?_
  refine Ws ?_
  refine W_region rfl ?_
  iterate 2 refine We tG rfl rfl rfl trivial ?_
  refine Wn ?_
  refine Wi rfl (fun hi2 => ?_) (fun hi2 => ?_)
  ·refine Ws ?_
   refine W_region rfl ?_
   iterate 3 refine We tG rfl rfl rfl trivial ?_
   refine Wn ?_
   refine Wq ?_
   refine lP rfl ?_
   refine (pv_one (y := one .abs a) ?_).trans (congrArg tOne (oneS_of (o := .abs) rfl).symm)
   simp only [one]; first | rfl | ((try simp only [dnL] at *); rw [if_pos (by omega)]) | (rw [i64w]; done) | ((try simp only [dnL] at *); rw [if_neg (by omega), i64w]; exact ar_neg a) | (rw [i64w]; exact ar_neg a) | exact ar_inv ha | (rw [i64w]; exact ar_inv ha) | exact ar_half a | (rw [i64w]; exact ar_dbl a) | (rw [i64w]; exact ar_algn ha)
  ·refine Wj ?_
   iterate 2 refine Ws ?_
   refine W_region rfl ?_
   iterate 4 refine We tG rfl rfl rfl trivial ?_
   refine Wn ?_
   refine Wq ?_
   refine lP rfl ?_
   refine (pv_one (y := one .abs a) ?_).trans (congrArg tOne (oneS_of (o := .abs) rfl).symm)
   simp only [one]; first | rfl | ((try simp only [dnL] at *); rw [if_pos (by omega)]) | (rw [i64w]; done) | ((try simp only [dnL] at *); rw [if_neg (by omega), i64w]; exact ar_neg a) | (rw [i64w]; exact ar_neg a) | exact ar_inv ha | (rw [i64w]; exact ar_inv ha) | exact ar_half a | (rw [i64w]; exact ar_dbl a) | (rw [i64w]; exact ar_algn ha)
 ·refine Wj ?_
  iterate 2 refine Ws ?_
  refine W_region rfl ?_
  refine We tG rfl rfl rfl trivial ?_
  refine Wa 10 rfl (str_eql _ _) ?_
  refine We tG rfl rfl rfl trivial ?_
  refine Wn ?_
  refine Wi rfl (fun hi3 => ?_) (fun hi3 => ?_)
  ·obtain rfl := of_decide_eq_true hi3
   refine W_exit ?_
   iterate 2 refine Ws ?_
   refine W_region rfl ?_
   iterate 4 refine We tG rfl rfl rfl trivial ?_
   refine Wn ?_
   refine Wq ?_
   refine lP rfl ?_
   refine (pv_one (y := one .neg a) ?_).trans (congrArg tOne (oneS_of (o := .neg) rfl).symm)
   simp only [one]; first | rfl | ((try simp only [dnL] at *); rw [if_pos (by omega)]) | (rw [i64w]; done) | ((try simp only [dnL] at *); rw [if_neg (by omega), i64w]; exact ar_neg a) | (rw [i64w]; exact ar_neg a) | exact ar_inv ha | (rw [i64w]; exact ar_inv ha) | exact ar_half a | (rw [i64w]; exact ar_dbl a) | (rw [i64w]; exact ar_algn ha)
  ·refine Wj ?_
   iterate 2 refine Ws ?_
   refine W_region rfl ?_
   refine We tG rfl rfl rfl trivial ?_
   refine Wa 12 rfl (str_eql _ _) ?_
   refine We tG rfl rfl rfl trivial ?_
   refine Wn ?_
   refine Wi rfl (fun hi4 => ?_) (fun hi4 => ?_)
   ·obtain rfl := of_decide_eq_true hi4
    refine W_exit ?_
    iterate 2 refine Ws ?_
    refine W_region rfl ?_
    iterate 4 refine We tG rfl rfl rfl trivial ?_
    refine Wn ?_
    refine Wq ?_
    refine lP rfl ?_
    refine (pv_one (y := one .inv a) ?_).trans (congrArg tOne (oneS_of (o := .inv) rfl).symm)
    simp only [one]; first | rfl | ((try simp only [dnL] at *); rw [if_pos (by omega)]) | (rw [i64w]; done) | ((try simp only [dnL] at *); rw [if_neg (by omega), i64w]; exact ar_neg a) | (rw [i64w]; exact ar_neg a) | exact ar_inv ha | (rw [i64w]; exact ar_inv ha) | exact ar_half a | (rw [i64w]; exact ar_dbl a) | (rw [i64w]; exact ar_algn ha)
   ·refine Wj ?_
    iterate 2 refine Ws ?_
    refine W_region rfl ?_
    refine We tG rfl rfl rfl trivial ?_
    refine Wa 14 rfl (str_eql _ _) ?_
    refine We tG rfl rfl rfl trivial ?_
    refine Wn ?_
    refine Wi rfl (fun hi5 => ?_) (fun hi5 => ?_)
    ·obtain rfl := of_decide_eq_true hi5
     refine W_exit ?_
     iterate 2 refine Ws ?_
     refine W_region rfl ?_
     iterate 4 refine We tG rfl rfl rfl trivial ?_
     refine Wn ?_
     refine Wq ?_
     refine lP rfl ?_
     refine (pv_one (y := one .inc a) ?_).trans (congrArg tOne (oneS_of (o := .inc) rfl).symm)
     simp only [one]; first | rfl | ((try simp only [dnL] at *); rw [if_pos (by omega)]) | (rw [i64w]; done) | ((try simp only [dnL] at *); rw [if_neg (by omega), i64w]; exact ar_neg a) | (rw [i64w]; exact ar_neg a) | exact ar_inv ha | (rw [i64w]; exact ar_inv ha) | exact ar_half a | (rw [i64w]; exact ar_dbl a) | (rw [i64w]; exact ar_algn ha)
    ·refine Wj ?_
     iterate 2 refine Ws ?_
     refine W_region rfl ?_
     refine We tG rfl rfl rfl trivial ?_
     refine Wa 16 rfl (str_eql _ _) ?_
     refine We tG rfl rfl rfl trivial ?_
     refine Wn ?_
     refine Wi rfl (fun hi6 => ?_) (fun hi6 => ?_)
     ·obtain rfl := of_decide_eq_true hi6
      refine W_exit ?_
      iterate 2 refine Ws ?_
      refine W_region rfl ?_
      iterate 4 refine We tG rfl rfl rfl trivial ?_
      refine Wn ?_
      refine Wq ?_
      refine lP rfl ?_
      refine (pv_one (y := one .dec a) ?_).trans (congrArg tOne (oneS_of (o := .dec) rfl).symm)
      simp only [one]; first | rfl | ((try simp only [dnL] at *); rw [if_pos (by omega)]) | (rw [i64w]; done) | ((try simp only [dnL] at *); rw [if_neg (by omega), i64w]; exact ar_neg a) | (rw [i64w]; exact ar_neg a) | exact ar_inv ha | (rw [i64w]; exact ar_inv ha) | exact ar_half a | (rw [i64w]; exact ar_dbl a) | (rw [i64w]; exact ar_algn ha)
     ·refine Wj ?_
      iterate 2 refine Ws ?_
      refine W_region rfl ?_
      refine We tG rfl rfl rfl trivial ?_
      refine Wa 18 rfl (str_eql _ _) ?_
      refine We tG rfl rfl rfl trivial ?_
      refine Wn ?_
      refine Wi rfl (fun hi7 => ?_) (fun hi7 => ?_)
      ·obtain rfl := of_decide_eq_true hi7
       refine W_exit ?_
       iterate 2 refine Ws ?_
       refine W_region rfl ?_
       iterate 4 refine We tG rfl rfl rfl trivial ?_
       refine Wn ?_
       refine Wq ?_
       refine lP rfl ?_
       refine (pv_one (y := one .dbl a) ?_).trans (congrArg tOne (oneS_of (o := .dbl) rfl).symm)
       simp only [one]; first | rfl | ((try simp only [dnL] at *); rw [if_pos (by omega)]) | (rw [i64w]; done) | ((try simp only [dnL] at *); rw [if_neg (by omega), i64w]; exact ar_neg a) | (rw [i64w]; exact ar_neg a) | exact ar_inv ha | (rw [i64w]; exact ar_inv ha) | exact ar_half a | (rw [i64w]; exact ar_dbl a) | (rw [i64w]; exact ar_algn ha)
      ·refine Wj ?_
       iterate 2 refine Ws ?_
       refine W_region rfl ?_
       refine We tG rfl rfl rfl trivial ?_
       refine Wa 20 rfl (str_eql _ _) ?_
       refine We tG rfl rfl rfl trivial ?_
       refine Wn ?_
       refine Wi rfl (fun hi8 => ?_) (fun hi8 => ?_)
       ·obtain rfl := of_decide_eq_true hi8
        refine W_exit ?_
        iterate 2 refine Ws ?_
        refine W_region rfl ?_
        iterate 4 refine We tG rfl rfl rfl trivial ?_
        refine Wn ?_
        refine Wq ?_
        refine lP rfl ?_
        refine (pv_one (y := one .half a) ?_).trans (congrArg tOne (oneS_of (o := .half) rfl).symm)
        simp only [one]; first | rfl | ((try simp only [dnL] at *); rw [if_pos (by omega)]) | (rw [i64w]; done) | ((try simp only [dnL] at *); rw [if_neg (by omega), i64w]; exact ar_neg a) | (rw [i64w]; exact ar_neg a) | exact ar_inv ha | (rw [i64w]; exact ar_inv ha) | exact ar_half a | (rw [i64w]; exact ar_dbl a) | (rw [i64w]; exact ar_algn ha)
       ·refine Wj ?_
        iterate 2 refine Ws ?_
        refine W_region rfl ?_
        refine We tG rfl rfl rfl trivial ?_
        refine Wa 22 rfl (str_eql _ _) ?_
        refine We tG rfl rfl rfl trivial ?_
        refine Wn ?_
        refine Wi rfl (fun hi9 => ?_) (fun hi9 => ?_)
        ·obtain rfl := of_decide_eq_true hi9
         refine W_exit ?_
         iterate 2 refine Ws ?_
         refine W_region rfl ?_
         iterate 4 refine We tG rfl rfl rfl trivial ?_
         refine Wn ?_
         refine Wq ?_
         refine lP rfl ?_
         refine (pv_one (y := one .cells a) ?_).trans (congrArg tOne (oneS_of (o := .cells) rfl).symm)
         simp only [one]; first | rfl | ((try simp only [dnL] at *); rw [if_pos (by omega)]) | (rw [i64w]; done) | ((try simp only [dnL] at *); rw [if_neg (by omega), i64w]; exact ar_neg a) | (rw [i64w]; exact ar_neg a) | exact ar_inv ha | (rw [i64w]; exact ar_inv ha) | exact ar_half a | (rw [i64w]; exact ar_dbl a) | (rw [i64w]; exact ar_algn ha)
        ·refine Wj ?_
         iterate 2 refine Ws ?_
         refine W_region rfl ?_
         refine We tG rfl rfl rfl trivial ?_
         refine Wa 24 rfl (str_eql _ _) ?_
         refine We tG rfl rfl rfl trivial ?_
         refine Wn ?_
         refine Wi rfl (fun hi10 => ?_) (fun hi10 => ?_)
         ·obtain rfl := of_decide_eq_true hi10
          refine W_exit ?_
          iterate 2 refine Ws ?_
          refine W_region rfl ?_
          iterate 6 refine We tG rfl rfl rfl trivial ?_
          refine Wn ?_
          refine Wq ?_
          refine lP rfl ?_
          refine (pv_one (y := one .algn a) ?_).trans (congrArg tOne (oneS_of (o := .algn) rfl).symm)
          simp only [one]; first | rfl | ((try simp only [dnL] at *); rw [if_pos (by omega)]) | (rw [i64w]; done) | ((try simp only [dnL] at *); rw [if_neg (by omega), i64w]; exact ar_neg a) | (rw [i64w]; exact ar_neg a) | exact ar_inv ha | (rw [i64w]; exact ar_inv ha) | exact ar_half a | (rw [i64w]; exact ar_dbl a) | (rw [i64w]; exact ar_algn ha)
         ·refine Wj ?_
          refine Ws ?_
          refine W_region rfl ?_
          refine We tG rfl rfl rfl trivial ?_
          refine Wa 26 rfl (str_eql _ _) ?_
          refine We tG rfl rfl rfl trivial ?_
          refine Wn ?_
          refine Wi rfl (fun hi11 => ?_) (fun hi11 => ?_)
          ·obtain rfl := of_decide_eq_true hi11
           refine W_exit ?_
           iterate 2 refine Ws ?_
           refine W_region rfl ?_
           iterate 4 refine We tG rfl rfl rfl trivial ?_
           refine Wn ?_
           refine Wq ?_
           refine lP rfl ?_
           refine (pv_one (y := one .cellp a) ?_).trans (congrArg tOne (oneS_of (o := .cellp) rfl).symm)
           simp only [one]; first | rfl | ((try simp only [dnL] at *); rw [if_pos (by omega)]) | (rw [i64w]; done) | ((try simp only [dnL] at *); rw [if_neg (by omega), i64w]; exact ar_neg a) | (rw [i64w]; exact ar_neg a) | exact ar_inv ha | (rw [i64w]; exact ar_inv ha) | exact ar_half a | (rw [i64w]; exact ar_dbl a) | (rw [i64w]; exact ar_algn ha)
          ·refine Wj ?_
           refine W_exit ?_
           refine Ws ?_
           refine W_region rfl ?_
           iterate 2 refine We tG rfl rfl rfl trivial ?_
           refine Wc rfl rfl (dC rfl Tryz.func84 rfl rfl ((alu_asked name a) _)) ?_
           iterate 4 refine We tG rfl rfl rfl trivial ?_
           refine Wn ?_
           refine Wq ?_
           refine lP rfl ?_
           rw [askS_one (of_decide_eq_false hi1) (of_decide_eq_false hi3) (of_decide_eq_false hi4) (of_decide_eq_false hi5) (of_decide_eq_false hi6) (of_decide_eq_false hi7) (of_decide_eq_false hi8) (of_decide_eq_false hi9) (of_decide_eq_false hi10) (of_decide_eq_false hi11)]; rfl
end Go.Proofs.YtphgdofmjpdhaaaGreat
