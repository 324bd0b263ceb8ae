import Derived.ArgAppend
import Derived.Below
import Derived.ChangeKeysEq
import Derived.ChangeOld
import Derived.ChangeSlices
import Derived.Deep.DeepCutAuto
import Derived.Ground.SlgnProg
import Derived.Handy
import Derived.LaidEql
import Derived.Laws.AppendOwn
import Derived.Laws.BytesArg
import Derived.Laws.CopyOwn
import Derived.Laws.RangeAny
import Derived.Laws.RangeString
import Derived.Laws.StructEq
import Derived.Lib.AppendZerosOnto
import Derived.Lib.IndexBytes
import Derived.Lib.OwnBridge
import Derived.Lib.SliceRun
import Derived.Lib.Walk
import Derived.Maps.AppendAt
import Derived.OpenShut
import Derived.ProofKit
import Derived.RegionTactic
import Derived.RowKitTokens
import Derived.Shelf.Bytes.SlEqualAll
import Derived.Shelf.SlGeneric
import Derived.Shelf.SlicesE.Clone
import Derived.Shelf.SlicesE.Reverse
import Derived.ShutString
import Derived.Stop.Asserts
import Derived.Stop.IfaceNil
import Derived.Test.YtobhnjnffnbbkaaGreatDoorProg
import Derived.WalkKit
import Derived.Test.YtobhnjnffnbbkaaGreatDoorPk9
set_option linter.unusedVariables false
set_option linter.unusedSimpArgs false
namespace Go.Proofs.YtobhnjnffnbbkaaGreatDoor
open Go.ChangeShapes Go.WideShapes Go.ChangeAt Go.RowKit
open Go.ChangeMaps (open_string)
set_option maxRecDepth 100000 in
theorem reads_int {w : World} {t : TypeId} {v : Value} {k : IntKind} (ht : Tryz.prog.underlying t = some (.int k)) (h : Reads w t v) : ∃ n, v = .int k n ∧ (Lit.int k n).wf = true := by
 obtain ⟨H, enc, d, p, base, hv, hd⟩ := h
 obtain ⟨n, hn, _, _, hw⟩ := open_int ht hv hd
 exact ⟨n, hn, hw⟩
end Go.Proofs.YtobhnjnffnbbkaaGreatDoor
namespace Go.Proofs.YtobhnjnffnbbkaaGreatDoor
open Go.RowKit
set_option linter.unusedVariables false
set_option maxRecDepth 100000
theorem reads_i64 {w : World} {v : Value} (h : Reads w 3 v) : ∃ n, Fit64 n ∧ Rep (c0 w) (i64 n) v := by
 obtain ⟨n, rfl, h2⟩ := reads_int Tryz.underlying3 h
 exact ⟨n, wf_fit h2, by unfold i64; exact rep_val _ _⟩
end Go.Proofs.YtobhnjnffnbbkaaGreatDoor
namespace Go.Proofs.YtobhnjnffnbbkaaGreatDoor
open Go.RowKit
set_option linter.unusedVariables false
set_option maxRecDepth 100000
set_option maxHeartbeats 4000000
def bytesN : Nat → Nat → List Int
 | 0, _ => []
 | k + 1, u => ((u % 256 : Nat) : Int) :: bytesN k (u / 256)
theorem valB_bytesN (k : Nat) : ∀ u : Nat, u < 256 ^ k → valB (bytesN k u) = u := by
 induction k with
 | zero => intro u h; simp at h; simp [bytesN, valB, h]
 | succ k ih =>
  intro u h
  rw [Nat.pow_succ] at h
  simp only [bytesN, valB, ih (u / 256) (by omega), Int.toNat_natCast]
  omega
theorem bytes8_N (u : Nat) : bytes8 u = bytesN 8 u := by
 simp only [bytes8, bytesN, Nat.div_div_eq_div_mul]
 rfl
theorem valB_bytes8 (u : Nat) (h : u < 18446744073709551616) : valB (bytes8 u) = u := by
 rw [bytes8_N]; exact valB_bytesN 8 u (by rw [show (256 : Nat) ^ 8 = 18446744073709551616 from by decide]; exact h)
theorem getC_putC {n : Int} (h : Fit64 n) : getC (putC n) = n := by
 have e : (putC n).map (fun b => (b.toNat : Int)) = bytes8 (U n) := by
  unfold putC
  rw [List.map_map]
  have : ∀ x ∈ bytes8 (U n), ((fun b : UInt8 => (b.toNat : Int)) ∘ fun x : Int => UInt8.ofNat x.toNat) x = id x := by
   intro x hx
   have := b8_rng (U n) x hx
   simp only [Function.comp, id]
   rw [UInt8.toNat_ofNat']
   omega
  rw [List.map_congr_left this, List.map_id]
 unfold getC
 rw [e, valB_bytes8 _ (U_lt n)]
 exact S_U n h
def stM (m : VMem) (a n : Int) : VMem := ⟨laidB m.b a.toNat (putC n), m.old ++ [⟨a, (m.b.drop a.toNat).take 8⟩]⟩
theorem there_ok {m : VMem} {a n : Int} (h0 : 0 ≤ a) (h1 : 0 < n) (h2 : a + n ≤ m.b.length) : memThere m a n = true := by
 unfold memThere
 rw [decide_eq_true_eq]
 omega
theorem cell_ok {m : VMem} {a : Int} (h0 : 0 ≤ a) (h1 : a % 8 = 0) (h2 : a + 8 ≤ m.b.length) : memCellAt m a = 0 := by
 unfold memCellAt
 rw [there_ok h0 (by omega) h2, if_pos rfl, if_pos (by rw [Int.tmod_eq_emod_of_nonneg h0]; exact h1)]
theorem write_ok {m : VMem} {a : Int} (n : Int) (h0 : 0 ≤ a) (h2 : a + 8 ≤ m.b.length) : memWrite m a (putC n) = (stM m a n, 0) := by
 unfold memWrite
 rw [putC_len, if_pos (show memThere m a ((8 : Nat) : Int) = true from there_ok h0 (by omega) h2), if_neg (by intro h; have := congrArg List.length h; rw [putC_len] at this; cases this)]
 rfl
theorem store_ok {m : VMem} {a : Int} (n : Int) (h0 : 0 ≤ a) (h1 : a % 8 = 0) (h2 : a + 8 ≤ m.b.length) : memStore m a n = (stM m a n, 0) := by
 unfold memStore
 rw [if_pos (cell_ok h0 h1 h2), write_ok n h0 h2]
theorem stM_len {m : VMem} {a n : Int} (h0 : 0 ≤ a) (h2 : a + 8 ≤ m.b.length) : (stM m a n).b.length = m.b.length := by
 unfold stM
 exact laidB_len (by rw [putC_len]; omega)
theorem laid_at {l x : List UInt8} {k : Nat} (h : k + x.length ≤ l.length) : ((laidB l k x).drop k).take x.length = x := by
 unfold laidB
 rw [List.append_assoc, List.drop_left' (by rw [List.length_take]; omega), List.take_left' rfl]
theorem laid_below {l x : List UInt8} {k c n : Nat} (h : c + n ≤ k) (h2 : k ≤ l.length) : ((laidB l k x).drop c).take n = (l.drop c).take n := by
 unfold laidB
 rw [List.append_assoc, List.drop_append_of_le_length (by rw [List.length_take]; omega), List.take_append_of_le_length (by rw [List.length_drop, List.length_take]; omega), List.drop_take, List.take_take, Nat.min_eq_left (by omega)]
theorem fetch_same {m : VMem} {a n : Int} (hn : Fit64 n) (h0 : 0 ≤ a) (h1 : a % 8 = 0) (h2 : a + 8 ≤ m.b.length) : memFetch (stM m a n) a = (n, 0) := by
 unfold memFetch
 rw [cell_ok h0 h1 (by rw [stM_len h0 h2]; exact h2), if_pos rfl]
 have e : ((stM m a n).b.drop a.toNat).take 8 = putC n := laid_at (x := putC n) (by rw [putC_len]; omega)
 rw [e, getC_putC hn]
theorem fetch_below {m : VMem} {a b n : Int} (h0 : 0 ≤ b) (h1 : b % 8 = 0) (h3 : b + 8 ≤ a) (h2 : a + 8 ≤ m.b.length) : memFetch (stM m a n) b = memFetch m b := by
 unfold memFetch
 rw [cell_ok h0 h1 (by rw [stM_len (by omega) h2]; omega), cell_ok h0 h1 (by omega), if_pos rfl, if_pos rfl]
 have e : ((stM m a n).b.drop b.toNat).take 8 = (m.b.drop b.toNat).take 8 := laid_below (by omega) (by omega)
 rw [e]
end Go.Proofs.YtobhnjnffnbbkaaGreatDoor
namespace Go.Proofs.YtobhnjnffnbbkaaGreatDoor
open Go.RowKit
set_option linter.unusedVariables false
set_option maxRecDepth 100000
set_option maxHeartbeats 4000000
structure MemIs (m : VMem) (L : Nat) (g : Int → Int) : Prop where
 len : m.b.length = L
 cell : ∀ a : Int, 0 ≤ a → a % 8 = 0 → a + 8 ≤ (L : Int) → memFetch m a = (g a, 0)
def updI (g : Int → Int) (a n x : Int) : Int := if x = a then n else g x
theorem laid_above {l x : List UInt8} {k c n : Nat} (h : k + x.length ≤ c) (h2 : k + x.length ≤ l.length) : ((laidB l k x).drop c).take n = (l.drop c).take n := by
 unfold laidB
 have e : (l.take k ++ x).length = k + x.length := by rw [List.length_append, List.length_take]; omega
 rw [List.drop_append, List.drop_eq_nil_of_le (by rw [e]; exact h), List.nil_append, e, List.drop_drop, show k + x.length + (c - (k + x.length)) = c by omega]
theorem fetch_above {m : VMem} {a b n : Int} (h0 : 0 ≤ a) (h1 : b % 8 = 0) (h3 : a + 8 ≤ b) (h2 : b + 8 ≤ m.b.length) : memFetch (stM m a n) b = memFetch m b := by
 unfold memFetch
 rw [cell_ok (by omega) h1 (by rw [stM_len (by omega) (by omega)]; omega), cell_ok (by omega) h1 (by omega), if_pos rfl, if_pos rfl]
 have e : ((stM m a n).b.drop b.toNat).take 8 = (m.b.drop b.toNat).take 8 := laid_above (by rw [putC_len]; omega) (by rw [putC_len]; omega)
 rw [e]
def okA (L : Nat) (a : Int) : Bool := decide (0 ≤ a) && decide (a % 8 = 0) && decide (a + 8 ≤ (L : Int))
theorem okA_iff {L : Nat} {a : Int} : okA L a = true ↔ 0 ≤ a ∧ a % 8 = 0 ∧ a + 8 ≤ (L : Int) := by unfold okA; simp only [Bool.and_eq_true, decide_eq_true_eq, and_assoc]
theorem MemIs.store {m : VMem} {L : Nat} {g : Int → Int} (h : MemIs m L g) {a n : Int} (hn : Fit64 n) (ha : okA L a = true) : MemIs (stM m a n) L (updI g a n) := by
 obtain ⟨h0, h1, h2⟩ := okA_iff.1 ha
 have hl := h.len
 refine ⟨(stM_len h0 (by rw [hl]; exact h2)).trans hl, fun x x0 x1 x2 => ?_⟩
 unfold updI
 by_cases hx : x = a
 ·subst hx
  rw [if_pos rfl]
  exact fetch_same hn h0 h1 (by rw [hl]; exact h2)
 ·rw [if_neg hx, ← h.cell x x0 x1 x2]
  by_cases hlt : x < a
  ·exact fetch_below x0 x1 (by omega) (by rw [hl]; exact h2)
  ·exact fetch_above h0 x1 (by omega) (by rw [hl]; exact x2)
theorem MemIs.put {m : VMem} {L : Nat} {g : Int → Int} (h : MemIs m L g) {a n : Int} (ha : okA L a = true) : memStore m a n = (stM m a n, 0) := by
 obtain ⟨h0, h1, h2⟩ := okA_iff.1 ha
 exact store_ok n h0 h1 (by rw [h.len]; exact h2)
theorem MemIs.bare {m : VMem} {L : Nat} {g : Int → Int} (h : MemIs m L g) : MemIs ⟨m.b, []⟩ L g := ⟨h.len, h.cell⟩
def laidG (g : Int → Int) (at_ : Int) (cells : List Int) : Nat → Int → Int
 | 0 => g
 | k + 1 => updI (laidG g at_ cells k) (at_ + 8 + 8 * (k : Int)) (cells.getD k 0)
theorem w64_small {n : Int} (h0 : 0 ≤ n) (h1 : n ≤ 1000000) : W64 n = n := w64_id (by unfold Fit64; omega)
theorem fit_getD {l : List Int} (h : FitL l) (k : Nat) : Fit64 (l.getD k 0) := by
 rw [List.getD_eq_getElem?_getD]
 cases e : l[k]? with
 | none => exact fit64_0
 | some x => exact h x (List.mem_of_getElem? e)
theorem MemIs.laidK {m : VMem} {L : Nat} {g : Int → Int} (h : MemIs m L g) {at_ : Int} {cells : List Int} (hc : FitL cells) (h0 : 0 ≤ at_) (h1 : at_ % 8 = 0) (h2 : at_ + 8 + 8 * (cells.length : Int) ≤ (L : Int)) (hL : L ≤ 65536) :
  ∀ k, k ≤ cells.length → MemIs (laidK m at_ cells k) L (laidG g at_ cells k)
 | 0, _ => h
 | k + 1, hk => by
  have ih := MemIs.laidK h hc h0 h1 h2 hL k (by omega)
  have e : W64 (W64 (at_ + 8) + W64 (8 * (k : Int))) = at_ + 8 + 8 * (k : Int) := by
   rw [w64_small (n := at_ + 8) (by omega) (by omega), w64_small (n := 8 * (k : Int)) (by omega) (by omega), w64_small (by omega) (by omega)]
  have ha : okA L (at_ + 8 + 8 * (k : Int)) = true := okA_iff.2 ⟨by omega, by omega, by omega⟩
  show MemIs (memStore (Go.Proofs.YtobhnjnffnbbkaaGreatDoor.laidK m at_ cells k) (W64 (W64 (at_ + 8) + W64 (8 * (k : Int)))) (cells.getD k 0)).1 L _
  rw [e, ih.put ha]
  exact ih.store (fit_getD hc k) ha
structure Mach (v : VVm) (L : Nat) (g : Int → Int) : Prop where
 mem : MemIs v.mem L g
 hL : L ≤ 65536
 hl : 1072 ≤ L
 data : v.conf.data = 32
 ret : v.conf.ret = 32
theorem fit_256 : Fit64 256 := by unfold Fit64; omega
theorem Mach.laid {v : VVm} {L : Nat} {g : Int → Int} (M : Mach v L g) {at_ : Int} {cells : List Int} (hc : FitL cells) (ha : okA L at_ = true) (h2 : at_ + 8 + 8 * (cells.length : Int) ≤ (L : Int)) :
  Mach (laidZ v at_ cells) L (laidG (updI g at_ 256) at_ cells cells.length) := by
 obtain ⟨h0, h1, _⟩ := okA_iff.1 ha
 refine ⟨?_, M.hL, M.hl, M.data, M.ret⟩
 have q := M.mem.store fit_256 ha
 have e : memStore v.mem at_ 256 = (stM v.mem at_ 256, 0) := M.mem.put ha
 have r := (MemIs.laidK q hc h0 h1 h2 M.hL cells.length (Nat.le_refl _)).bare
 show MemIs ⟨(laidK (memStore v.mem at_ 256).1 at_ cells cells.length).b, []⟩ L _
 rw [e]
 exact r
theorem Mach.store {v : VVm} {L : Nat} {g : Int → Int} (M : Mach v L g) {a n : Int} (hn : Fit64 n) (ha : okA L a = true) : Mach (withM v (memStore v.mem a n).1) L (updI g a n) := by
 refine ⟨?_, M.hL, M.hl, M.data, M.ret⟩
 show MemIs (memStore v.mem a n).1 L _
 rw [M.mem.put ha]
 exact M.mem.store hn ha
def g0 (a : Int) : Int := (memFetch (stockS []).mem a).1
theorem stock_mach : Mach (stockS []) 2048 g0 := by
 have hl : (stockS []).mem.b.length = 2048 := newB_len 2048 167
 refine ⟨⟨hl, fun a h0 h1 h2 => ?_⟩, by decide, by decide, rfl, rfl⟩
 unfold g0 memFetch
 rw [cell_ok h0 h1 (by rw [hl]; exact h2), if_pos rfl]
def stdOk (g : Int → Int) : Bool := (List.range 130).all fun i => decide (g (32 + 8 * (i : Int)) = (i : Int))
theorem g0_std : stdOk g0 = true := by kernel_rfl
theorem g0_prim (i : Nat) (h : i < 130) : g0 (32 + 8 * (i : Int)) = (i : Int) := by
 have q := g0_std
 unfold stdOk at q
 rw [List.all_eq_true] at q
 exact of_decide_eq_true (q i (List.mem_range.2 h))
theorem g0_16 : g0 16 = 96 := by kernel_rfl
theorem g0_24 : g0 24 = 104 := by kernel_rfl
structure Std (g : Int → Int) : Prop where
 prim : ∀ i : Nat, i < 130 → g (32 + 8 * (i : Int)) = (i : Int)
 c16 : g 16 = 96
 c24 : g 24 = 104
theorem std0 : Std g0 := ⟨g0_prim, g0_16, g0_24⟩
theorem Std.upd {g : Int → Int} (S : Std g) {a n : Int} (h : 1072 ≤ a) : Std (updI g a n) := by
 refine ⟨fun i hi => ?_, ?_, ?_⟩
 ·unfold updI; rw [if_neg (by omega)]; exact S.prim i hi
 ·unfold updI; rw [if_neg (by omega)]; exact S.c16
 ·unfold updI; rw [if_neg (by omega)]; exact S.c24
theorem Std.laid {g : Int → Int} (S : Std g) {at_ : Int} {cells : List Int} (h : 1072 ≤ at_) : ∀ k, Std (laidG g at_ cells k)
 | 0 => S
 | k + 1 => (Std.laid S h k).upd (by omega)
def mk (v : VVm) (d r : List Int) (f : List VFrame) : VVm := { v with d := d, r := r, f := f }
def mr (v : VVm) (d r : List Int) (f : List VFrame) (ip fu : Int) : VRun := ⟨mk v d r f, ip, 0, false, fu⟩
def mw (v : VVm) (d r : List Int) (f : List VFrame) (ip w fu : Int) : VRun := ⟨mk v d r f, ip, w, true, fu⟩
def mz (v : VVm) (d r : List Int) (f : List VFrame) (ip : Int) : VWk := ⟨mk v d r f, ip, 0, false, false, 0⟩
variable {v : VVm} {L : Nat} {g : Int → Int} {d r : List Int} {f : List VFrame} {ip fu xt q x n : Int}
theorem stkPop_snoc : stkPop (d ++ [x]) = (x, d, 0) := by
 unfold stkPop
 rw [if_neg (by simp)]
 simp
theorem mz_pop : dPop (mz v (d ++ [x]) r f ip) = (mz v d r f ip, x) := by
 have e : vmPop (mk v (d ++ [x]) r f) = (x, mk v d r f, 0) := by
  show ((stkPop (d ++ [x])).1, { mk v (d ++ [x]) r f with d := (stkPop (d ++ [x])).2.1 }, (stkPop (d ++ [x])).2.2) = _
  rw [stkPop_snoc]; rfl
 show (({ dFail (mz v (d ++ [x]) r f ip) (vmPop (mk v (d ++ [x]) r f)).2.2 with v := (vmPop (mk v (d ++ [x]) r f)).2.1 } : VWk), (vmPop (mk v (d ++ [x]) r f)).1) = _
 rw [e]; rfl
theorem mz_rpop : dRPop (mz v d (r ++ [x]) f ip) = (mz v d r f ip, x) := by
 have e : vmRPop (mk v d (r ++ [x]) f) = (x, mk v d r f, 0) := by
  unfold vmRPop
  rw [if_neg (by show ¬ (r ++ [x]).length = 0; simp)]
  show ((r ++ [x]).getD ((r ++ [x]).length - 1) 0, { mk v d (r ++ [x]) f with r := (r ++ [x]).take ((r ++ [x]).length - 1) }, (0 : Int)) = _
  simp [mk]
 show (({ dFail (mz v d (r ++ [x]) f ip) (vmRPop (mk v d (r ++ [x]) f)).2.2 with v := (vmRPop (mk v d (r ++ [x]) f)).2.1 } : VWk), (vmRPop (mk v d (r ++ [x]) f)).1) = _
 rw [e]; rfl
theorem mz_push (M : Mach v L g) (h : d.length < 32) : dPush (mz v d r f ip) n = mz v (d ++ [n]) r f ip := by
 have e : vmPush (mk v d r f) n = (mk v (d ++ [n]) r f, 0) := by
  unfold vmPush stkPush
  rw [if_neg (by show ¬ v.conf.data ≤ (d.length : Int); rw [M.data]; omega)]
  rfl
 show ({ dFail (mz v d r f ip) (vmPush (mk v d r f) n).2 with v := (vmPush (mk v d r f) n).1 } : VWk) = _
 rw [e]; rfl
theorem mz_rpush (M : Mach v L g) (h : r.length < 32) : dRPush (mz v d r f ip) n = mz v d (r ++ [n]) f ip := by
 have e : vmRPush (mk v d r f) n = (mk v d (r ++ [n]) f, 0) := by
  unfold vmRPush
  rw [if_neg (by show ¬ v.conf.ret ≤ (r.length : Int); rw [M.ret]; omega)]
  rfl
 show ({ dFail (mz v d r f ip) (vmRPush (mk v d r f) n).2 with v := (vmRPush (mk v d r f) n).1 } : VWk) = _
 rw [e]; rfl
theorem mz_fetch (M : Mach v L g) (h : okA L x = true) : dFetch (mz v d r f ip) x = (mz v d r f ip, g x) := by
 obtain ⟨h0, h1, h2⟩ := okA_iff.1 h
 show (dFail (mz v d r f ip) (memFetch v.mem x).2, (memFetch v.mem x).1) = _
 rw [M.mem.cell x h0 h1 h2]; rfl
theorem mz_top0 : dTop (mz v d (r ++ [x]) f ip) 0 = (mz v d (r ++ [x]) f ip, x) := by
 unfold dTop
 rw [if_neg (by show ¬ ((r ++ [x]).length : Int) ≤ 0; simp only [List.length_append, List.length_singleton]; omega)]
 show (mz v d (r ++ [x]) f ip, (r ++ [x]).getD ((r ++ [x]).length - 1 - 0) 0) = _
 simp
theorem mz_top1 {y : Int} : dTop (mz v d (r ++ [y] ++ [x]) f ip) 1 = (mz v d (r ++ [y] ++ [x]) f ip, y) := by
 unfold dTop
 rw [if_neg (by show ¬ ((r ++ [y] ++ [x]).length : Int) ≤ 1; simp; omega)]
 show (mz v d (r ++ [y] ++ [x]) f ip, (r ++ [y] ++ [x]).getD ((r ++ [y] ++ [x]).length - 1 - 1) 0) = _
 simp
theorem mz_skip (M : Mach v L g) (h : okA L ip = true) : dSkip (mz v d r f ip) = mz v d r f (ip + 8) := by
 obtain ⟨h0, h1, h2⟩ := okA_iff.1 h
 have := M.hL
 show (⟨mk v d r f, W64 (ip + 8), 0, false, false, 0⟩ : VWk) = _
 rw [w64_small (by omega) (by omega)]; rfl
theorem mz_to (M : Mach v L g) (h : okA L ip = true) : dTo (mz v d r f ip) = mz v d r f (g ip) := by
 show ({ (dFetch (mz v d r f ip) ip).1 with ip := (dFetch (mz v d r f ip) ip).2 } : VWk) = _
 rw [mz_fetch M h]; rfl
def dKind (k : VWk) (xt q : Int) : VWk :=
 if 300 ≤ q then dFail k (-14) else
 if q = 256 then { dRPush k k.ip with ip := W64 (xt + 8) } else
 if q = 257 then dPush k (W64 (xt + 16)) else
 if q = 258 then dPush (dFetch k (W64 (xt + 16))).1 (dFetch k (W64 (xt + 16))).2 else
 if q = 259 then (let a := dFetch k (W64 (xt + 8)); { dRPush (dPush a.1 (W64 (xt + 16))) (dPush a.1 (W64 (xt + 16))).ip with ip := a.2 }) else
 if q = 260 then dMachine k xt else
 if 23 ≤ q then { dFail k (doS k.v q).2 with v := (doS k.v q).1 } else
 if (dCode k (names.getD q.toNat [])).2 then (dCode k (names.getD q.toNat [])).1 else dWord (dCode k (names.getD q.toNat [])).1 (names.getD q.toNat [])
theorem done_kind {k : VWk} (h : vmKind k.v xt = (q, 0)) : dDone k xt = dKind k xt q := by
 unfold dDone dKind
 rw [h]
 rfl
theorem mk_kind (M : Mach v L g) (hx : okA L xt = true) (hq : g xt = q) (ok : kindOk q) : vmKind (mk v d r f) xt = (q, 0) := by
 obtain ⟨h0, h1, h2⟩ := okA_iff.1 hx
 show (if (memFetch v.mem xt).2 = 0 then (if kindOk (memFetch v.mem xt).1 then ((memFetch v.mem xt).1, 0) else (0, -9)) else (0, (memFetch v.mem xt).2)) = _
 rw [M.mem.cell xt h0 h1 h2]
 show (if kindOk (g xt) then (g xt, (0 : Int)) else (0, -9)) = _
 rw [hq, if_pos ok]
def finK (ahead : VRun) (fu : Int) (k : VWk) : VRun × Bool × Int :=
 if k.bad = 0 then (⟨k.v, k.ip, k.w, k.dof, fu⟩, k.over, 0) else ((caughtS ahead k.bad).1, false, (caughtS ahead k.bad).2)
theorem st_at (M : Mach v L g) (hf : 1 ≤ fu ∧ fu ≤ 300000) (hi : okA L ip = true) (hx : g ip = xt) (h2 : okA L xt = true) (hq : g xt = q) (ok : kindOk q) :
  stepS (mr v d r f ip fu) = finK (mr v d r f (ip + 8) (fu - 1)) (fu - 1) (dKind (mz v d r f (ip + 8)) xt q) := by
 have hw := fuel_w hf.1 hf.2
 unfold stepS
 rw [if_neg (by show ¬ fu < 1; omega)]
 have e : dFetch (⟨(mr v d r f ip fu).vm, (mr v d r f ip fu).ip, 0, false, false, 0⟩ : VWk) (mr v d r f ip fu).ip = (mz v d r f ip, xt) := by
  have := mz_fetch (d := d) (r := r) (f := f) (ip := ip) M hi
  rw [hx] at this; exact this
 have e2 := mz_skip (d := d) (r := r) (f := f) M hi
 have e3 : dDone (mz v d r f (ip + 8)) xt = dKind (mz v d r f (ip + 8)) xt q := done_kind (mk_kind M h2 hq ok)
 show finK ⟨mk v d r f, (if (dFetch (⟨mk v d r f, ip, 0, false, false, 0⟩ : VWk) ip).1.bad = 0 then dSkip (dFetch (⟨mk v d r f, ip, 0, false, false, 0⟩ : VWk) ip).1 else (dFetch (⟨mk v d r f, ip, 0, false, false, 0⟩ : VWk) ip).1).ip, 0, false, W64 (fu - 1)⟩ (W64 (fu - 1))
  (if (if (dFetch (⟨mk v d r f, ip, 0, false, false, 0⟩ : VWk) ip).1.bad = 0 then dSkip (dFetch (⟨mk v d r f, ip, 0, false, false, 0⟩ : VWk) ip).1 else (dFetch (⟨mk v d r f, ip, 0, false, false, 0⟩ : VWk) ip).1).bad = 0 then
   dDone (if (dFetch (⟨mk v d r f, ip, 0, false, false, 0⟩ : VWk) ip).1.bad = 0 then dSkip (dFetch (⟨mk v d r f, ip, 0, false, false, 0⟩ : VWk) ip).1 else (dFetch (⟨mk v d r f, ip, 0, false, false, 0⟩ : VWk) ip).1) (dFetch (⟨mk v d r f, ip, 0, false, false, 0⟩ : VWk) ip).2
   else (if (dFetch (⟨mk v d r f, ip, 0, false, false, 0⟩ : VWk) ip).1.bad = 0 then dSkip (dFetch (⟨mk v d r f, ip, 0, false, false, 0⟩ : VWk) ip).1 else (dFetch (⟨mk v d r f, ip, 0, false, false, 0⟩ : VWk) ip).1)) = _
 rw [show dFetch (⟨mk v d r f, ip, 0, false, false, 0⟩ : VWk) ip = (mz v d r f ip, xt) from e]
 show finK ⟨mk v d r f, (if (mz v d r f ip).bad = 0 then dSkip (mz v d r f ip) else mz v d r f ip).ip, 0, false, W64 (fu - 1)⟩ (W64 (fu - 1))
  (if (if (mz v d r f ip).bad = 0 then dSkip (mz v d r f ip) else mz v d r f ip).bad = 0 then dDone (if (mz v d r f ip).bad = 0 then dSkip (mz v d r f ip) else mz v d r f ip) xt else (if (mz v d r f ip).bad = 0 then dSkip (mz v d r f ip) else mz v d r f ip)) = _
 rw [if_pos (show (mz v d r f ip).bad = 0 from rfl), e2, if_pos (show (mz v d r f (ip + 8)).bad = 0 from rfl), e3, hw]
 rfl
theorem st_do (M : Mach v L g) (hf : 1 ≤ fu ∧ fu ≤ 300000) (h2 : okA L xt = true) (hq : g xt = q) (ok : kindOk q) :
  stepS (mw v d r f ip xt fu) = finK (mr v d r f ip (fu - 1)) (fu - 1) (dKind (mz v d r f ip) xt q) := by
 have hw := fuel_w hf.1 hf.2
 unfold stepS
 rw [if_neg (by show ¬ fu < 1; omega)]
 have e3 : dDone (mz v d r f ip) xt = dKind (mz v d r f ip) xt q := done_kind (mk_kind M h2 hq ok)
 show finK ⟨mk v d r f, ip, 0, false, W64 (fu - 1)⟩ (W64 (fu - 1)) (if (mz v d r f ip).bad = 0 then dDone (mz v d r f ip) xt else mz v d r f ip) = _
 rw [if_pos (show (mz v d r f ip).bad = 0 from rfl), e3, hw]
 rfl
def Go1 (s t : VRun) : Prop := stepS s = (t, false, 0)
inductive GoN : Nat → VRun → VRun → Prop
 | nil (s : VRun) : GoN 0 s s
 | cons {n : Nat} {s t u : VRun} : Go1 s t → GoN n t u → GoN (n + 1) s u
theorem GoN.trans {a b : Nat} {s t u : VRun} (h : GoN a s t) (k : GoN b t u) : GoN (b + a) s u := by
 induction h with
 | nil s => exact k
 | cons h1 _ ih => exact .cons h1 (ih k)
theorem GoN.one {s t : VRun} (h : Go1 s t) : GoN 1 s t := .cons h (.nil _)
theorem GoN.run {n : Nat} {s t : VRun} (h : GoN n s t) : ∀ k, runsS (k + n) s = runsS k t := by
 induction h with
 | nil s => intro k; rfl
 | cons h1 _ ih =>
  intro k
  unfold Go1 at h1
  rw [← Nat.add_assoc, runs_go (by rw [h1]; simp), h1]
  exact ih k
theorem run_over {n : Nat} {s t : VRun} {fuel : Int} {u : VVm} {xt : Int} (h : GoN n (beginS u xt fuel) s) (hl : stepS s = (t, true, 0)) (h0 : 0 ≤ fuel) (hn : (n : Int) ≤ fuel) : runNS u xt fuel = (endV t.vm, t.fuel, 0) := by
 have e : max fuel 0 = fuel := by omega
 unfold runNS
 rw [e]
 obtain ⟨m, hm⟩ : ∃ m, fuel.toNat.succ = (m + 1) + n := ⟨fuel.toNat - n, by omega⟩
 rw [hm, h.run, runs_end (by rw [hl]; exact .inl rfl), hl]
section
variable {d' r' : List Int} {f' : List VFrame} {v' : VVm} {ip' w : Int}
theorem go_at (M : Mach v L g) (hf : 1 ≤ fu ∧ fu ≤ 300000) (hi : okA L ip = true) (hx : g ip = xt) (h2 : okA L xt = true) (hq : g xt = q) (ok : kindOk q)
  (hk : dKind (mz v d r f (ip + 8)) xt q = mz v' d' r' f' ip') : Go1 (mr v d r f ip fu) (mr v' d' r' f' ip' (fu - 1)) := by
 unfold Go1; rw [st_at M hf hi hx h2 hq ok, hk]; rfl
theorem go_do (M : Mach v L g) (hf : 1 ≤ fu ∧ fu ≤ 300000) (h2 : okA L xt = true) (hq : g xt = q) (ok : kindOk q)
  (hk : dKind (mz v d r f ip) xt q = mz v' d' r' f' ip') : Go1 (mw v d r f ip xt fu) (mr v' d' r' f' ip' (fu - 1)) := by
 unfold Go1; rw [st_do M hf h2 hq ok, hk]; rfl
end
theorem k_exit : dKind (mz v d (r ++ [x]) f ip) xt 0 = mz v d r f x := by
 have e : dKind (mz v d (r ++ [x]) f ip) xt 0 = { (dRPop (mz v d (r ++ [x]) f ip)).1 with ip := (dRPop (mz v d (r ++ [x]) f ip)).2 } := by kernel_rfl
 rw [e, mz_rpop]; rfl
theorem k_halt : finK (mr v d r f ip fu) fu (dKind (mz v d r f ip) xt 8) = (mr v d r f ip fu, true, 0) := by kernel_rfl
theorem k_colon (M : Mach v L g) (hx : okA L xt = true) (hr : r.length < 32) : dKind (mz v d r f ip) xt 256 = mz v d (r ++ [ip]) f (xt + 8) := by
 have e : dKind (mz v d r f ip) xt 256 = { dRPush (mz v d r f ip) ip with ip := W64 (xt + 8) } := by kernel_rfl
 obtain ⟨h0, h1, h2⟩ := okA_iff.1 hx
 have := M.hL
 rw [e, mz_rpush M hr, w64_small (by omega) (by omega)]; rfl
theorem k_qdo0 (M : Mach v L g) (h : okA L ip = true) {l : Int} (hl : x = l) : dKind (mz v (d ++ [l] ++ [x]) r f ip) xt 5 = mz v d r f (g ip) := by
 have e : dKind (mz v (d ++ [l] ++ [x]) r f ip) xt 5 = (let t := dTwo (mz v (d ++ [l] ++ [x]) r f ip); if t.2.1 = t.2.2 then dTo t.1 else dSkip (dRPush (dRPush t.1 t.2.2) t.2.1)) := by kernel_rfl
 have t : dTwo (mz v (d ++ [l] ++ [x]) r f ip) = (mz v d r f ip, x, l) := by
  unfold dTwo; rw [mz_pop]; dsimp only; rw [mz_pop]
 rw [e, t]; dsimp only; rw [if_pos hl, mz_to M h]
theorem k_qdo1 (M : Mach v L g) (h : okA L ip = true) {l : Int} (hl : x ≠ l) (hr : r.length + 1 < 32) : dKind (mz v (d ++ [l] ++ [x]) r f ip) xt 5 = mz v d (r ++ [l] ++ [x]) f (ip + 8) := by
 have e : dKind (mz v (d ++ [l] ++ [x]) r f ip) xt 5 = (let t := dTwo (mz v (d ++ [l] ++ [x]) r f ip); if t.2.1 = t.2.2 then dTo t.1 else dSkip (dRPush (dRPush t.1 t.2.2) t.2.1)) := by kernel_rfl
 have t : dTwo (mz v (d ++ [l] ++ [x]) r f ip) = (mz v d r f ip, x, l) := by
  unfold dTwo; rw [mz_pop]; dsimp only; rw [mz_pop]
 rw [e, t]; dsimp only; rw [if_neg hl, mz_rpush M (by omega), mz_rpush M (by simp; omega), mz_skip M h]
theorem k_loop {l : Int} (M : Mach v L g) (h : okA L ip = true) (hr : r.length + 1 < 32) : dKind (mz v d (r ++ [l] ++ [x]) f ip) xt 6 = if (stepN x l 1).2 then mz v d r f (ip + 8) else mz v d (r ++ [l] ++ [(stepN x l 1).1]) f (g ip) := by
 have e : dKind (mz v d (r ++ [l] ++ [x]) f ip) xt 6 = dLoop (mz v d (r ++ [l] ++ [x]) f ip) 1 := by kernel_rfl
 rw [e]
 unfold dLoop
 dsimp only
 rw [mz_top1]
 dsimp only
 rw [mz_top0]
 dsimp only
 rw [if_neg (show ¬ (mz v d (r ++ [l] ++ [x]) f ip).bad ≠ 0 from fun h => h rfl), mz_rpop]
 dsimp only
 by_cases hs : (stepN x l 1).2 = true
 ·rw [if_pos hs, if_pos hs, mz_rpop, mz_skip M h]
 ·rw [if_neg hs, if_neg hs, mz_rpush M (by simp; omega), mz_to M h]
theorem k_I (M : Mach v L g) (hd : d.length < 32) : dKind (mz v d (r ++ [x]) f ip) xt 15 = mz v (d ++ [x]) (r ++ [x]) f ip := by
 have e : dKind (mz v d (r ++ [x]) f ip) xt 15 = dPush (dTop (mz v d (r ++ [x]) f ip) 0).1 (dTop (mz v d (r ++ [x]) f ip) 0).2 := by kernel_rfl
 rw [e, mz_top0]; dsimp only; rw [mz_push M hd]
section
variable {d' r' : List Int} {f' : List VFrame} {v' : VVm} {ip' w : Int}
theorem kind_small {i : Nat} (hi : i < 130) : kindOk (i : Int) := .inl (by omega)
theorem okA_prim {i : Nat} (M : Mach v L g) (hi : i < 130) : okA L (32 + 8 * (i : Int)) = true := okA_iff.2 (by have := M.hl; omega)
theorem go_p (M : Mach v L g) (S : Std g) (i : Nat) (hi : i < 130) (hf : 1 ≤ fu ∧ fu ≤ 300000) (ha : okA L ip = true) (hx : g ip = 32 + 8 * (i : Int))
  (hk : dKind (mz v d r f (ip + 8)) (32 + 8 * (i : Int)) (i : Int) = mz v' d' r' f' ip') : Go1 (mr v d r f ip fu) (mr v' d' r' f' ip' (fu - 1)) :=
 go_at M hf ha hx (okA_prim M hi) (S.prim i hi) (kind_small hi) hk
end
theorem go_exit (M : Mach v L g) (S : Std g) (hf : 1 ≤ fu ∧ fu ≤ 300000) (ha : okA L ip = true) (hx : g ip = 32) : Go1 (mr v d (r ++ [x]) f ip fu) (mr v d r f x (fu - 1)) :=
 go_p M S 0 (by decide) hf ha hx k_exit
theorem go_halt (M : Mach v L g) (S : Std g) (hf : 1 ≤ fu ∧ fu ≤ 300000) : stepS (mr v d r f 16 fu) = (mr v d r f 24 (fu - 1), true, 0) := by
 have h := M.hl
 rw [st_at M hf (okA_iff.2 (by omega)) S.c16 (okA_iff.2 (by omega)) (S.prim 8 (by decide)) (kind_small (i := 8) (by decide))]
 exact k_halt
theorem go_colon (M : Mach v L g) (hf : 1 ≤ fu ∧ fu ≤ 300000) (h2 : okA L xt = true) (hq : g xt = 256) (hr : r.length < 32) : Go1 (mw v d r f ip xt fu) (mr v d (r ++ [ip]) f (xt + 8) (fu - 1)) :=
 go_do M hf h2 hq (.inr (.inl (by omega))) (k_colon M h2 hr)
end Go.Proofs.YtobhnjnffnbbkaaGreatDoor
namespace Go.Proofs.YtobhnjnffnbbkaaGreatDoor
open Go.RowKit
set_option linter.unusedVariables false
set_option maxRecDepth 100000
set_option maxHeartbeats 4000000
def cellsL : List Int := [72, 1416, 152, 80, 1392, 32]
def vL : VVm := laidZ (stockS []) 1368 cellsL
def gL (g : Int → Int) : Int → Int := laidG (updI g 1368 256) 1368 cellsL 6
theorem fit_cells {l : List Int} (h : (l.all fun a => decide (-9223372036854775808 ≤ a) && decide (a ≤ 9223372036854775807)) = true) : FitL l := fun a ha => by
 rw [List.all_eq_true] at h
 have := h a ha
 simp only [Bool.and_eq_true, decide_eq_true_eq] at this
 exact this
theorem mL : Mach vL 2048 (gL g0) := stock_mach.laid (fit_cells (by decide)) (by decide) (by decide)
theorem sL : Std (gL g0) := Std.laid (std0.upd (by decide)) (by decide) 6
theorem gL_at (g : Int → Int) : gL g 1368 = 256 ∧ gL g 1376 = 72 ∧ gL g 1384 = 1416 ∧ gL g 1392 = 152 ∧ gL g 1400 = 80 ∧ gL g 1408 = 1392 ∧ gL g 1416 = 32 := by and_intros <;> kernel_rfl
theorem xt_loop : [xtS [40, 63, 100, 111, 41], 1416, xtS [73], xtS [40, 108, 111, 111, 112, 41], 1392, xtS [40, 101, 120, 105, 116, 41]] = cellsL := by kernel_rfl
def upFrom (i : Int) : Nat → List Int
 | 0 => []
 | m + 1 => i :: upFrom (i + 1) m
theorem upFrom_len : ∀ (m : Nat) (i : Int), (upFrom i m).length = m
 | 0, _ => rfl
 | m + 1, i => by show (upFrom (i + 1) m).length + 1 = _; rw [upFrom_len m]
theorem upFrom_get : ∀ (m : Nat) (i : Int) (j : Nat), j < m → (upFrom i m).getD j 0 = i + j
 | 0, _, _, h => by omega
 | m + 1, i, 0, _ => by show i = _; omega
 | m + 1, i, j + 1, h => by
  show (upFrom (i + 1) m).getD j 0 = _
  rw [upFrom_get m (i + 1) j (by omega)]; omega
section
variable {v : VVm} {g : Int → Int} {d : List Int} {f : List VFrame}
theorem loop_round (M : Mach v 2048 (gL g)) (S : Std (gL g)) {i l fu : Int} (hd : d.length < 32) (hf : 2 ≤ fu ∧ fu ≤ 1000) :
  GoN 2 (mr v d ([] ++ [16] ++ [l] ++ [i]) f 1392 fu) (if (stepN i l 1).2 then mr v (d ++ [i]) ([] ++ [16]) f 1416 (fu - 2) else mr v (d ++ [i]) ([] ++ [16] ++ [l] ++ [(stepN i l 1).1]) f 1392 (fu - 2)) := by
 obtain ⟨g0, g1, g2, g3, g4, g5, g6⟩ := gL_at g
 have h1 := go_p M S 15 (by decide) (fu := fu) (ip := 1392) (by omega) (by decide) g3 (k_I (f := f) (x := i) (r := [] ++ [16] ++ [l]) M hd)
 have hl := k_loop (v := v) (d := d ++ [i]) (f := f) (ip := 1408) (xt := 80) (x := i) (r := [] ++ [16]) (l := l) M (by decide) (by decide)
 rw [show fu - 2 = fu - 1 - 1 by omega]
 by_cases hs : (stepN i l 1).2 = true
 ·rw [if_pos hs] at hl ⊢
  exact .cons h1 (.one (go_p M S 6 (by decide) (by omega) (by decide) g4 hl))
 ·rw [if_neg hs, g5] at hl
  rw [if_neg hs]
  exact .cons h1 (.one (go_p M S 6 (by decide) (by omega) (by decide) g4 hl))
theorem loop_go (M : Mach v 2048 (gL g)) (S : Std (gL g)) : ∀ (m : Nat) (d : List Int) (i fu : Int), -9000000000000000100 ≤ i → i + m ≤ 9000000000000000100 → d.length + m + 1 ≤ 32 → 2 * (m : Int) + 2 ≤ fu → fu ≤ 1000 →
  GoN (2 * m + 2) (mr v d ([] ++ [16] ++ [i + m + 1] ++ [i]) f 1392 fu) (mr v (d ++ upFrom i (m + 1)) ([] ++ [16]) f 1416 (fu - (2 * (m : Int) + 2)))
 | m, d, i, fu, hi, hb, hd, h0, h1 => by
  have hw : W64 (i + 1) = i + 1 := w64_id (by unfold Fit64; omega)
  have hz : W64 (i - (i + m + 1)) = -((m : Int) + 1) := by rw [w64_id (by unfold Fit64; omega)]; omega
  have hz2 : W64 (-((m : Int) + 1) + 1) = -(m : Int) := by rw [w64_id (by unfold Fit64; omega)]; omega
  have hst : stepN i (i + m + 1) 1 = (i + 1, decide (0 ≤ -(m : Int))) := by
   unfold stepN
   rw [if_pos (by decide), hz, hz2, hw, decide_eq_true (show -((m : Int) + 1) < 0 by omega)]
   rfl
  have hr := loop_round (f := f) M S (d := d) (i := i) (l := i + m + 1) (fu := fu) (by omega) (by omega)
  rw [hst] at hr
  cases m with
  | zero =>
   rw [if_pos (by simp)] at hr
   exact hr
  | succ m =>
   rw [if_neg (by first | (simp; done) | (simp; omega))] at hr
   have ih := loop_go M S m (d ++ [i]) (i + 1) (fu - 2) (by omega) (by omega) (by simp; omega) (by omega) (by omega)
   rw [show i + 1 + (m : Int) + 1 = i + ((m + 1 : Nat) : Int) + 1 by omega] at ih
   have key := hr.trans ih
   rw [show fu - 2 - (2 * (m : Int) + 2) = fu - (2 * ((m + 1 : Nat) : Int) + 2) by omega, List.append_assoc d [i] (upFrom (i + 1) (m + 1))] at key
   exact key
theorem loops_run (M : Mach v 2048 (gL g)) (S : Std (gL g)) (frm : Int) (k : Nat) (h0 : -9000000000000000000 ≤ frm) (h1 : frm ≤ 9000000000000000000) (hk : k < 30) :
  runNS (mk v [frm + k, frm] [] []) 1368 500 = (endV (mk v (upFrom frm k) [] []), 496 - 2 * (k : Int), 0) := by
 obtain ⟨g0, g1, g2, g3, g4, g5, g6⟩ := gL_at g
 have a1 : Go1 (beginS (mk v [frm + k, frm] [] []) 1368 500) (mr v ([] ++ [frm + k] ++ [frm]) ([] ++ [16]) [] 1376 499) := go_colon (v := v) (d := [frm + k, frm]) (r := []) M (by decide) (by decide) g0 (by decide)
 have fin : ∀ (d : List Int) (fu : Int), 2 ≤ fu → fu ≤ 1000 → Go1 (mr v d ([] ++ [16]) [] 1416 fu) (mr v d [] [] 16 (fu - 1)) ∧ stepS (mr v d [] [] 16 (fu - 1)) = (mr v d [] [] 24 (fu - 1 - 1), true, 0) := fun d fu q1 q2 =>
  ⟨go_exit M S (by omega) (by decide) g6, go_halt M S (by omega)⟩
 cases k with
 | zero =>
  have a2 : Go1 (mr v ([] ++ [frm + ((0 : Nat) : Int)] ++ [frm]) ([] ++ [16]) [] 1376 499) (mr v [] ([] ++ [16]) [] 1416 498) :=
   go_p M S 5 (by decide) (by decide) (by decide) g1 ((k_qdo0 M (by decide) (by omega)).trans (by rw [show (1376 : Int) + 8 = 1384 from rfl, g2]))
  obtain ⟨a3, a4⟩ := fin [] 498 (by decide) (by decide)
  exact run_over (.cons a1 (.cons a2 (.one a3))) a4 (by decide) (by decide)
 | succ k =>
  have a2 : Go1 (mr v ([] ++ [frm + ((k + 1 : Nat) : Int)] ++ [frm]) ([] ++ [16]) [] 1376 499) (mr v [] ([] ++ [16] ++ [frm + k + 1] ++ [frm]) [] 1392 498) := by
   rw [show frm + ((k + 1 : Nat) : Int) = frm + k + 1 by omega]
   exact go_p M S 5 (by decide) (by decide) (by decide) g1 (k_qdo1 M (by decide) (by omega) (by decide))
  have a3 := loop_go (f := []) M S k [] frm 498 (by omega) (by omega) (by show 0 + k + 1 ≤ 32; omega) (by omega) (by decide)
  obtain ⟨a4, a5⟩ := fin ([] ++ upFrom frm (k + 1)) (498 - (2 * (k : Int) + 2)) (by omega) (by omega)
  have key := run_over (.cons a1 (.cons a2 (a3.trans (.one a4)))) a5 (by decide) (by omega)
  rw [key]
  show (endV (mk v ([] ++ upFrom frm (k + 1)) [] []), 498 - (2 * (k : Int) + 2) - 1 - 1, (0 : Int)) = _
  rw [List.nil_append, show 498 - (2 * (k : Int) + 2) - 1 - 1 = 496 - 2 * ((k + 1 : Nat) : Int) by omega]
end
end Go.Proofs.YtobhnjnffnbbkaaGreatDoor
namespace Go.Proofs.YtobhnjnffnbbkaaGreatDoor
open Go.RowKit
open Go.WideShapes
set_option linter.unusedVariables false
set_option maxRecDepth 100000
set_option maxHeartbeats 8000000
theorem i64_ok {n : Int} (h : Fit64 n) : IntKind.i64.wrap n = n := w64_id h
theorem lain_good {v : VVm} (g : GoodM 0 v) (hc : v.conf.data = 32) {d : List Int} (hd : d.length ≤ 32) (hf : FitL d) : GoodM 0 { v with d := d } := by
 have R := g.right
 refine ⟨⟨R.fits, R.mem, R.dict, R.pic, R.len, R.here0, R.here1, R.f, R.hand, ?_, R.r, R.fl, R.dl, R.out, R.req, R.free0, R.free1, R.next0, R.next1, R.handl⟩, g.old, hf, g.fr, g.ff, g.ints, g.la⟩
 show (d.length : Int) ≤ v.conf.data
 rw [hc]; omega
theorem rd_small {x : Nat} (k : Nat) : (x : Int).tmod (k : Int) = ((x % k : Nat) : Int) := by
 rw [Int.tmod_eq_emod_of_nonneg (by omega)]; rfl
theorem law_InnerLoops (a : Addr) (frm : Int) (hf : Fit64 frm) (n : Nat) (hn : n < 256) : ∀ (H : List Ob), (∀ o ∈ globs a, ∃ k : Nat, H[k]? = some o) → HC Tryz.prog 8 [i64 frm, .val (.int .u8 (n : Int))] H (boo true) H := by
 obtain ⟨k, hk⟩ : ∃ k : Nat, n % 30 = k := ⟨_, rfl⟩
 have hk30 : k < 30 := by omega
 have w1 : (IntKind.i64.wrap (n : Int)).tmod 30 = (k : Int) := by
  rw [i64_ok (n := (n : Int)) (by unfold Fit64; omega), show (n : Int).tmod 30 = ((n % 30 : Nat) : Int) from rd_small 30, hk]
 unfold Fit64 at hf
 refine pureG_of_WR (globs_ok a) tG (rs := [.tmp 4]) Tryz.func8 rfl rfl rfl (by simp) (by simp) (fun B => ?_)
 refine z8 ?_
 refine z1 ?_
 refine Wn ?_
 refine z8 ?_
 refine Wc rfl rfl (dC rfl Tryz.func11 rfl rfl (lawI_shown a _ (globs_at 0 1 rfl rfl))) ?_
 refine z1 ?_
 refine Wn ?_
 refine Ws ?_
 refine z8 ?_
 iterate 3 refine z1 ?_
 refine Wb 15 rfl (fun hg1 => ?_) (fun hg1 => ?_)
 ·refine z6 ?_
  refine z6 ?_
  refine z1 ?_
  refine Wn ?_
  refine Wt rfl rfl ?_
  refine z8 ?_
  iterate 2 refine z1 ?_
  refine Wn ?_
  refine Wq ?_
  refine lP rfl ?_
  rfl
 ·have q1 : frm ≤ 9000000000000000000 := by have := of_decide_eq_false hg1; omega
  iterate 3 refine z1 ?_
  refine Wn ?_
  refine Wi rfl (fun hi1 => ?_) (fun hi1 => ?_)
  ·refine z8 ?_
   iterate 2 refine z1 ?_
   refine Wn ?_
   refine Wq ?_
   refine lP rfl ?_
   rfl
  ·have q2 : -9000000000000000000 ≤ frm := by have := of_decide_eq_false hi1; omega
   have gL0 : GoodM 0 (laidZ (stockS []) 1368 cellsL) := laid_good (stock_goodM (by decide) fitL_nil) _ _
   have gL1 : GoodM 0 (mk vL [frm + k, frm] [] []) := lain_good gL0 rfl (by show 2 ≤ 32; decide) (fitL_two (by unfold Fit64; omega) (by unfold Fit64; omega))
   have p7 := inner_Run a (mk vL [frm + k, frm] [] []) 1368 500 0 gL1 fit_1368 (by decide) (by decide)
   rw [loops_run mL sL frm k q2 q1 hk30] at p7
   have e32 : IntKind.i64.wrap (frm + (k : Int)) = frm + (k : Int) := i64_ok (by unfold Fit64; omega)
   have e55 : IntKind.i64.wrap (496 - IntKind.i64.wrap (2 * (k : Int))) = 496 - 2 * (k : Int) := by
    rw [i64_ok (n := 2 * (k : Int)) (by unfold Fit64; omega)]; exact i64_ok (by unfold Fit64; omega)
   refine Wj ?_
   refine z8 ?_
   iterate 3 refine z1 ?_
   refine Wa 22 rfl (congrArg (fun z => PV.val (Value.int .i64 z)) w1) ?_
   refine z1 ?_
   refine Wn ?_
   refine z8 ?_
   refine Wc rfl rfl (dC rfl Tryz.func25 rfl rfl ((law_fresh) _)) ?_
   refine Wc rfl rfl (dC rfl Tryz.func26 rfl rfl ((ref_Xt _) _)) ?_
   refine Wc rfl rfl (dC rfl Tryz.func26 rfl rfl ((ref_Xt _) _)) ?_
   refine Wc rfl rfl (dC rfl Tryz.func26 rfl rfl ((ref_Xt _) _)) ?_
   refine Wc rfl rfl (dC rfl Tryz.func26 rfl rfl ((ref_Xt _) _)) ?_
   refine z1 ?_
   refine Wa 28 rfl ((show _ = sqc cInt cellsL from congrArg (sqc cInt) xt_loop)) ?_
   refine Wc rfl rfl (dC rfl Tryz.func27 rfl rfl ((ref_Laid (stockS []) 1368 cellsL (of_decide_eq_true (by kernel_rfl)) (of_decide_eq_true (by kernel_rfl)) fit_1368 (by decide)) _)) ?_
   iterate 2 refine z1 ?_
   refine Wn ?_
   refine z8 ?_
   iterate 3 refine z1 ?_
   refine Wa 32 rfl (congrArg (fun z => PV.val (Value.int .i64 z)) e32) ?_
   iterate 2 refine z1 ?_
   first | refine Wa 34 rfl (bsL cInt [_, _] rfl rfl) ?_ | skip
   iterate 2 refine z1 ?_
   refine Wn ?_
   refine z8 ?_
   refine z1 ?_
   refine Wc rfl rfl (dC rfl Tryz.func21 rfl rfl (p7 _ (globs_at 0 1 rfl rfl))) ?_
   iterate 8 refine z1 ?_
   refine Wn ?_
   refine Ws ?_
   refine z8 ?_
   iterate 3 refine z1 ?_
   refine WO_false 44 rfl (by rfl) ?_
   iterate 7 refine z1 ?_
   refine WO_false 51 rfl (by (show ((((upFrom frm k).length : Nat) : Int) != (k : Int)) = false; rw [upFrom_len]; simp)) ?_
   iterate 4 refine z1 ?_
   refine Wa 55 rfl (congrArg (fun z => PV.val (Value.int .i64 z)) e55) ?_
   iterate 2 refine z1 ?_
   refine Wn ?_
   refine Wf rfl (by simp) ?_
   refine Wj ?_
   refine Ws ?_
   refine z8 ?_
   refine z1 ?_
   refine Wn ?_
   refine Wl ?_
   show W _ _ _ _ _ _ _
   refine W_loopS (fun (s : Nat) => [(0, i64 frm), (5, boo true), (6, i64 k), (8, .ptr 3 0), (11, i64 s)]) (fun (s : Nat) => [.glob 0 (haltV a), .glob 1 etV, .dead, .cells (cVm (endV (mk vL (upFrom frm k) [] []))) 36]) (fun (s : Nat) => []) (fun (s : Nat) => s ≤ k) (fun (s : Nat) => k - s) (0) (by first | exact trivial | omega | simp) [] ?_ ?_
   ·exact fitT
   ·intro s hs
    refine Ws ?_
    refine z8 ?_
    iterate 3 refine z1 ?_
    refine Wn ?_
    refine Wi rfl (fun hi3 => ?_) (fun hi3 => ?_)
    ·have hlt : s < k := by have := of_decide_eq_true hi3; omega
     have hw : IntKind.i64.wrap (frm + (s : Int)) = frm + (s : Int) := i64_ok (by unfold Fit64; omega)
     have hlen : (endV (mk vL (upFrom frm k) [] [])).d.length = k := upFrom_len k frm
     have hg : (upFrom frm k).getD s 0 = frm + s := upFrom_get k frm s hlt
     refine Wj ?_
     refine Ws ?_
     refine Wl ?_
     refine z8 ?_
     iterate 3 refine z1 ?_
     first | refine Wv tG rfl rfl rfl (by first | exact trivial | omega | (simp only [dnL] at *; omega) | (simp_all; done) | (simp_all; omega)) (iN cInt 1 (fun _ => rfl) 0 (by first | exact trivial | omega | (simp only [dnL] at *; omega) | (simp_all; done) | (simp_all; omega))) ?_ | refine Wv tG rfl rfl rfl (by first | exact trivial | omega | (simp only [dnL] at *; omega) | (simp_all; done) | (simp_all; omega)) (iR cInt 1 (fun _ => rfl) 0 (by first | exact trivial | omega | (simp only [dnL] at *; omega) | (simp_all; done) | (simp_all; omega))) ?_
     iterate 5 refine z1 ?_
     refine Wn ?_
     refine Wf rfl (by (rw [hw]; show ((upFrom frm k).getD s 0 != frm + s) = false; rw [hg]; simp)) ?_
     refine Wj ?_
     refine W_region rfl ?_
     iterate 3 refine z1 ?_
     refine Wn ?_
     exact ⟨s + 1, [], (by omega), (by omega), fitT⟩
    ·refine W_exit ?_
     refine z8 ?_
     iterate 2 refine z1 ?_
     refine Wn ?_
     refine Wq ?_
     refine lP rfl ?_
     rfl
theorem reads_u8 {w : World} {v : Value} (h : Reads w 5 v) : ∃ k : Nat, k < 256 ∧ Rep (c0 w) (.val (.int .u8 (k : Int))) v := by
 obtain ⟨n, rfl, h2⟩ := reads_int Tryz.underlying5 h
 have h3 : 0 ≤ n ∧ n ≤ 255 := by simp [Lit.wf, IntKind.min, IntKind.max, IntKind.bits, IntKind.signed] at h2; omega
 obtain ⟨k, rfl⟩ : ∃ k : Nat, n = (k : Int) := ⟨n.toNat, by omega⟩
 exact ⟨k, by omega, rep_val _ _⟩
theorem walk_InnerLoops (a : Addr) (v0 v1 : Value) (w : World) (h0 : w.cell? ⟨0, 0, none⟩ = some (haltV a)) (h1 : w.cell? ⟨1, 0, none⟩ = some etV) (r0 : Reads w 3 v0) (r1 : Reads w 5 v1) :
  Calls Tryz.prog 8 #[v0, v1] w fun e w' => e = .returned (.bool true) ∧ Below w.heap.size w w' := by
 obtain ⟨n, hn, p0⟩ := reads_i64 r0
 obtain ⟨k, hk, p1⟩ := reads_u8 r1
 exact law_callsG (args := [i64 n, .val (.int .u8 (k : Int))]) (by simp [FlatL, Flat]) (law_InnerLoops a n hn k hk) h0 h1 (repL_cons.2 ⟨p0, repL_cons.2 ⟨p1, repL_nil.2 rfl⟩⟩)
end Go.Proofs.YtobhnjnffnbbkaaGreatDoor
