import Derived.ArgAppend
import Derived.Below
import Derived.BigQuiet
import Derived.Carry
import Derived.ChangeKeysEq
import Derived.ChangeOld
import Derived.ChangeSlices
import Derived.Deep.CutBlock
import Derived.Deep.DeepCutAuto
import Derived.Deep.QuietTactic
import Derived.Ground.Names2Prog
import Derived.Ground.SlbCloneProg
import Derived.Ground.SlgnProg
import Derived.Handy
import Derived.LaidEql
import Derived.Laws.AppendOwn
import Derived.Laws.BitsAllLaws
import Derived.Laws.BytesArg
import Derived.Laws.CopyOwn
import Derived.Laws.Externs
import Derived.Laws.RangeAny
import Derived.Laws.RangeString
import Derived.Laws.StructEq
import Derived.Lib.AppendZerosOnto
import Derived.Lib.Hide
import Derived.Lib.IndexBytes
import Derived.Lib.ItoaNum
import Derived.Lib.MakeNoZero
import Derived.Lib.OwnBridge
import Derived.Lib.SliceRun
import Derived.Lib.Walk
import Derived.LoopN
import Derived.Maps.AppendAt
import Derived.OpenShut
import Derived.Outline
import Derived.ProofKit
import Derived.RegionTactic
import Derived.RowKitTokens
import Derived.Shelf.Bits.Mul64
import Derived.Shelf.Bytes.SlClone
import Derived.Shelf.Bytes.SlEqualAll
import Derived.Shelf.Bytes.Small
import Derived.Shelf.SlGeneric
import Derived.Shelf.Slices.Clone
import Derived.Shelf.Slices.Empties2
import Derived.Shelf.Slices.Equal
import Derived.Shelf.SlicesE.Clone
import Derived.Shelf.SlicesE.Reverse
import Derived.Shelf.Small.Bits
import Derived.Shelf.Strconv.Itoa0
import Derived.Shelf.Strings.Builder1
import Derived.Shelf.Strings.Builder2
import Derived.Shelf.Strings.BuilderF
import Derived.Shelf.Strings.Prefix
import Derived.Shelf.Strings.Repeat
import Derived.ShutString
import Derived.Stop.Asserts
import Derived.Stop.IfaceNil
import Derived.Test.YtobhnjnffnbbkaaGreatDoorProg
import Derived.WalkKit
import Derived.WalkLawsBesides
import Derived.Test.YtobhnjnffnbbkaaGreatDoorPk9
set_option linter.unusedVariables false
set_option linter.unusedSimpArgs false
namespace Go.Proofs.YtobhnjnffnbbkaaGreatDoor
open Go.RowKit
section
variable {P : Program} {B : Nat → Nat → Prop} {o : Oper} {T : Nat → PV} {H : List Ob} {n : Nat} {all : Array Oper} {K : (Nat → PV) → List Ob → Prop} {Q : Exit → (Nat → PV) → List Ob → Prop}
theorem leafHn {G : List (Nat × TD)} {rs : List ResultVar} {x res : PV} {H' : List Ob} (h : resN G T H rs = some x) (h2 : x = res) (h3 : H = H') : RetH G rs res H' .normal T H := by
 subst h2; obtain ⟨y, h4, h5⟩ := resN_ok h; exact ⟨y, h4, h5, h3⟩
end
end Go.Proofs.YtobhnjnffnbbkaaGreatDoor
namespace Go.Proofs.YtobhnjnffnbbkaaGreatDoor
open Go.ChangeShapes Go.WideShapes Go.ChangeAt Go.RowKit
open Go.ChangeMaps (open_string)
set_option maxRecDepth 100000 in
theorem reads_int {w : World} {t : TypeId} {v : Value} {k : IntKind} (ht : Tryz.prog.underlying t = some (.int k)) (h : Reads w t v) : ∃ n, v = .int k n ∧ (Lit.int k n).wf = true := by
 obtain ⟨H, enc, d, p, base, hv, hd⟩ := h
 obtain ⟨n, hn, _, _, hw⟩ := open_int ht hv hd
 exact ⟨n, hn, hw⟩
end Go.Proofs.YtobhnjnffnbbkaaGreatDoor
namespace Go.Proofs.YtobhnjnffnbbkaaGreatDoor
open Go.RowKit
set_option maxRecDepth 100000
theorem doR_ok {v : VVm} {k : Nat} {r : VVm × List Int × Int} (h0 : k ≤ v.d.length) (h1 : r.2.2 = 0) (h2 : ((v.d.length - k + r.2.1.length : Nat) : Int) ≤ v.conf.data) : doR v k r = ({ r.1 with d := v.d.take (v.d.length - k) ++ r.2.1 }, 0) := by
 unfold doR
 rw [if_neg (by omega), if_neg (by rw [h1]; simp), if_neg (by omega)]
end Go.Proofs.YtobhnjnffnbbkaaGreatDoor
namespace Go.Proofs.YtobhnjnffnbbkaaGreatDoor
open Go.RowKit
set_option maxRecDepth 100000
theorem reads_i64 {w : World} {v : Value} (h : Reads w 3 v) : ∃ n, Fit64 n ∧ Rep (c0 w) (i64 n) v := by
 obtain ⟨n, rfl, h2⟩ := reads_int Tryz.underlying3 h
 exact ⟨n, wf_fit h2, by unfold i64; exact rep_val _ _⟩
end Go.Proofs.YtobhnjnffnbbkaaGreatDoor
namespace Go.Proofs.YtobhnjnffnbbkaaGreatDoor
open Go.RowKit
set_option maxRecDepth 100000
set_option maxHeartbeats 4000000
def bytesN : Nat → Nat → List Int
 | 0, _ => []
 | k + 1, u => ((u % 256 : Nat) : Int) :: bytesN k (u / 256)
theorem valB_bytesN (k : Nat) : ∀ u : Nat, u < 256 ^ k → valB (bytesN k u) = u := by
 induction k with
 | zero => intro u h; simp at h; simp [bytesN, valB, h]
 | succ k ih =>
  intro u h
  rw [Nat.pow_succ] at h
  simp only [bytesN, valB, ih (u / 256) (by omega), Int.toNat_natCast]
  omega
theorem bytes8_N (u : Nat) : bytes8 u = bytesN 8 u := by
 simp only [bytes8, bytesN, Nat.div_div_eq_div_mul]
 rfl
theorem valB_bytes8 (u : Nat) (h : u < 18446744073709551616) : valB (bytes8 u) = u := by
 rw [bytes8_N]; exact valB_bytesN 8 u (by rw [show (256 : Nat) ^ 8 = 18446744073709551616 from by decide]; exact h)
theorem getC_putC {n : Int} (h : Fit64 n) : getC (putC n) = n := by
 have e : (putC n).map (fun b => (b.toNat : Int)) = bytes8 (U n) := by
  unfold putC
  rw [List.map_map]
  have : ∀ x ∈ bytes8 (U n), ((fun b : UInt8 => (b.toNat : Int)) ∘ fun x : Int => UInt8.ofNat x.toNat) x = id x := by
   intro x hx
   have := b8_rng (U n) x hx
   simp only [Function.comp, id]
   rw [UInt8.toNat_ofNat']
   omega
  rw [List.map_congr_left this, List.map_id]
 unfold getC
 rw [e, valB_bytes8 _ (U_lt n)]
 exact S_U n h
def stM (m : VMem) (a n : Int) : VMem := ⟨laidB m.b a.toNat (putC n), m.old ++ [⟨a, (m.b.drop a.toNat).take 8⟩]⟩
theorem there_ok {m : VMem} {a n : Int} (h0 : 0 ≤ a) (h1 : 0 < n) (h2 : a + n ≤ m.b.length) : memThere m a n = true := by
 unfold memThere
 rw [decide_eq_true_eq]
 omega
theorem cell_ok {m : VMem} {a : Int} (h0 : 0 ≤ a) (h1 : a % 8 = 0) (h2 : a + 8 ≤ m.b.length) : memCellAt m a = 0 := by
 unfold memCellAt
 rw [there_ok h0 (by omega) h2, if_pos rfl, if_pos (by rw [Int.tmod_eq_emod_of_nonneg h0]; exact h1)]
theorem write_ok {m : VMem} {a : Int} (n : Int) (h0 : 0 ≤ a) (h2 : a + 8 ≤ m.b.length) : memWrite m a (putC n) = (stM m a n, 0) := by
 unfold memWrite
 rw [putC_len, if_pos (show memThere m a ((8 : Nat) : Int) = true from there_ok h0 (by omega) h2), if_neg (by intro h; have := congrArg List.length h; rw [putC_len] at this; cases this)]
 rfl
theorem store_ok {m : VMem} {a : Int} (n : Int) (h0 : 0 ≤ a) (h1 : a % 8 = 0) (h2 : a + 8 ≤ m.b.length) : memStore m a n = (stM m a n, 0) := by
 unfold memStore
 rw [if_pos (cell_ok h0 h1 h2), write_ok n h0 h2]
theorem stM_len {m : VMem} {a n : Int} (h0 : 0 ≤ a) (h2 : a + 8 ≤ m.b.length) : (stM m a n).b.length = m.b.length := by
 unfold stM
 exact laidB_len (by rw [putC_len]; omega)
theorem laid_at {l x : List UInt8} {k : Nat} (h : k + x.length ≤ l.length) : ((laidB l k x).drop k).take x.length = x := by
 unfold laidB
 rw [List.append_assoc, List.drop_left' (by rw [List.length_take]; omega), List.take_left' rfl]
theorem laid_below {l x : List UInt8} {k c n : Nat} (h : c + n ≤ k) (h2 : k ≤ l.length) : ((laidB l k x).drop c).take n = (l.drop c).take n := by
 unfold laidB
 rw [List.append_assoc, List.drop_append_of_le_length (by rw [List.length_take]; omega), List.take_append_of_le_length (by rw [List.length_drop, List.length_take]; omega), List.drop_take, List.take_take, Nat.min_eq_left (by omega)]
theorem fetch_same {m : VMem} {a n : Int} (hn : Fit64 n) (h0 : 0 ≤ a) (h1 : a % 8 = 0) (h2 : a + 8 ≤ m.b.length) : memFetch (stM m a n) a = (n, 0) := by
 unfold memFetch
 rw [cell_ok h0 h1 (by rw [stM_len h0 h2]; exact h2), if_pos rfl]
 have e : ((stM m a n).b.drop a.toNat).take 8 = putC n := laid_at (x := putC n) (by rw [putC_len]; omega)
 rw [e, getC_putC hn]
theorem fetch_below {m : VMem} {a b n : Int} (h0 : 0 ≤ b) (h1 : b % 8 = 0) (h3 : b + 8 ≤ a) (h2 : a + 8 ≤ m.b.length) : memFetch (stM m a n) b = memFetch m b := by
 unfold memFetch
 rw [cell_ok h0 h1 (by rw [stM_len (by omega) h2]; omega), cell_ok h0 h1 (by omega), if_pos rfl, if_pos rfl]
 have e : ((stM m a n).b.drop b.toNat).take 8 = (m.b.drop b.toNat).take 8 := laid_below (by omega) (by omega)
 rw [e]
end Go.Proofs.YtobhnjnffnbbkaaGreatDoor
namespace Go.Proofs.YtobhnjnffnbbkaaGreatDoor
open Go.RowKit
set_option maxRecDepth 100000
set_option maxHeartbeats 4000000
structure MemIs (m : VMem) (L : Nat) (g : Int → Int) : Prop where
 len : m.b.length = L
 cell : ∀ a : Int, 0 ≤ a → a % 8 = 0 → a + 8 ≤ (L : Int) → memFetch m a = (g a, 0)
def updI (g : Int → Int) (a n x : Int) : Int := if x = a then n else g x
theorem laid_above {l x : List UInt8} {k c n : Nat} (h : k + x.length ≤ c) (h2 : k + x.length ≤ l.length) : ((laidB l k x).drop c).take n = (l.drop c).take n := by
 unfold laidB
 have e : (l.take k ++ x).length = k + x.length := by rw [List.length_append, List.length_take]; omega
 rw [List.drop_append, List.drop_eq_nil_of_le (by rw [e]; exact h), List.nil_append, e, List.drop_drop, show k + x.length + (c - (k + x.length)) = c by omega]
theorem fetch_above {m : VMem} {a b n : Int} (h0 : 0 ≤ a) (h1 : b % 8 = 0) (h3 : a + 8 ≤ b) (h2 : b + 8 ≤ m.b.length) : memFetch (stM m a n) b = memFetch m b := by
 unfold memFetch
 rw [cell_ok (by omega) h1 (by rw [stM_len (by omega) (by omega)]; omega), cell_ok (by omega) h1 (by omega), if_pos rfl, if_pos rfl]
 have e : ((stM m a n).b.drop b.toNat).take 8 = (m.b.drop b.toNat).take 8 := laid_above (by rw [putC_len]; omega) (by rw [putC_len]; omega)
 rw [e]
def okA (L : Nat) (a : Int) : Bool := decide (0 ≤ a) && decide (a % 8 = 0) && decide (a + 8 ≤ (L : Int))
theorem okA_iff {L : Nat} {a : Int} : okA L a = true ↔ 0 ≤ a ∧ a % 8 = 0 ∧ a + 8 ≤ (L : Int) := by unfold okA; simp only [Bool.and_eq_true, decide_eq_true_eq, and_assoc]
theorem MemIs.store {m : VMem} {L : Nat} {g : Int → Int} (h : MemIs m L g) {a n : Int} (hn : Fit64 n) (ha : okA L a = true) : MemIs (stM m a n) L (updI g a n) := by
 obtain ⟨h0, h1, h2⟩ := okA_iff.1 ha
 have hl := h.len
 refine ⟨(stM_len h0 (by rw [hl]; exact h2)).trans hl, fun x x0 x1 x2 => ?_⟩
 unfold updI
 by_cases hx : x = a
 ·subst hx
  rw [if_pos rfl]
  exact fetch_same hn h0 h1 (by rw [hl]; exact h2)
 ·rw [if_neg hx, ← h.cell x x0 x1 x2]
  by_cases hlt : x < a
  ·exact fetch_below x0 x1 (by omega) (by rw [hl]; exact h2)
  ·exact fetch_above h0 x1 (by omega) (by rw [hl]; exact x2)
theorem MemIs.put {m : VMem} {L : Nat} {g : Int → Int} (h : MemIs m L g) {a n : Int} (ha : okA L a = true) : memStore m a n = (stM m a n, 0) := by
 obtain ⟨h0, h1, h2⟩ := okA_iff.1 ha
 exact store_ok n h0 h1 (by rw [h.len]; exact h2)
theorem MemIs.bare {m : VMem} {L : Nat} {g : Int → Int} (h : MemIs m L g) : MemIs ⟨m.b, []⟩ L g := ⟨h.len, h.cell⟩
def laidG (g : Int → Int) (at_ : Int) (cells : List Int) : Nat → Int → Int
 | 0 => g
 | k + 1 => updI (laidG g at_ cells k) (at_ + 8 + 8 * (k : Int)) (cells.getD k 0)
theorem w64_small {n : Int} (h0 : 0 ≤ n) (h1 : n ≤ 1000000) : W64 n = n := w64_id (by unfold Fit64; omega)
theorem fit_getD {l : List Int} (h : FitL l) (k : Nat) : Fit64 (l.getD k 0) := by
 rw [List.getD_eq_getElem?_getD]
 cases e : l[k]? with
 | none => exact fit64_0
 | some x => exact h x (List.mem_of_getElem? e)
theorem MemIs.laidK {m : VMem} {L : Nat} {g : Int → Int} (h : MemIs m L g) {at_ : Int} {cells : List Int} (hc : FitL cells) (h0 : 0 ≤ at_) (h1 : at_ % 8 = 0) (h2 : at_ + 8 + 8 * (cells.length : Int) ≤ (L : Int)) (hL : L ≤ 65536) :
  ∀ k, k ≤ cells.length → MemIs (laidK m at_ cells k) L (laidG g at_ cells k)
 | 0, _ => h
 | k + 1, hk => by
  have ih := MemIs.laidK h hc h0 h1 h2 hL k (by omega)
  have e : W64 (W64 (at_ + 8) + W64 (8 * (k : Int))) = at_ + 8 + 8 * (k : Int) := by
   rw [w64_small (n := at_ + 8) (by omega) (by omega), w64_small (n := 8 * (k : Int)) (by omega) (by omega), w64_small (by omega) (by omega)]
  have ha : okA L (at_ + 8 + 8 * (k : Int)) = true := okA_iff.2 ⟨by omega, by omega, by omega⟩
  show MemIs (memStore (Go.Proofs.YtobhnjnffnbbkaaGreatDoor.laidK m at_ cells k) (W64 (W64 (at_ + 8) + W64 (8 * (k : Int)))) (cells.getD k 0)).1 L _
  rw [e, ih.put ha]
  exact ih.store (fit_getD hc k) ha
structure Mach (v : VVm) (L : Nat) (g : Int → Int) : Prop where
 mem : MemIs v.mem L g
 hL : L ≤ 65536
 hl : 1072 ≤ L
 data : v.conf.data = 32
 ret : v.conf.ret = 32
theorem fit_256 : Fit64 256 := by unfold Fit64; omega
theorem Mach.laid {v : VVm} {L : Nat} {g : Int → Int} (M : Mach v L g) {at_ : Int} {cells : List Int} (hc : FitL cells) (ha : okA L at_ = true) (h2 : at_ + 8 + 8 * (cells.length : Int) ≤ (L : Int)) :
  Mach (laidZ v at_ cells) L (laidG (updI g at_ 256) at_ cells cells.length) := by
 obtain ⟨h0, h1, _⟩ := okA_iff.1 ha
 refine ⟨?_, M.hL, M.hl, M.data, M.ret⟩
 have q := M.mem.store fit_256 ha
 have e : memStore v.mem at_ 256 = (stM v.mem at_ 256, 0) := M.mem.put ha
 have r := (MemIs.laidK q hc h0 h1 h2 M.hL cells.length (Nat.le_refl _)).bare
 show MemIs ⟨(laidK (memStore v.mem at_ 256).1 at_ cells cells.length).b, []⟩ L _
 rw [e]
 exact r
theorem Mach.store {v : VVm} {L : Nat} {g : Int → Int} (M : Mach v L g) {a n : Int} (hn : Fit64 n) (ha : okA L a = true) : Mach (withM v (memStore v.mem a n).1) L (updI g a n) := by
 refine ⟨?_, M.hL, M.hl, M.data, M.ret⟩
 show MemIs (memStore v.mem a n).1 L _
 rw [M.mem.put ha]
 exact M.mem.store hn ha
def g0 (a : Int) : Int := (memFetch (stockS []).mem a).1
theorem stock_mach : Mach (stockS []) 2048 g0 := by
 have hl : (stockS []).mem.b.length = 2048 := newB_len 2048 167
 refine ⟨⟨hl, fun a h0 h1 h2 => ?_⟩, by decide, by decide, rfl, rfl⟩
 unfold g0 memFetch
 rw [cell_ok h0 h1 (by rw [hl]; exact h2), if_pos rfl]
def stdOk (g : Int → Int) : Bool := (List.range 130).all fun i => decide (g (32 + 8 * (i : Int)) = (i : Int))
theorem g0_std : stdOk g0 = true := by kernel_rfl
theorem g0_prim (i : Nat) (h : i < 130) : g0 (32 + 8 * (i : Int)) = (i : Int) := by
 have q := g0_std
 unfold stdOk at q
 rw [List.all_eq_true] at q
 exact oT (q i (List.mem_range.2 h))
theorem g0_16 : g0 16 = 96 := by kernel_rfl
theorem g0_24 : g0 24 = 104 := by kernel_rfl
structure Std (g : Int → Int) : Prop where
 prim : ∀ i : Nat, i < 130 → g (32 + 8 * (i : Int)) = (i : Int)
 c16 : g 16 = 96
 c24 : g 24 = 104
theorem std0 : Std g0 := ⟨g0_prim, g0_16, g0_24⟩
theorem Std.upd {g : Int → Int} (S : Std g) {a n : Int} (h : 1072 ≤ a) : Std (updI g a n) := by
 refine ⟨fun i hi => ?_, ?_, ?_⟩
 ·unfold updI; rw [if_neg (by omega)]; exact S.prim i hi
 ·unfold updI; rw [if_neg (by omega)]; exact S.c16
 ·unfold updI; rw [if_neg (by omega)]; exact S.c24
theorem Std.laid {g : Int → Int} (S : Std g) {at_ : Int} {cells : List Int} (h : 1072 ≤ at_) : ∀ k, Std (laidG g at_ cells k)
 | 0 => S
 | k + 1 => (Std.laid S h k).upd (by omega)
def mk (v : VVm) (d r : List Int) (f : List VFrame) : VVm := { v with d := d, r := r, f := f }
def mr (v : VVm) (d r : List Int) (f : List VFrame) (ip fu : Int) : VRun := ⟨mk v d r f, ip, 0, false, fu⟩
def mw (v : VVm) (d r : List Int) (f : List VFrame) (ip w fu : Int) : VRun := ⟨mk v d r f, ip, w, true, fu⟩
def mz (v : VVm) (d r : List Int) (f : List VFrame) (ip : Int) : VWk := ⟨mk v d r f, ip, 0, false, false, 0⟩
variable {v : VVm} {L : Nat} {g : Int → Int} {d r : List Int} {f : List VFrame} {ip fu xt q x n : Int}
theorem mz_rpop : dRPop (mz v d (r ++ [x]) f ip) = (mz v d r f ip, x) := by
 have e : vmRPop (mk v d (r ++ [x]) f) = (x, mk v d r f, 0) := by
  unfold vmRPop
  rw [if_neg (by show ¬ (r ++ [x]).length = 0; simp)]
  show ((r ++ [x]).getD ((r ++ [x]).length - 1) 0, { mk v d (r ++ [x]) f with r := (r ++ [x]).take ((r ++ [x]).length - 1) }, (0 : Int)) = _
  simp [mk]
 show (({ dFail (mz v d (r ++ [x]) f ip) (vmRPop (mk v d (r ++ [x]) f)).2.2 with v := (vmRPop (mk v d (r ++ [x]) f)).2.1 } : VWk), (vmRPop (mk v d (r ++ [x]) f)).1) = _
 rw [e]; rfl
theorem mz_push (M : Mach v L g) (h : d.length < 32) : dPush (mz v d r f ip) n = mz v (d ++ [n]) r f ip := by
 have e : vmPush (mk v d r f) n = (mk v (d ++ [n]) r f, 0) := by
  unfold vmPush stkPush
  rw [if_neg (by show ¬ v.conf.data ≤ (d.length : Int); rw [M.data]; omega)]
  rfl
 show ({ dFail (mz v d r f ip) (vmPush (mk v d r f) n).2 with v := (vmPush (mk v d r f) n).1 } : VWk) = _
 rw [e]; rfl
theorem mz_rpush (M : Mach v L g) (h : r.length < 32) : dRPush (mz v d r f ip) n = mz v d (r ++ [n]) f ip := by
 have e : vmRPush (mk v d r f) n = (mk v d (r ++ [n]) f, 0) := by
  unfold vmRPush
  rw [if_neg (by show ¬ v.conf.ret ≤ (r.length : Int); rw [M.ret]; omega)]
  rfl
 show ({ dFail (mz v d r f ip) (vmRPush (mk v d r f) n).2 with v := (vmRPush (mk v d r f) n).1 } : VWk) = _
 rw [e]; rfl
theorem mz_fetch (M : Mach v L g) (h : okA L x = true) : dFetch (mz v d r f ip) x = (mz v d r f ip, g x) := by
 obtain ⟨h0, h1, h2⟩ := okA_iff.1 h
 show (dFail (mz v d r f ip) (memFetch v.mem x).2, (memFetch v.mem x).1) = _
 rw [M.mem.cell x h0 h1 h2]; rfl
theorem mz_skip (M : Mach v L g) (h : okA L ip = true) : dSkip (mz v d r f ip) = mz v d r f (ip + 8) := by
 obtain ⟨h0, h1, h2⟩ := okA_iff.1 h
 have := M.hL
 show (⟨mk v d r f, W64 (ip + 8), 0, false, false, 0⟩ : VWk) = _
 rw [w64_small (by omega) (by omega)]; rfl
def dKind (k : VWk) (xt q : Int) : VWk :=
 if 300 ≤ q then dFail k (-14) else
 if q = 256 then { dRPush k k.ip with ip := W64 (xt + 8) } else
 if q = 257 then dPush k (W64 (xt + 16)) else
 if q = 258 then dPush (dFetch k (W64 (xt + 16))).1 (dFetch k (W64 (xt + 16))).2 else
 if q = 259 then (let a := dFetch k (W64 (xt + 8)); { dRPush (dPush a.1 (W64 (xt + 16))) (dPush a.1 (W64 (xt + 16))).ip with ip := a.2 }) else
 if q = 260 then dMachine k xt else
 if 23 ≤ q then { dFail k (doS k.v q).2 with v := (doS k.v q).1 } else
 if (dCode k (names.getD q.toNat [])).2 then (dCode k (names.getD q.toNat [])).1 else dWord (dCode k (names.getD q.toNat [])).1 (names.getD q.toNat [])
theorem done_kind {k : VWk} (h : vmKind k.v xt = (q, 0)) : dDone k xt = dKind k xt q := by
 unfold dDone dKind
 rw [h]
 rfl
theorem mk_kind (M : Mach v L g) (hx : okA L xt = true) (hq : g xt = q) (ok : kindOk q) : vmKind (mk v d r f) xt = (q, 0) := by
 obtain ⟨h0, h1, h2⟩ := okA_iff.1 hx
 show (if (memFetch v.mem xt).2 = 0 then (if kindOk (memFetch v.mem xt).1 then ((memFetch v.mem xt).1, 0) else (0, -9)) else (0, (memFetch v.mem xt).2)) = _
 rw [M.mem.cell xt h0 h1 h2]
 show (if kindOk (g xt) then (g xt, (0 : Int)) else (0, -9)) = _
 rw [hq, if_pos ok]
def finK (ahead : VRun) (fu : Int) (k : VWk) : VRun × Bool × Int :=
 if k.bad = 0 then (⟨k.v, k.ip, k.w, k.dof, fu⟩, k.over, 0) else ((caughtS ahead k.bad).1, false, (caughtS ahead k.bad).2)
theorem st_at (M : Mach v L g) (hf : 1 ≤ fu ∧ fu ≤ 300000) (hi : okA L ip = true) (hx : g ip = xt) (h2 : okA L xt = true) (hq : g xt = q) (ok : kindOk q) :
  stepS (mr v d r f ip fu) = finK (mr v d r f (ip + 8) (fu - 1)) (fu - 1) (dKind (mz v d r f (ip + 8)) xt q) := by
 have hw := fuel_w hf.1 hf.2
 unfold stepS
 rw [if_neg (by show ¬ fu < 1; omega)]
 have e : dFetch (⟨(mr v d r f ip fu).vm, (mr v d r f ip fu).ip, 0, false, false, 0⟩ : VWk) (mr v d r f ip fu).ip = (mz v d r f ip, xt) := by
  have := mz_fetch (d := d) (r := r) (f := f) (ip := ip) M hi
  rw [hx] at this; exact this
 have e2 := mz_skip (d := d) (r := r) (f := f) M hi
 have e3 : dDone (mz v d r f (ip + 8)) xt = dKind (mz v d r f (ip + 8)) xt q := done_kind (mk_kind M h2 hq ok)
 show finK ⟨mk v d r f, (if (dFetch (⟨mk v d r f, ip, 0, false, false, 0⟩ : VWk) ip).1.bad = 0 then dSkip (dFetch (⟨mk v d r f, ip, 0, false, false, 0⟩ : VWk) ip).1 else (dFetch (⟨mk v d r f, ip, 0, false, false, 0⟩ : VWk) ip).1).ip, 0, false, W64 (fu - 1)⟩ (W64 (fu - 1))
  (if (if (dFetch (⟨mk v d r f, ip, 0, false, false, 0⟩ : VWk) ip).1.bad = 0 then dSkip (dFetch (⟨mk v d r f, ip, 0, false, false, 0⟩ : VWk) ip).1 else (dFetch (⟨mk v d r f, ip, 0, false, false, 0⟩ : VWk) ip).1).bad = 0 then
   dDone (if (dFetch (⟨mk v d r f, ip, 0, false, false, 0⟩ : VWk) ip).1.bad = 0 then dSkip (dFetch (⟨mk v d r f, ip, 0, false, false, 0⟩ : VWk) ip).1 else (dFetch (⟨mk v d r f, ip, 0, false, false, 0⟩ : VWk) ip).1) (dFetch (⟨mk v d r f, ip, 0, false, false, 0⟩ : VWk) ip).2
   else (if (dFetch (⟨mk v d r f, ip, 0, false, false, 0⟩ : VWk) ip).1.bad = 0 then dSkip (dFetch (⟨mk v d r f, ip, 0, false, false, 0⟩ : VWk) ip).1 else (dFetch (⟨mk v d r f, ip, 0, false, false, 0⟩ : VWk) ip).1)) = _
 rw [show dFetch (⟨mk v d r f, ip, 0, false, false, 0⟩ : VWk) ip = (mz v d r f ip, xt) from e]
 show finK ⟨mk v d r f, (if (mz v d r f ip).bad = 0 then dSkip (mz v d r f ip) else mz v d r f ip).ip, 0, false, W64 (fu - 1)⟩ (W64 (fu - 1))
  (if (if (mz v d r f ip).bad = 0 then dSkip (mz v d r f ip) else mz v d r f ip).bad = 0 then dDone (if (mz v d r f ip).bad = 0 then dSkip (mz v d r f ip) else mz v d r f ip) xt else (if (mz v d r f ip).bad = 0 then dSkip (mz v d r f ip) else mz v d r f ip)) = _
 rw [if_pos (show (mz v d r f ip).bad = 0 from rfl), e2, if_pos (show (mz v d r f (ip + 8)).bad = 0 from rfl), e3, hw]
 rfl
theorem st_do (M : Mach v L g) (hf : 1 ≤ fu ∧ fu ≤ 300000) (h2 : okA L xt = true) (hq : g xt = q) (ok : kindOk q) :
  stepS (mw v d r f ip xt fu) = finK (mr v d r f ip (fu - 1)) (fu - 1) (dKind (mz v d r f ip) xt q) := by
 have hw := fuel_w hf.1 hf.2
 unfold stepS
 rw [if_neg (by show ¬ fu < 1; omega)]
 have e3 : dDone (mz v d r f ip) xt = dKind (mz v d r f ip) xt q := done_kind (mk_kind M h2 hq ok)
 show finK ⟨mk v d r f, ip, 0, false, W64 (fu - 1)⟩ (W64 (fu - 1)) (if (mz v d r f ip).bad = 0 then dDone (mz v d r f ip) xt else mz v d r f ip) = _
 rw [if_pos (show (mz v d r f ip).bad = 0 from rfl), e3, hw]
 rfl
def Go1 (s t : VRun) : Prop := stepS s = (t, false, 0)
inductive GoN : Nat → VRun → VRun → Prop
 | nil (s : VRun) : GoN 0 s s
 | cons {n : Nat} {s t u : VRun} : Go1 s t → GoN n t u → GoN (n + 1) s u
theorem GoN.trans {a b : Nat} {s t u : VRun} (h : GoN a s t) (k : GoN b t u) : GoN (b + a) s u := by
 induction h with
 | nil s => exact k
 | cons h1 _ ih => exact .cons h1 (ih k)
theorem GoN.one {s t : VRun} (h : Go1 s t) : GoN 1 s t := .cons h (.nil _)
theorem GoN.run {n : Nat} {s t : VRun} (h : GoN n s t) : ∀ k, runsS (k + n) s = runsS k t := by
 induction h with
 | nil s => intro k; rfl
 | cons h1 _ ih =>
  intro k
  unfold Go1 at h1
  rw [← Nat.add_assoc, runs_go (by rw [h1]; simp), h1]
  exact ih k
theorem run_over {n : Nat} {s t : VRun} {fuel : Int} {u : VVm} {xt : Int} (h : GoN n (beginS u xt fuel) s) (hl : stepS s = (t, true, 0)) (h0 : 0 ≤ fuel) (hn : (n : Int) ≤ fuel) : runNS u xt fuel = (endV t.vm, t.fuel, 0) := by
 have e : max fuel 0 = fuel := by omega
 unfold runNS
 rw [e]
 obtain ⟨m, hm⟩ : ∃ m, fuel.toNat.succ = (m + 1) + n := ⟨fuel.toNat - n, by omega⟩
 rw [hm, h.run, runs_end (by rw [hl]; exact .inl rfl), hl]
section
variable {d' r' : List Int} {f' : List VFrame} {v' : VVm} {ip' w : Int}
theorem go_at (M : Mach v L g) (hf : 1 ≤ fu ∧ fu ≤ 300000) (hi : okA L ip = true) (hx : g ip = xt) (h2 : okA L xt = true) (hq : g xt = q) (ok : kindOk q)
  (hk : dKind (mz v d r f (ip + 8)) xt q = mz v' d' r' f' ip') : Go1 (mr v d r f ip fu) (mr v' d' r' f' ip' (fu - 1)) := by
 unfold Go1; rw [st_at M hf hi hx h2 hq ok, hk]; rfl
theorem go_do (M : Mach v L g) (hf : 1 ≤ fu ∧ fu ≤ 300000) (h2 : okA L xt = true) (hq : g xt = q) (ok : kindOk q)
  (hk : dKind (mz v d r f ip) xt q = mz v' d' r' f' ip') : Go1 (mw v d r f ip xt fu) (mr v' d' r' f' ip' (fu - 1)) := by
 unfold Go1; rw [st_do M hf h2 hq ok, hk]; rfl
end
theorem k_exit : dKind (mz v d (r ++ [x]) f ip) xt 0 = mz v d r f x := by
 have e : dKind (mz v d (r ++ [x]) f ip) xt 0 = { (dRPop (mz v d (r ++ [x]) f ip)).1 with ip := (dRPop (mz v d (r ++ [x]) f ip)).2 } := by kernel_rfl
 rw [e, mz_rpop]; rfl
theorem k_halt : finK (mr v d r f ip fu) fu (dKind (mz v d r f ip) xt 8) = (mr v d r f ip fu, true, 0) := by kernel_rfl
theorem k_colon (M : Mach v L g) (hx : okA L xt = true) (hr : r.length < 32) : dKind (mz v d r f ip) xt 256 = mz v d (r ++ [ip]) f (xt + 8) := by
 have e : dKind (mz v d r f ip) xt 256 = { dRPush (mz v d r f ip) ip with ip := W64 (xt + 8) } := by kernel_rfl
 obtain ⟨h0, h1, h2⟩ := okA_iff.1 hx
 have := M.hL
 rw [e, mz_rpush M hr, w64_small (by omega) (by omega)]; rfl
theorem k_prim {u : VVm} {d' : List Int} (h1 : 23 ≤ q) (h2 : q ≤ 129) (h : doS (mk v d r f) q = (mk u d' r f, 0)) : dKind (mz v d r f ip) xt q = mz u d' r f ip := by
 unfold dKind
 rw [if_neg (by omega), if_neg (by omega), if_neg (by omega), if_neg (by omega), if_neg (by omega), if_neg (by omega), if_pos h1]
 show ({ dFail (mz v d r f ip) (doS (mk v d r f) q).2 with v := (doS (mk v d r f) q).1 } : VWk) = _
 rw [h]; rfl
theorem k_var (M : Mach v L g) (hx : okA L xt = true) (hd : d.length < 32) : dKind (mz v d r f ip) xt 257 = mz v (d ++ [xt + 16]) r f ip := by
 have e : dKind (mz v d r f ip) xt 257 = dPush (mz v d r f ip) (W64 (xt + 16)) := by kernel_rfl
 obtain ⟨h0, h1, h2⟩ := okA_iff.1 hx
 have := M.hL
 rw [e, w64_small (by omega) (by omega), mz_push M hd]
theorem k_con (M : Mach v L g) (hx : okA L (xt + 16) = true) (hx0 : 0 ≤ xt) (hn : g (xt + 16) = n) (hd : d.length < 32) : dKind (mz v d r f ip) xt 258 = mz v (d ++ [n]) r f ip := by
 have e : dKind (mz v d r f ip) xt 258 = dPush (dFetch (mz v d r f ip) (W64 (xt + 16))).1 (dFetch (mz v d r f ip) (W64 (xt + 16))).2 := by kernel_rfl
 obtain ⟨h0, h1, h2⟩ := okA_iff.1 hx
 have := M.hL
 rw [e, w64_small (by omega) (by omega), mz_fetch M hx, hn]
 dsimp only
 rw [mz_push M hd]
theorem k_doer (M : Mach v L g) (hx : okA L (xt + 16) = true) (hx0 : 0 ≤ xt) (hn : g (xt + 8) = n) (hd : d.length < 32) (hr : r.length < 32) : dKind (mz v d r f ip) xt 259 = mz v (d ++ [xt + 16]) (r ++ [ip]) f n := by
 have e : dKind (mz v d r f ip) xt 259 = (let a := dFetch (mz v d r f ip) (W64 (xt + 8)); { dRPush (dPush a.1 (W64 (xt + 16))) (dPush a.1 (W64 (xt + 16))).ip with ip := a.2 }) := by kernel_rfl
 obtain ⟨h0, h1, h2⟩ := okA_iff.1 hx
 have := M.hL
 rw [e, w64_small (n := xt + 8) (by omega) (by omega), w64_small (n := xt + 16) (by omega) (by omega), mz_fetch M (x := xt + 8) (okA_iff.2 ⟨by omega, by omega, by omega⟩), hn]
 dsimp only
 rw [mz_push M hd]
 show ({ dRPush (mz v (d ++ [xt + 16]) r f ip) ip with ip := n } : VWk) = _
 rw [mz_rpush M hr]; rfl
section
variable {d' r' : List Int} {f' : List VFrame} {v' : VVm} {ip' w : Int}
theorem kind_small {i : Nat} (hi : i < 130) : kindOk (i : Int) := .inl (by omega)
theorem okA_prim {i : Nat} (M : Mach v L g) (hi : i < 130) : okA L (32 + 8 * (i : Int)) = true := okA_iff.2 (by have := M.hl; omega)
theorem go_p (M : Mach v L g) (S : Std g) (i : Nat) (hi : i < 130) (hf : 1 ≤ fu ∧ fu ≤ 300000) (ha : okA L ip = true) (hx : g ip = 32 + 8 * (i : Int))
  (hk : dKind (mz v d r f (ip + 8)) (32 + 8 * (i : Int)) (i : Int) = mz v' d' r' f' ip') : Go1 (mr v d r f ip fu) (mr v' d' r' f' ip' (fu - 1)) :=
 go_at M hf ha hx (okA_prim M hi) (S.prim i hi) (kind_small hi) hk
end
theorem go_exit (M : Mach v L g) (S : Std g) (hf : 1 ≤ fu ∧ fu ≤ 300000) (ha : okA L ip = true) (hx : g ip = 32) : Go1 (mr v d (r ++ [x]) f ip fu) (mr v d r f x (fu - 1)) :=
 go_p M S 0 (by decide) hf ha hx k_exit
theorem go_halt (M : Mach v L g) (S : Std g) (hf : 1 ≤ fu ∧ fu ≤ 300000) : stepS (mr v d r f 16 fu) = (mr v d r f 24 (fu - 1), true, 0) := by
 have h := M.hl
 rw [st_at M hf (okA_iff.2 (by omega)) S.c16 (okA_iff.2 (by omega)) (S.prim 8 (by decide)) (kind_small (i := 8) (by decide))]
 exact k_halt
theorem go_colon (M : Mach v L g) (hf : 1 ≤ fu ∧ fu ≤ 300000) (h2 : okA L xt = true) (hq : g xt = 256) (hr : r.length < 32) : Go1 (mw v d r f ip xt fu) (mr v d (r ++ [ip]) f (xt + 8) (fu - 1)) :=
 go_do M hf h2 hq (.inr (.inl (by omega))) (k_colon M h2 hr)
end Go.Proofs.YtobhnjnffnbbkaaGreatDoor
namespace Go.Proofs.YtobhnjnffnbbkaaGreatDoor
open Go.RowKit
set_option maxRecDepth 100000
set_option maxHeartbeats 4000000
theorem fit_cells {l : List Int} (h : (l.all fun a => decide (-9223372036854775808 ≤ a) && decide (a ≤ 9223372036854775807)) = true) : FitL l := fun a ha => by
 rw [List.all_eq_true] at h
 have := h a ha
 simp only [Bool.and_eq_true, decide_eq_true_eq] at this
 exact this
section
variable {v : VVm} {g : Int → Int} {d : List Int} {f : List VFrame}
end
end Go.Proofs.YtobhnjnffnbbkaaGreatDoor
namespace Go.Proofs.YtobhnjnffnbbkaaGreatDoor
open Go.RowKit
open Go.WideShapes
set_option maxRecDepth 100000
set_option maxHeartbeats 8000000
theorem same4_of {l l' : List Int} (hl : l'.length ≤ 1000000) (h : l = l') : PureC Tryz.prog 28 [sq cInt l, sq cInt l'] (boo true) := by
 subst h
 have := ref_Same4 l l hl hl
 rw [decide_eq_true rfl] at this
 exact this
end Go.Proofs.YtobhnjnffnbbkaaGreatDoor
namespace Go.Proofs.YtobhnjnffnbbkaaGreatDoor
open Go.RowKit
set_option maxRecDepth 100000
set_option maxHeartbeats 4000000
section
variable {v : VVm} {L : Nat} {g : Int → Int} {d r : List Int} {f : List VFrame} {ip fu xt x n m a : Int}
theorem mz_store (M : Mach v L g) (h : okA L a = true) : dStore (mz v d r f ip) a n = mz (withM v (memStore v.mem a n).1) d r f ip := by
 show ({ dFail (mz v d r f ip) (memStore v.mem a n).2 with v := withM (mk v d r f) (memStore v.mem a n).1 } : VWk) = _
 have e : (memStore v.mem a n).2 = 0 := by rw [M.mem.put h]
 rw [e]; rfl
def doesV (v : VVm) (ip : Int) : VVm := withM v (memStore (memStore v.mem v.last 259).1 (v.last + 8) ip).1
theorem fit_259 : Fit64 259 := by unfold Fit64; omega
theorem does_mach (M : Mach v L g) (h1 : okA L v.last = true) (h2 : okA L (v.last + 8) = true) (hi : Fit64 ip) : Mach (doesV v ip) L (updI (updI g v.last 259) (v.last + 8) ip) := by
 have M1 := M.store fit_259 h1
 exact M1.store hi h2
theorem k_does (M : Mach v L g) (h0 : v.last ≠ 0) (h1 : okA L v.last = true) (h2 : okA L (v.last + 8) = true) (hq : g v.last = 257) : dKind (mz v d (r ++ [x]) f ip) xt 10 = mz (doesV v ip) d r f x := by
 have e : dKind (mz v d (r ++ [x]) f ip) xt 10 = dDoes (mz v d (r ++ [x]) f ip) := by kernel_rfl
 have hk : vmKind (mz v d (r ++ [x]) f ip).v (mz v d (r ++ [x]) f ip).v.last = (257, 0) := mk_kind M h1 hq (.inr (.inl (by omega)))
 obtain ⟨l0, l1, l2⟩ := okA_iff.1 h2
 obtain ⟨k0, k1, k2⟩ := okA_iff.1 h1
 have := M.hL
 have M1 := M.store fit_259 h1
 rw [e]
 unfold dDoes
 rw [hk, if_neg (by
  rintro (h | h | h)
  ·exact h0 h
  ·exact h rfl
  ·exact h.1 rfl)]
 have e1 : dStore (mz v d (r ++ [x]) f ip) (mz v d (r ++ [x]) f ip).v.last 259 = mz (withM v (memStore v.mem v.last 259).1) d (r ++ [x]) f ip := mz_store M h1
 rw [e1]
 have e2 : W64 ((mz (withM v (memStore v.mem v.last 259).1) d (r ++ [x]) f ip).v.last + 8) = v.last + 8 := w64_small (n := v.last + 8) (by omega) (by omega)
 dsimp only
 rw [e2]
 have e3 : dStore (mz (withM v (memStore v.mem v.last 259).1) d (r ++ [x]) f ip) (v.last + 8) (mz (withM v (memStore v.mem v.last 259).1) d (r ++ [x]) f ip).ip = mz (doesV v ip) d (r ++ [x]) f ip := mz_store M1 h2
 rw [e3, mz_rpop]
 rfl
theorem do_fetch (M : Mach v L g) (h : okA L a = true) (hn : g a = n) : doS (mk v [m, a] r f) 83 = (mk v [m, n] r f, 0) := by
 have e : doS (mk v [m, a] r f) 83 = doR (mk v [m, a] r f) 1 (mk v [m, a] r f, [(memFetch v.mem a).1], (memFetch v.mem a).2) := by kernel_rfl
 obtain ⟨h0, h1, h2⟩ := okA_iff.1 h
 rw [e, M.mem.cell a h0 h1 h2, hn]
 exact doR_ok (Nat.le_of_ble_eq_true rfl) rfl (by show ((2 : Nat) : Int) ≤ v.conf.data; rw [M.data]; decide)
theorem do_plus (M : Mach v L g) : doS (mk v [m, n] r f) 39 = (mk v [W64 (m + n)] r f, 0) := by
 have e : doS (mk v [m, n] r f) 39 = doR (mk v [m, n] r f) 2 (mk v [m, n] r f, [wrap64 (m + n)], 0) := by kernel_rfl
 rw [e, show W64 (m + n) = wrap64 (m + n) from i64w _]
 exact doR_ok (Nat.le_of_ble_eq_true rfl) rfl (by show ((1 : Nat) : Int) ≤ v.conf.data; rw [M.data]; decide)
end
def putV (v : VVm) (a n : Int) : VVm := withM v (memStore v.mem a n).1
theorem fit_257 : Fit64 257 := by unfold Fit64; omega
theorem fit_258 : Fit64 258 := by unfold Fit64; omega
def cellsD : List Int := [112, 696, 344, 32]
theorem xt_does : [xtS [40, 100, 111, 101, 115, 41], xtS [64], xtS [43], xtS [40, 101, 120, 105, 116, 41]] = cellsD := by kernel_rfl
def vD0 (n m : Int) : VVm := putV (putV (putV (putV (stockS []) 1368 257) 1384 n) 1400 258) 1416 m
def vD (n m : Int) : VVm := laidZ { vD0 n m with last := 1368 } 1504 cellsD
def gD (g : Int → Int) (n m : Int) : Int → Int := laidG (updI (updI (updI (updI (updI g 1368 257) 1384 n) 1400 258) 1416 m) 1504 256) 1504 cellsD 4
theorem mD0 {n m : Int} (hn : Fit64 n) (hm : Fit64 m) : Mach (vD0 n m) 2048 (updI (updI (updI (updI g0 1368 257) 1384 n) 1400 258) 1416 m) :=
 (((stock_mach.store fit_257 (by decide)).store hn (by decide)).store fit_258 (by decide)).store hm (by decide)
theorem mD {n m : Int} (hn : Fit64 n) (hm : Fit64 m) : Mach (vD n m) 2048 (gD g0 n m) := by
 have M := mD0 hn hm
 have M1 : Mach { vD0 n m with last := 1368 } 2048 (updI (updI (updI (updI g0 1368 257) 1384 n) 1400 258) 1416 m) := ⟨M.mem, M.hL, M.hl, M.data, M.ret⟩
 exact M1.laid (fit_cells (by decide)) (by decide) (by decide)
theorem sD {n m : Int} : Std (gD g0 n m) := Std.laid (((((std0.upd (by decide)).upd (by decide)).upd (by decide)).upd (by decide)).upd (by decide)) (by decide) 4
theorem gD_at (g : Int → Int) (n m : Int) : gD g n m 1368 = 257 ∧ gD g n m 1384 = n ∧ gD g n m 1400 = 258 ∧ gD g n m 1416 = m ∧ gD g n m 1504 = 256 ∧ gD g n m 1512 = 112 ∧ gD g n m 1520 = 696 ∧ gD g n m 1528 = 344 ∧ gD g n m 1536 = 32 := by and_intros <;> kernel_rfl
section
variable {v : VVm} {g : Int → Int} {n m : Int}
theorem fin_over (M : Mach v 2048 g) (S : Std g) {d : List Int} {fu fuel xt : Int} {u : VVm} {k : Nat} (hf : 1 ≤ fu ∧ fu ≤ 300000) (h : GoN k (beginS u xt fuel) (mr v d [] [] 16 fu)) (h0 : 0 ≤ fuel) (hn : (k : Int) ≤ fuel) : runNS u xt fuel = (mk v d [] [], fu - 1, 0) := by
 have key := run_over h (go_halt M S hf) h0 hn
 exact key
theorem does_a (M : Mach v 2048 (gD g n m)) (S : Std (gD g n m)) : runNS (mk v [] [] []) 1368 20 = (mk v [1384] [] [], 18, 0) := by
 obtain ⟨c0, c1, c2, c3, c4, c5, c6, c7, c8⟩ := gD_at g n m
 have a1 : Go1 (beginS (mk v [] [] []) 1368 20) (mr v [1384] [] [] 16 19) := go_do (v := v) M (by decide) (by decide) c0 (.inr (.inl (by decide))) (k_var (d := []) M (by decide) (by decide))
 exact fin_over M S (by decide) (.one a1) (by decide) (by decide)
theorem does_b (M : Mach v 2048 (gD g n m)) (S : Std (gD g n m)) : runNS (mk v [] [] []) 1400 20 = (mk v [m] [] [], 18, 0) := by
 obtain ⟨c0, c1, c2, c3, c4, c5, c6, c7, c8⟩ := gD_at g n m
 have a1 : Go1 (beginS (mk v [] [] []) 1400 20) (mr v [m] [] [] 16 19) := go_do (v := v) M (by decide) (by decide) c2 (.inr (.inl (by decide))) (k_con (d := []) M (by decide) (by decide) c3 (by decide))
 exact fin_over M S (by decide) (.one a1) (by decide) (by decide)
theorem does_c (M : Mach v 2048 (gD g n m)) (S : Std (gD g n m)) (hl : v.last = 1368) : runNS (mk v [] [] []) 1504 20 = (mk (doesV v 1520) [] [] [], 17, 0) ∧ Mach (doesV v 1520) 2048 (updI (updI (gD g n m) 1368 259) 1376 1520) := by
 obtain ⟨c0, c1, c2, c3, c4, c5, c6, c7, c8⟩ := gD_at g n m
 have M2 := does_mach (ip := 1520) M (by rw [hl]; decide) (by rw [hl]; decide) (by unfold Fit64; omega)
 rw [hl] at M2
 have S2 : Std (updI (updI (gD g n m) 1368 259) 1376 1520) := (S.upd (by decide)).upd (by decide)
 have a1 : Go1 (beginS (mk v [] [] []) 1504 20) (mr v [] ([] ++ [16]) [] 1512 19) := go_colon (v := v) (r := []) M (by decide) (by decide) c4 (by decide)
 have a2 : Go1 (mr v [] ([] ++ [16]) [] 1512 19) (mr (doesV v 1520) [] [] [] 16 18) := go_p M S 10 (by decide) (by decide) (by decide) c5 (k_does M (by rw [hl]; decide) (by rw [hl]; decide) (by rw [hl]; decide) (by rw [hl]; exact c0))
 exact ⟨fin_over M2 S2 (by decide) (.cons a1 (.one a2)) (by decide) (by decide), M2⟩
theorem does_d (M : Mach v 2048 (updI (updI (gD g n m) 1368 259) 1376 1520)) (S : Std (gD g n m)) : runNS (mk v [m] [] []) 1368 20 = (mk v [W64 (m + n)] [] [], 15, 0) := by
 obtain ⟨c0, c1, c2, c3, c4, c5, c6, c7, c8⟩ := gD_at g n m
 have S2 : Std (updI (updI (gD g n m) 1368 259) 1376 1520) := (S.upd (by decide)).upd (by decide)
 have e0 : ∀ h : Int → Int, updI (updI h 1368 259) 1376 1520 1368 = 259 ∧ updI (updI h 1368 259) 1376 1520 1376 = 1520 ∧ updI (updI h 1368 259) 1376 1520 1384 = h 1384 ∧ updI (updI h 1368 259) 1376 1520 1520 = h 1520 ∧ updI (updI h 1368 259) 1376 1520 1528 = h 1528 ∧ updI (updI h 1368 259) 1376 1520 1536 = h 1536 := fun h => by and_intros <;> kernel_rfl
 obtain ⟨f0, f1, f2, f3, f4, f5⟩ := e0 (gD g n m)
 have a1 : Go1 (beginS (mk v [m] [] []) 1368 20) (mr v [m, 1384] [16] [] 1520 19) := go_do (v := v) M (by decide) (by decide) f0 (.inr (.inl (by decide))) (k_doer (d := [m]) (r := []) M (by decide) (by decide) f1 (by show 1 < 32; decide) (by decide))
 have a2 : Go1 (mr v [m, 1384] [16] [] 1520 19) (mr v [m, n] [16] [] 1528 18) := go_p M S2 83 (by decide) (by decide) (by decide) (f3.trans c6) (k_prim (by decide) (by decide) (do_fetch M (by decide) (f2.trans c1)))
 have a3 : Go1 (mr v [m, n] [16] [] 1528 18) (mr v [W64 (m + n)] [16] [] 1536 17) := go_p M S2 39 (by decide) (by decide) (by decide) (f4.trans c7) (k_prim (by decide) (by decide) (do_plus M))
 have a4 : Go1 (mr v [W64 (m + n)] [16] [] 1536 17) (mr v [W64 (m + n)] [] [] 16 16) := go_exit (r := []) M S2 (by decide) (by decide) (f5.trans c8)
 exact fin_over M S2 (by decide) (.cons a1 (.cons a2 (.cons a3 (.one a4)))) (by decide) (by decide)
end
section
variable {v : VVm} {L : Nat} {g : Int → Int} {d r : List Int} {f : List VFrame} {ip fu s k x : Int}
end
end Go.Proofs.YtobhnjnffnbbkaaGreatDoor
namespace Go.Proofs.YtobhnjnffnbbkaaGreatDoor
open Go.RowKit
open Go.WideShapes
set_option maxRecDepth 100000
set_option maxHeartbeats 8000000
theorem good_mem {N k : Nat} {v : VVm} (g : GoodM N v) {m : VMem} (h : MKeeps v.mem m k) : GoodM (N + k) (withM v m) := by
 have R := g.right
 refine ⟨⟨R.fits, h.right R.mem, R.dict, R.pic, ?_, R.here0, ?_, R.f, R.hand, R.d, R.r, R.fl, R.dl, R.out, R.req, R.free0, R.free1, R.next0, R.next1, R.handl⟩, ?_, g.fd, g.fr, g.ff, g.ints, g.la⟩
 ·show (m.b.length : Int) = v.conf.mem; rw [h.len]; exact R.len
 ·exact R.here1
 ·show m.old.length ≤ N + k
  have := h.old; have := g.old; omega
theorem goodM_put {N : Nat} {v : VVm} (g : GoodM N v) (a n : Int) : GoodM (N + 1) (putV v a n) := good_mem g (keeps_store v.mem a n)
theorem good_memOk {N : Nat} {v : VVm} (g : GoodM N v) (hN : N ≤ 1000) : MemOk v.mem := g.x.mem (by omega)
theorem good_last {N : Nat} {v : VVm} (g : GoodM N v) {l : Int} (hl : Fit64 l) : GoodM N { v with last := l } := by
 have R := g.right
 exact ⟨⟨R.fits, R.mem, R.dict, R.pic, R.len, R.here0, R.here1, R.f, R.hand, R.d, R.r, R.fl, R.dl, R.out, R.req, R.free0, R.free1, R.next0, R.next1, R.handl⟩, g.old, g.fd, g.fr, g.ff, g.ints, hl⟩
theorem lain_goodN {N : Nat} {v : VVm} (g : GoodM N v) (hc : v.conf.data = 32) {d : List Int} (hd : d.length ≤ 32) (hf : FitL d) : GoodM N { v with d := d } := by
 have R := g.right
 refine ⟨⟨R.fits, R.mem, R.dict, R.pic, R.len, R.here0, R.here1, R.f, R.hand, ?_, R.r, R.fl, R.dl, R.out, R.req, R.free0, R.free1, R.next0, R.next1, R.handl⟩, g.old, hf, g.fr, g.ff, g.ints, g.la⟩
 show (d.length : Int) ≤ v.conf.data
 rw [hc]; omega
theorem mk_d {v : VVm} {d : List Int} (hr : v.r = []) (hf : v.f = []) : mk v d [] [] = { v with d := d } := by
 unfold mk; rw [hr, hf]
theorem mk_self {v : VVm} (hd : v.d = []) (hr : v.r = []) (hf : v.f = []) : mk v [] [] [] = v := by
 rw [mk_d hr hf, ← hd]
theorem does_good {N : Nat} {v : VVm} (g : GoodM N v) (hc : v.conf.data = 32) (hr : v.r = []) (hf : v.f = []) {m : Int} (hm : Fit64 m) : GoodM (N + 2) (mk (doesV v 1520) [m] [] []) := by
 have q : GoodM (N + 2) (doesV v 1520) := good_mem g ((keeps_store v.mem v.last 259).trans (keeps_store _ (v.last + 8) 1520))
 rw [mk_d (v := doesV v 1520) (show v.r = [] from hr) (show v.f = [] from hf)]
 exact lain_goodN q (show v.conf.data = 32 from hc) (show 1 ≤ 32 by decide) (fitL_one hm)
theorem vD_shape (n m : Int) : (vD n m).d = [] ∧ (vD n m).r = [] ∧ (vD n m).f = [] ∧ (vD n m).last = 1368 ∧ (vD n m).conf.data = 32 := ⟨rfl, rfl, rfl, rfl, rfl⟩
theorem does_put (a : Addr) (v : VVm) (at_ n : Int) (hm : MemOk v.mem) (ha : Fit64 at_) :
  HC Tryz.prog 29 [i64 at_, i64 n, .ptr 2 0] [.glob 0 (haltV a), .glob 1 etV, .cells (cVm v) 36] (.tup [])
   [.glob 0 (haltV a), .glob 1 etV, .cells (cVm (putV v at_ n)) 36, .cells (cMem (memStore v.mem at_ n).1) 27] := by
 refine hc_of_WR tG (rs := []) Tryz.func29 rfl rfl rfl (fun B => ?_)
 refine zp4 ?_
 refine Wc rfl rfl (dC rfl Tryz.func30 rfl rfl ((ref_Store v.mem at_ n hm ha) _)) ?_
 refine zy5 ?_
 refine zs1 ?_
 refine W_region rfl ?_
 refine zs3 ?_
 refine leafHn rfl ?_ ?_
 ·rfl
 ·rfl
theorem law_InnerDoes (a : Addr) (n m : Int) (hn : Fit64 n) (hm : Fit64 m) : ∀ (H : List Ob), (∀ o ∈ globs a, ∃ k : Nat, H[k]? = some o) → HC Tryz.prog 9 [i64 n, i64 m] H (boo true) H := by
 have g0 : GoodM 0 (stockS []) := stock_goodM (by decide) fitL_nil
 have g1 := goodM_put g0 1368 257
 have g2 := goodM_put g1 1384 n
 have g3 := goodM_put g2 1400 258
 have g4 : GoodM 4 (vD0 n m) := goodM_put g3 1416 m
 have gl := good_last g4 fit_1368
 have g5 : GoodM 0 (vD n m) := laid_good gl 1504 cellsD
 have M := mD hn hm
 have S := @sD n m
 obtain ⟨s1, s2, s3, s4, s5⟩ := vD_shape n m
 have e5 : mk (vD n m) [] [] [] = vD n m := mk_self s1 s2 s3
 have ra := does_a M S
 have rb := does_b M S
 obtain ⟨rc, Mc⟩ := does_c M S s4
 have rd := does_d (v := doesV (vD n m) 1520) Mc S
 rw [e5] at ra rb rc
 have g6 : GoodM 2 (mk (doesV (vD n m) 1520) [m] [] []) := does_good g5 s5 s2 s3 hm
 have p1 := inner_Run a (vD n m) 1368 20 0 g5 fit_1368 (by decide) (by decide)
 have p2 := inner_Run a (vD n m) 1400 20 0 g5 (by unfold Fit64; omega) (by decide) (by decide)
 have p3 := inner_Run a (vD n m) 1504 20 0 g5 (by unfold Fit64; omega) (by decide) (by decide)
 have p4 := inner_Run a (mk (doesV (vD n m) 1520) [m] [] []) 1368 20 2 g6 fit_1368 (by decide) (by decide)
 rw [ra] at p1
 rw [rb] at p2
 rw [rc] at p3
 rw [rd] at p4
 have hb : ({ vD0 n m with last := 1368 } : VVm).mem.b.length ≤ 65536 := gl.x.b
 have ho : ({ vD0 n m with last := 1368 } : VVm).mem.old.length ≤ 1000 := Nat.le_trans gl.old (by decide)
 unfold vD at p1 p2 p3 p4
 clear ra rb rc rd Mc M S g6 e5 s1 s2 s3 s4 s5 g5
 refine pureG_of_WR (globs_ok a) tG (rs := [.tmp 4]) Tryz.func9 rfl rfl rfl (by simp) (by simp) (fun B => ?_)
 refine zu1 ?_
 refine z8 ?_
 refine Wc rfl rfl (dC rfl Tryz.func11 rfl rfl (lawI_shown a _ (globs_at 0 1 rfl rfl))) ?_
 refine zs1 ?_
 refine z8 ?_
 refine Wc rfl rfl (dC rfl Tryz.func25 rfl rfl ((law_fresh) _)) ?_
 refine zs2 ?_
 refine zu2 ?_
 refine W_meet [(0, i64 n), (1, i64 m), (5, boo true), (6, .ptr 2 0), (7, .fn (.func 29) [] [.ptr 2 0])] [.glob 0 (haltV a), .glob 1 etV, .cells (cVm (putV (stockS []) 1368 257)) 36] [] ?_ ?_
 ·refine W_region rfl ?_
  refine z1 ?_
  refine Wc rfl rfl (doesCWv rfl rfl Tryz.func29 rfl rfl (does_put a (stockS []) 1368 257 (good_memOk g0 (by decide)) fit_1368)) ?_
  refine Wn ?_
  exact ⟨[], (fitT (len := show (3 : Nat) = 3 from rfl))⟩
 ·refine W_meet [(0, i64 n), (1, i64 m), (5, boo true), (6, .ptr 2 0), (7, .fn (.func 29) [] [.ptr 2 0])] [.glob 0 (haltV a), .glob 1 etV, .cells (cVm (putV (putV (stockS []) 1368 257) 1384 n)) 36] [] ?_ ?_
  ·refine W_region rfl ?_
   refine zy2 ?_
   refine Wc rfl rfl (doesCWv rfl rfl Tryz.func29 rfl rfl (does_put a (putV (stockS []) 1368 257) 1384 n (good_memOk g1 (by decide)) (by unfold Fit64; omega))) ?_
   refine Wn ?_
   exact ⟨[], (fitT (len := show (3 : Nat) = 3 from rfl))⟩
  ·refine W_meet [(0, i64 n), (1, i64 m), (5, boo true), (6, .ptr 2 0), (7, .fn (.func 29) [] [.ptr 2 0])] [.glob 0 (haltV a), .glob 1 etV, .cells (cVm (putV (putV (putV (stockS []) 1368 257) 1384 n) 1400 258)) 36] [] ?_ ?_
   ·refine W_region rfl ?_
    refine z1 ?_
    refine Wc rfl rfl (doesCWv rfl rfl Tryz.func29 rfl rfl (does_put a (putV (putV (stockS []) 1368 257) 1384 n) 1400 258 (good_memOk g2 (by decide)) (by unfold Fit64; omega))) ?_
    refine Wn ?_
    exact ⟨[], (fitT (len := show (3 : Nat) = 3 from rfl))⟩
   ·refine W_meet [(0, i64 n), (1, i64 m), (5, boo true), (6, .ptr 2 0), (7, .fn (.func 29) [] [.ptr 2 0])] [.glob 0 (haltV a), .glob 1 etV, .cells (cVm (vD0 n m)) 36] [] ?_ ?_
    ·refine W_region rfl ?_
     refine zy2 ?_
     refine Wc rfl rfl (doesCWv rfl rfl Tryz.func29 rfl rfl (does_put a (putV (putV (putV (stockS []) 1368 257) 1384 n) 1400 258) 1416 m (good_memOk g3 (by decide)) (by unfold Fit64; omega))) ?_
     refine Wn ?_
     exact ⟨[], (fitT (len := show (3 : Nat) = 3 from rfl))⟩
    ·refine zp1 ?_
     generalize vD0 n m = v at hb ho p1 p2 p3 p4 ⊢
     refine zs1 ?_
     refine Ws ?_
     refine W_drawU [1, 0, 0, 0, 0, 0, 0, 3] [0, 1, 2, 3, 4, 5, 6, 7] mG rfl (by kernel_rfl) ?_
     refine z5 ?_
     refine Xc rfl rfl rfl rfl (fun _ => dC rfl Tryz.func26 rfl rfl ((ref_Xt _) _)) ?_
     refine Xc rfl rfl rfl rfl (fun _ => dC rfl Tryz.func26 rfl rfl ((ref_Xt _) _)) ?_
     refine Xc rfl rfl rfl rfl (fun _ => dC rfl Tryz.func26 rfl rfl ((ref_Xt _) _)) ?_
     refine Xc rfl rfl rfl rfl (fun _ => dC rfl Tryz.func26 rfl rfl ((ref_Xt _) _)) ?_
     refine z3 ?_
     refine Xa 39 rfl ((show _ = sqc cInt cellsD from congrArg (sqc cInt) xt_does)) ?_
     refine Xc rfl rfl rfl rfl (fun _ => dC rfl Tryz.func27 rfl rfl ((ref_Laid { v with last := 1368 } 1504 cellsD hb ho (by unfold Fit64; omega) (by decide)) _)) ?_
     refine WU_ev3 tG rfl rfl rfl rfl rfl trivial ?_
     refine WU_nil ?_
     refine zp1 ?_
     refine Wc rfl rfl (dC rfl Tryz.func21 rfl rfl (p1 _ (globs_at 0 1 rfl rfl))) ?_
     refine zy5 ?_
     refine zs3 ?_
     refine zp1 ?_
     refine Wc rfl rfl (dC rfl Tryz.func21 rfl rfl (p2 _ (globs_at 0 1 rfl rfl))) ?_
     refine zy5 ?_
     refine zs3 ?_
     refine zp1 ?_
     refine Wc rfl rfl (dC rfl Tryz.func21 rfl rfl (p3 _ (globs_at 0 1 rfl rfl))) ?_
     refine zy5 ?_
     refine zs3 ?_
     refine zp2 ?_
     first | refine Wa 60 rfl (bsL cInt [_] rfl rfl) ?_ | skip
     refine zs2 ?_
     refine zp1 ?_
     refine Wc rfl rfl (dC rfl Tryz.func21 rfl rfl (p4 _ (globs_at 0 1 rfl rfl))) ?_
     refine zy5 ?_
     refine zs3 ?_
     refine zp2 ?_
     refine WO_true 69 rfl (by rfl) ?_
     refine zy4 ?_
     refine WO_true 73 rfl (by rfl) ?_
     refine zy3 ?_
     first | refine Wa 76 rfl (bsL cInt [_] rfl rfl) ?_ | skip
     refine Wc rfl rfl (dC rfl Tryz.func28 rfl rfl ((same4_of (l := [1384]) (l' := [1384]) (by decide) rfl) _)) ?_
     refine zy2 ?_
     refine WO_true 79 rfl (by rfl) ?_
     refine zy4 ?_
     refine WO_true 83 rfl (by rfl) ?_
     refine zy4 ?_
     first | refine Wa 87 rfl (bsL cInt [_] rfl rfl) ?_ | skip
     refine Wc rfl rfl (dC rfl Tryz.func28 rfl rfl ((same4_of (l := [m]) (l' := [m]) (show 1 ≤ 1000000 by decide) rfl) _)) ?_
     refine zy2 ?_
     refine WO_true 90 rfl (by rfl) ?_
     refine zy4 ?_
     refine WO_true 94 rfl (by rfl) ?_
     refine zy4 ?_
     refine WO_true 98 rfl (by rfl) ?_
     refine zy5 ?_
     refine z1 ?_
     first | refine Wa 104 rfl (bsL cInt [_] rfl rfl) ?_ | skip
     refine Wc rfl rfl (dC rfl Tryz.func28 rfl rfl ((same4_of (l := [W64 (m + n)]) (l' := [W64 (m + n)]) (show 1 ≤ 1000000 by decide) rfl) _)) ?_
     refine zs2 ?_
     refine zR ?_
     rfl
theorem walk_InnerDoes (a : Addr) (v0 v1 : Value) (w : World) (h0 : w.cell? ⟨0, 0, none⟩ = some (haltV a)) (h1 : w.cell? ⟨1, 0, none⟩ = some etV) (r0 : Reads w 3 v0) (r1 : Reads w 3 v1) :
  Calls Tryz.prog 9 #[v0, v1] w fun e w' => e = .returned (.bool true) ∧ Below w.heap.size w w' := by
 obtain ⟨n, hn, p0⟩ := reads_i64 r0
 obtain ⟨m, hm, p1⟩ := reads_i64 r1
 exact law_callsG (args := [i64 n, i64 m]) (by simp [FlatL, Flat]) (law_InnerDoes a n m hn hm) h0 h1 (repL_cons.2 ⟨p0, repL_cons.2 ⟨p1, repL_nil.2 rfl⟩⟩)
end Go.Proofs.YtobhnjnffnbbkaaGreatDoor
