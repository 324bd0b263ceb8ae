import Derived.Test.YtobhnjnffnbbkaaGreatDoorPk9
set_option linter.unusedVariables false
set_option linter.unusedSimpArgs false
namespace Go.Proofs.YtobhnjnffnbbkaaGreatDoor
open Go.RowKit
section
variable {P : Program} {B : Nat → Nat → Prop} {o : Oper} {T : Nat → PV} {H : List Ob} {n : Nat} {all : Array Oper} {K : (Nat → PV) → List Ob → Prop} {Q : Exit → (Nat → PV) → List Ob → Prop}
theorem bZ {G : List (Nat × TD)} {rs : List ResultVar} {x res : PV} {H' : List Ob} (h : resN G T H rs = some x) (h2 : x = res) (h3 : H = H') : RetH G rs res H' .normal T H := by
 subst h2; obtain ⟨y, h4, h5⟩ := resN_ok h; exact ⟨y, h4, h5, h3⟩
end
section
variable {P : Program} {B : Nat → Nat → Prop} {n : Nat} {md : Region.Mode} {ops : Array Oper} {cl : Nat → Nat}
variable {T : Nat → PV} {H : List Ob} {Q : Exit → (Nat → PV) → List Ob → Prop}
variable {o : Oper} {l : List Nat} {i : Nat} {K : (Nat → PV) → List Ob → Prop} {x : PV} {H' : List Ob} {G : List (Nat × TD)} {p : Prop} {d : Option Tmp}
theorem ar (d : Nat) {b : Bool} (hT : T d = .val (.bool b)) (hb : b = true) (h1 : WU P B n ops cl l (upd d (.val (.bool true)) T) H K) : WU P B n ops cl l T H K :=
 WU_split d hT (fun _ => h1) (fun h => by rw [hb] at h; cases h)
end
end Go.Proofs.YtobhnjnffnbbkaaGreatDoor
namespace Go.Proofs.YtobhnjnffnbbkaaGreatDoor
open Go.ChangeShapes Go.WideShapes Go.ChangeAt Go.RowKit
open Go.ChangeMaps (open_string)
set_option maxRecDepth 100000 in
theorem ay {w : World} {t : TypeId} {v : Value} {k : IntKind} (ht : Tryz.prog.underlying t = some (.int k)) (h : Reads w t v) : ∃ n, v = .int k n ∧ (Lit.int k n).wf = true := by
 obtain ⟨H, enc, d, p, base, hv, hd⟩ := h
 obtain ⟨n, hn, _, _, hw⟩ := open_int ht hv hd
 exact ⟨n, hn, hw⟩
namespace V
section
variable {P : Program} {B : Nat → Nat → Prop} {n : Nat} {md : Region.Mode} {ops : Array Oper} {cl : Nat → Nat}
variable {T : Nat → PV} {H : List Ob} {Q : Exit → (Nat → PV) → List Ob → Prop}
variable {o : Oper} {l : List Nat} {i : Nat} {K : (Nat → PV) → List Ob → Prop} {x : PV} {H' : List Ob} {G : List (Nat × TD)} {p : Prop} {d : Option Tmp}
theorem ar (d : Nat) {b : Bool} (hT : T d = .val (.bool b)) (hb : b = true) (h1 : WU P B n ops cl l (upd d (.val (.bool true)) T) H K) : WU P B n ops cl l T H K :=
 WU_split d hT (fun _ => h1) (fun h => by rw [hb] at h; cases h)
end
section
variable {B : Nat → Nat → Prop} {n : Nat} {all ops : Array Oper} {cl : Nat → Nat} {i : Nat} {li : List Nat} {T : Nat → PV} {H H' : List Ob} {K : (Nat → PV) → List Ob → Prop} {Q : Exit → (Nat → PV) → List Ob → Prop} {l : List Oper} {o : Oper} {x : PV} {d : Option Tmp} {p : Prop}
end
end V
set_option maxRecDepth 100000
theorem bg {w : World} {v : Value} (h : Reads w 3 v) : ∃ n, Fit64 n ∧ Rep (c0 w) (i64 n) v := by
 obtain ⟨n, rfl, h2⟩ := ay Tryz.underlying3 h
 exact ⟨n, wf_fit h2, by unfold i64; exact rep_val _ _⟩
set_option maxRecDepth 100000
set_option maxHeartbeats 4000000
def ap : Nat → Nat → List Int
 | 0, _ => []
 | k + 1, u => ((u % 256 : Nat) : Int) :: ap k (u / 256)
theorem aH (k : Nat) : ∀ u : Nat, u < 256 ^ k → valB (ap k u) = u := by
 induction k with
 | zero => intro u h; simp at h; simp [ap, valB, h]
 | succ k ih =>
  intro u h
  rw [Nat.pow_succ] at h
  simp only [ap, valB, ih (u / 256) (by omega), Int.toNat_natCast]
  omega
theorem bu (u : Nat) : bytes8 u = ap 8 u := by
 simp only [bytes8, ap, Nat.div_div_eq_div_mul]
 rfl
theorem aM (u : Nat) (h : u < 18446744073709551616) : valB (bytes8 u) = u := by
 rw [bu]; exact aH 8 u (by rw [show (256 : Nat) ^ 8 = 18446744073709551616 from by decide]; exact h)
theorem bj {n : Int} (h : Fit64 n) : getC (putC n) = n := by
 have e : (putC n).map (fun b => (b.toNat : Int)) = bytes8 (U n) := by
  unfold putC
  rw [List.map_map]
  have : ∀ x ∈ bytes8 (U n), ((fun b : UInt8 => (b.toNat : Int)) ∘ fun x : Int => UInt8.ofNat x.toNat) x = id x := by
   intro x hx
   have := b8_rng (U n) x hx
   simp only [Function.comp, id]
   rw [UInt8.toNat_ofNat']
   omega
  rw [List.map_congr_left this, List.map_id]
 unfold getC
 rw [e, aM _ (U_lt n)]
 exact S_U n h
def stM (m : VMem) (a n : Int) : VMem := ⟨laidB m.b a.toNat (putC n), m.old ++ [⟨a, (m.b.drop a.toNat).take 8⟩]⟩
theorem aK {m : VMem} {a n : Int} (h0 : 0 ≤ a) (h1 : 0 < n) (h2 : a + n ≤ m.b.length) : memThere m a n = true := by
 unfold memThere
 rw [decide_eq_true_eq]
 omega
theorem ai {m : VMem} {a : Int} (h0 : 0 ≤ a) (h1 : a % 8 = 0) (h2 : a + 8 ≤ m.b.length) : memCellAt m a = 0 := by
 unfold memCellAt
 rw [aK h0 (by omega) h2, if_pos rfl, if_pos (by rw [Int.tmod_eq_emod_of_nonneg h0]; exact h1)]
theorem bn {m : VMem} {a : Int} (n : Int) (h0 : 0 ≤ a) (h2 : a + 8 ≤ m.b.length) : memWrite m a (putC n) = (stM m a n, 0) := by
 unfold memWrite
 rw [putC_len, if_pos (show memThere m a ((8 : Nat) : Int) = true from aK h0 (by omega) h2), if_neg (by intro h; have := congrArg List.length h; rw [putC_len] at this; cases this)]
 rfl
theorem bx {m : VMem} {a : Int} (n : Int) (h0 : 0 ≤ a) (h1 : a % 8 = 0) (h2 : a + 8 ≤ m.b.length) : memStore m a n = (stM m a n, 0) := by
 unfold memStore
 rw [if_pos (ai h0 h1 h2), bn n h0 h2]
theorem au {m : VMem} {a n : Int} (h0 : 0 ≤ a) (h2 : a + 8 ≤ m.b.length) : (stM m a n).b.length = m.b.length := by
 unfold stM
 exact laidB_len (by rw [putC_len]; omega)
theorem bN {l x : List UInt8} {k : Nat} (h : k + x.length ≤ l.length) : ((laidB l k x).drop k).take x.length = x := by
 unfold laidB
 rw [List.append_assoc, List.drop_left' (by rw [List.length_take]; omega), List.take_left' rfl]
theorem aQ {l x : List UInt8} {k c n : Nat} (h : c + n ≤ k) (h2 : k ≤ l.length) : ((laidB l k x).drop c).take n = (l.drop c).take n := by
 unfold laidB
 rw [List.append_assoc, List.drop_append_of_le_length (by rw [List.length_take]; omega), List.take_append_of_le_length (by rw [List.length_drop, List.length_take]; omega), List.drop_take, List.take_take, Nat.min_eq_left (by omega)]
theorem aU {m : VMem} {a n : Int} (hn : Fit64 n) (h0 : 0 ≤ a) (h1 : a % 8 = 0) (h2 : a + 8 ≤ m.b.length) : memFetch (stM m a n) a = (n, 0) := by
 unfold memFetch
 rw [ai h0 h1 (by rw [au h0 h2]; exact h2), if_pos rfl]
 have e : ((stM m a n).b.drop a.toNat).take 8 = putC n := bN (x := putC n) (by rw [putC_len]; omega)
 rw [e, bj hn]
theorem aI {m : VMem} {a b n : Int} (h0 : 0 ≤ b) (h1 : b % 8 = 0) (h3 : b + 8 ≤ a) (h2 : a + 8 ≤ m.b.length) : memFetch (stM m a n) b = memFetch m b := by
 unfold memFetch
 rw [ai h0 h1 (by rw [au (by omega) h2]; omega), ai h0 h1 (by omega), if_pos rfl, if_pos rfl]
 have e : ((stM m a n).b.drop b.toNat).take 8 = (m.b.drop b.toNat).take 8 := aQ (by omega) (by omega)
 rw [e]
set_option maxRecDepth 100000
set_option maxHeartbeats 4000000
structure ag (m : VMem) (L : Nat) (g : Int → Int) : Prop where
 len : m.b.length = L
 cell : ∀ a : Int, 0 ≤ a → a % 8 = 0 → a + 8 ≤ (L : Int) → memFetch m a = (g a, 0)
def ae (g : Int → Int) (a n x : Int) : Int := if x = a then n else g x
theorem aS {l x : List UInt8} {k c n : Nat} (h : k + x.length ≤ c) (h2 : k + x.length ≤ l.length) : ((laidB l k x).drop c).take n = (l.drop c).take n := by
 unfold laidB
 have e : (l.take k ++ x).length = k + x.length := by rw [List.length_append, List.length_take]; omega
 rw [List.drop_append, List.drop_eq_nil_of_le (by rw [e]; exact h), List.nil_append, e, List.drop_drop, show k + x.length + (c - (k + x.length)) = c by omega]
theorem aF {m : VMem} {a b n : Int} (h0 : 0 ≤ a) (h1 : b % 8 = 0) (h3 : a + 8 ≤ b) (h2 : b + 8 ≤ m.b.length) : memFetch (stM m a n) b = memFetch m b := by
 unfold memFetch
 rw [ai (by omega) h1 (by rw [au (by omega) (by omega)]; omega), ai (by omega) h1 (by omega), if_pos rfl, if_pos rfl]
 have e : ((stM m a n).b.drop b.toNat).take 8 = (m.b.drop b.toNat).take 8 := aS (by rw [putC_len]; omega) (by rw [putC_len]; omega)
 rw [e]
def okA (L : Nat) (a : Int) : Bool := decide (0 ≤ a) && decide (a % 8 = 0) && decide (a + 8 ≤ (L : Int))
theorem ab {L : Nat} {a : Int} : okA L a = true ↔ 0 ≤ a ∧ a % 8 = 0 ∧ a + 8 ≤ (L : Int) := by unfold okA; simp only [Bool.and_eq_true, decide_eq_true_eq, and_assoc]
theorem ag.store {m : VMem} {L : Nat} {g : Int → Int} (h : ag m L g) {a n : Int} (hn : Fit64 n) (ha : okA L a = true) : ag (stM m a n) L (ae g a n) := by
 obtain ⟨h0, h1, h2⟩ := ab.1 ha
 have hl := h.len
 refine ⟨(au h0 (by rw [hl]; exact h2)).trans hl, fun x x0 x1 x2 => ?_⟩
 unfold ae
 by_cases hx : x = a
 ·subst hx
  rw [if_pos rfl]
  exact aU hn h0 h1 (by rw [hl]; exact h2)
 ·rw [if_neg hx, ← h.cell x x0 x1 x2]
  by_cases hlt : x < a
  ·exact aI x0 x1 (by omega) (by rw [hl]; exact h2)
  ·exact aF h0 x1 (by omega) (by rw [hl]; exact x2)
theorem ag.put {m : VMem} {L : Nat} {g : Int → Int} (h : ag m L g) {a n : Int} (ha : okA L a = true) : memStore m a n = (stM m a n, 0) := by
 obtain ⟨h0, h1, h2⟩ := ab.1 ha
 exact bx n h0 h1 (by rw [h.len]; exact h2)
theorem ag.bare {m : VMem} {L : Nat} {g : Int → Int} (h : ag m L g) : ag ⟨m.b, []⟩ L g := ⟨h.len, h.cell⟩
def bP (g : Int → Int) (at_ : Int) (cells : List Int) : Nat → Int → Int
 | 0 => g
 | k + 1 => ae (bP g at_ cells k) (at_ + 8 + 8 * (k : Int)) (cells.getD k 0)
theorem aa {n : Int} (h0 : 0 ≤ n) (h1 : n ≤ 1000000) : W64 n = n := w64_id (by unfold Fit64; omega)
theorem aN {l : List Int} (h : FitL l) (k : Nat) : Fit64 (l.getD k 0) := by
 rw [List.getD_eq_getElem?_getD]
 cases e : l[k]? with
 | none => exact fit64_0
 | some x => exact h x (List.mem_of_getElem? e)
theorem ag.laidK {m : VMem} {L : Nat} {g : Int → Int} (h : ag m L g) {at_ : Int} {cells : List Int} (hc : FitL cells) (h0 : 0 ≤ at_) (h1 : at_ % 8 = 0) (h2 : at_ + 8 + 8 * (cells.length : Int) ≤ (L : Int)) (hL : L ≤ 65536) :
  ∀ k, k ≤ cells.length → ag (laidK m at_ cells k) L (bP g at_ cells k)
 | 0, _ => h
 | k + 1, hk => by
  have ih := ag.laidK h hc h0 h1 h2 hL k (by omega)
  have e : W64 (W64 (at_ + 8) + W64 (8 * (k : Int))) = at_ + 8 + 8 * (k : Int) := by
   rw [aa (n := at_ + 8) (by omega) (by omega), aa (n := 8 * (k : Int)) (by omega) (by omega), aa (by omega) (by omega)]
  have ha : okA L (at_ + 8 + 8 * (k : Int)) = true := ab.2 ⟨by omega, by omega, by omega⟩
  show ag (memStore (Go.Proofs.YtobhnjnffnbbkaaGreatDoor.laidK m at_ cells k) (W64 (W64 (at_ + 8) + W64 (8 * (k : Int)))) (cells.getD k 0)).1 L _
  rw [e, ih.put ha]
  exact ih.store (aN hc k) ha
structure aj (v : VVm) (L : Nat) (g : Int → Int) : Prop where
 mem : ag v.mem L g
 hL : L ≤ 65536
 hl : 1072 ≤ L
 data : v.conf.data = 32
 ret : v.conf.ret = 32
theorem aj.store {v : VVm} {L : Nat} {g : Int → Int} (M : aj v L g) {a n : Int} (hn : Fit64 n) (ha : okA L a = true) : aj (withM v (memStore v.mem a n).1) L (ae g a n) := by
 refine ⟨?_, M.hL, M.hl, M.data, M.ret⟩
 show ag (memStore v.mem a n).1 L _
 rw [M.mem.put ha]
 exact M.mem.store hn ha
def g0 (a : Int) : Int := (memFetch (stockS []).mem a).1
theorem aW : aj (stockS []) 2048 g0 := by
 have hl : (stockS []).mem.b.length = 2048 := newB_len 2048 167
 refine ⟨⟨hl, fun a h0 h1 h2 => ?_⟩, by decide, by decide, rfl, rfl⟩
 unfold g0 memFetch
 rw [ai h0 h1 (by rw [hl]; exact h2), if_pos rfl]
def bQ (g : Int → Int) : Bool := (List.range 130).all fun i => decide (g (32 + 8 * (i : Int)) = (i : Int))
theorem bX : bQ g0 = true := by kernel_rfl
theorem bL (i : Nat) (h : i < 130) : g0 (32 + 8 * (i : Int)) = (i : Int) := by
 have q := bX
 unfold bQ at q
 rw [List.all_eq_true] at q
 exact oT (q i (List.mem_range.2 h))
theorem cd : g0 16 = 96 := by kernel_rfl
theorem cc : g0 24 = 104 := by kernel_rfl
structure Std (g : Int → Int) : Prop where
 prim : ∀ i : Nat, i < 130 → g (32 + 8 * (i : Int)) = (i : Int)
 c16 : g 16 = 96
 c24 : g 24 = 104
theorem ce : Std g0 := ⟨bL, cd, cc⟩
theorem Std.upd {g : Int → Int} (S : Std g) {a n : Int} (h : 1072 ≤ a) : Std (ae g a n) := by
 refine ⟨fun i hi => ?_, ?_, ?_⟩
 ·unfold ae; rw [if_neg (by omega)]; exact S.prim i hi
 ·unfold ae; rw [if_neg (by omega)]; exact S.c16
 ·unfold ae; rw [if_neg (by omega)]; exact S.c24
def mk (v : VVm) (d r : List Int) (f : List VFrame) : VVm := { v with d := d, r := r, f := f }
def mr (v : VVm) (d r : List Int) (f : List VFrame) (ip fu : Int) : VRun := ⟨mk v d r f, ip, 0, false, fu⟩
def mw (v : VVm) (d r : List Int) (f : List VFrame) (ip w fu : Int) : VRun := ⟨mk v d r f, ip, w, true, fu⟩
def mz (v : VVm) (d r : List Int) (f : List VFrame) (ip : Int) : VWk := ⟨mk v d r f, ip, 0, false, false, 0⟩
def mzw (v : VVm) (d r : List Int) (f : List VFrame) (ip w : Int) : VWk := ⟨mk v d r f, ip, w, true, false, 0⟩
variable {v : VVm} {L : Nat} {g : Int → Int} {d r : List Int} {f : List VFrame} {ip fu xt q x n : Int}
theorem ak (M : aj v L g) (h : okA L x = true) : dFetch (mz v d r f ip) x = (mz v d r f ip, g x) := by
 obtain ⟨h0, h1, h2⟩ := ab.1 h
 show (dFail (mz v d r f ip) (memFetch v.mem x).2, (memFetch v.mem x).1) = _
 rw [M.mem.cell x h0 h1 h2]; rfl
theorem bM (M : aj v L g) (h : okA L ip = true) : dSkip (mz v d r f ip) = mz v d r f (ip + 8) := by
 obtain ⟨h0, h1, h2⟩ := ab.1 h
 have := M.hL
 show (⟨mk v d r f, W64 (ip + 8), 0, false, false, 0⟩ : VWk) = _
 rw [aa (by omega) (by omega)]; rfl
def ah (k : VWk) (xt q : Int) : VWk :=
 if 300 ≤ q then dFail k (-14) else
 if q = 256 then { dRPush k k.ip with ip := W64 (xt + 8) } else
 if q = 257 then dPush k (W64 (xt + 16)) else
 if q = 258 then dPush (dFetch k (W64 (xt + 16))).1 (dFetch k (W64 (xt + 16))).2 else
 if q = 259 then (let a := dFetch k (W64 (xt + 8)); { dRPush (dPush a.1 (W64 (xt + 16))) (dPush a.1 (W64 (xt + 16))).ip with ip := a.2 }) else
 if q = 260 then dMachine k xt else
 if 23 ≤ q then { dFail k (doS k.v q).2 with v := (doS k.v q).1 } else
 if (dCode k (names.getD q.toNat [])).2 then (dCode k (names.getD q.toNat [])).1 else dWord (dCode k (names.getD q.toNat [])).1 (names.getD q.toNat [])
theorem aB {k : VWk} (h : vmKind k.v xt = (q, 0)) : dDone k xt = ah k xt q := by
 unfold dDone ah
 rw [h]
 rfl
theorem be (M : aj v L g) (hx : okA L xt = true) (hq : g xt = q) (ok : kindOk q) : vmKind (mk v d r f) xt = (q, 0) := by
 obtain ⟨h0, h1, h2⟩ := ab.1 hx
 show (if (memFetch v.mem xt).2 = 0 then (if kindOk (memFetch v.mem xt).1 then ((memFetch v.mem xt).1, 0) else (0, -9)) else (0, (memFetch v.mem xt).2)) = _
 rw [M.mem.cell xt h0 h1 h2]
 show (if kindOk (g xt) then (g xt, (0 : Int)) else (0, -9)) = _
 rw [hq, if_pos ok]
def aX (ahead : VRun) (fu : Int) (k : VWk) : VRun × Bool × Int :=
 if k.bad = 0 then (⟨k.v, k.ip, k.w, k.dof, fu⟩, k.over, 0) else ((caughtS ahead k.bad).1, false, (caughtS ahead k.bad).2)
theorem ca (M : aj v L g) (hf : 1 ≤ fu ∧ fu ≤ 300000) (hi : okA L ip = true) (hx : g ip = xt) (h2 : okA L xt = true) (hq : g xt = q) (ok : kindOk q) :
  stepS (mr v d r f ip fu) = aX (mr v d r f (ip + 8) (fu - 1)) (fu - 1) (ah (mz v d r f (ip + 8)) xt q) := by
 have hw := fuel_w hf.1 hf.2
 unfold stepS
 rw [if_neg (by show ¬ fu < 1; omega)]
 have e : dFetch (⟨(mr v d r f ip fu).vm, (mr v d r f ip fu).ip, 0, false, false, 0⟩ : VWk) (mr v d r f ip fu).ip = (mz v d r f ip, xt) := by
  have := ak (d := d) (r := r) (f := f) (ip := ip) M hi
  rw [hx] at this; exact this
 have e2 := bM (d := d) (r := r) (f := f) M hi
 have e3 : dDone (mz v d r f (ip + 8)) xt = ah (mz v d r f (ip + 8)) xt q := aB (be M h2 hq ok)
 show aX ⟨mk v d r f, (if (dFetch (⟨mk v d r f, ip, 0, false, false, 0⟩ : VWk) ip).1.bad = 0 then dSkip (dFetch (⟨mk v d r f, ip, 0, false, false, 0⟩ : VWk) ip).1 else (dFetch (⟨mk v d r f, ip, 0, false, false, 0⟩ : VWk) ip).1).ip, 0, false, W64 (fu - 1)⟩ (W64 (fu - 1))
  (if (if (dFetch (⟨mk v d r f, ip, 0, false, false, 0⟩ : VWk) ip).1.bad = 0 then dSkip (dFetch (⟨mk v d r f, ip, 0, false, false, 0⟩ : VWk) ip).1 else (dFetch (⟨mk v d r f, ip, 0, false, false, 0⟩ : VWk) ip).1).bad = 0 then
   dDone (if (dFetch (⟨mk v d r f, ip, 0, false, false, 0⟩ : VWk) ip).1.bad = 0 then dSkip (dFetch (⟨mk v d r f, ip, 0, false, false, 0⟩ : VWk) ip).1 else (dFetch (⟨mk v d r f, ip, 0, false, false, 0⟩ : VWk) ip).1) (dFetch (⟨mk v d r f, ip, 0, false, false, 0⟩ : VWk) ip).2
   else (if (dFetch (⟨mk v d r f, ip, 0, false, false, 0⟩ : VWk) ip).1.bad = 0 then dSkip (dFetch (⟨mk v d r f, ip, 0, false, false, 0⟩ : VWk) ip).1 else (dFetch (⟨mk v d r f, ip, 0, false, false, 0⟩ : VWk) ip).1)) = _
 rw [show dFetch (⟨mk v d r f, ip, 0, false, false, 0⟩ : VWk) ip = (mz v d r f ip, xt) from e]
 show aX ⟨mk v d r f, (if (mz v d r f ip).bad = 0 then dSkip (mz v d r f ip) else mz v d r f ip).ip, 0, false, W64 (fu - 1)⟩ (W64 (fu - 1))
  (if (if (mz v d r f ip).bad = 0 then dSkip (mz v d r f ip) else mz v d r f ip).bad = 0 then dDone (if (mz v d r f ip).bad = 0 then dSkip (mz v d r f ip) else mz v d r f ip) xt else (if (mz v d r f ip).bad = 0 then dSkip (mz v d r f ip) else mz v d r f ip)) = _
 rw [if_pos (show (mz v d r f ip).bad = 0 from rfl), e2, if_pos (show (mz v d r f (ip + 8)).bad = 0 from rfl), e3, hw]
 rfl
theorem bz (M : aj v L g) (hf : 1 ≤ fu ∧ fu ≤ 300000) (h2 : okA L xt = true) (hq : g xt = q) (ok : kindOk q) :
  stepS (mw v d r f ip xt fu) = aX (mr v d r f ip (fu - 1)) (fu - 1) (ah (mz v d r f ip) xt q) := by
 have hw := fuel_w hf.1 hf.2
 unfold stepS
 rw [if_neg (by show ¬ fu < 1; omega)]
 have e3 : dDone (mz v d r f ip) xt = ah (mz v d r f ip) xt q := aB (be M h2 hq ok)
 show aX ⟨mk v d r f, ip, 0, false, W64 (fu - 1)⟩ (W64 (fu - 1)) (if (mz v d r f ip).bad = 0 then dDone (mz v d r f ip) xt else mz v d r f ip) = _
 rw [if_pos (show (mz v d r f ip).bad = 0 from rfl), e3, hw]
 rfl
def Go1 (s t : VRun) : Prop := stepS s = (t, false, 0)
inductive GoN : Nat → VRun → VRun → Prop
 | nil (s : VRun) : GoN 0 s s
 | cons {n : Nat} {s t u : VRun} : Go1 s t → GoN n t u → GoN (n + 1) s u
theorem GoN.trans {a b : Nat} {s t u : VRun} (h : GoN a s t) (k : GoN b t u) : GoN (b + a) s u := by
 induction h with
 | nil s => exact k
 | cons h1 _ ih => exact .cons h1 (ih k)
theorem GoN.one {s t : VRun} (h : Go1 s t) : GoN 1 s t := .cons h (.nil _)
theorem GoN.run {n : Nat} {s t : VRun} (h : GoN n s t) : ∀ k, runsS (k + n) s = runsS k t := by
 induction h with
 | nil s => intro k; rfl
 | cons h1 _ ih =>
  intro k
  unfold Go1 at h1
  rw [← Nat.add_assoc, runs_go (by rw [h1]; simp), h1]
  exact ih k
theorem br {n : Nat} {s t : VRun} {fuel : Int} {u : VVm} {xt : Int} (h : GoN n (beginS u xt fuel) s) (hl : stepS s = (t, true, 0)) (h0 : 0 ≤ fuel) (hn : (n : Int) ≤ fuel) : runNS u xt fuel = (endV t.vm, t.fuel, 0) := by
 have e : max fuel 0 = fuel := by omega
 unfold runNS
 rw [e]
 obtain ⟨m, hm⟩ : ∃ m, fuel.toNat.succ = (m + 1) + n := ⟨fuel.toNat - n, by omega⟩
 rw [hm, h.run, runs_end (by rw [hl]; exact .inl rfl), hl]
theorem bH {n : Nat} {s t : VRun} {fuel e0 : Int} {u : VVm} {xt : Int} (h : GoN n (beginS u xt fuel) s) (hl : stepS s = (t, false, e0)) (he : e0 ≠ 0) (h0 : 0 ≤ fuel) (hn : (n : Int) ≤ fuel) : runNS u xt fuel = (endV t.vm, t.fuel, e0) := by
 have e : max fuel 0 = fuel := by omega
 unfold runNS
 rw [e]
 obtain ⟨m, hm⟩ : ∃ m, fuel.toNat.succ = (m + 1) + n := ⟨fuel.toNat - n, by omega⟩
 rw [hm, h.run, runs_end (by rw [hl]; exact .inr he), hl]
section
variable {d' r' : List Int} {f' : List VFrame} {v' : VVm} {ip' w : Int}
theorem bO (M : aj v L g) (hf : 1 ≤ fu ∧ fu ≤ 300000) (h2 : okA L xt = true) (hq : g xt = q) (ok : kindOk q)
  (hk : ah (mz v d r f ip) xt q = mz v' d' r' f' ip') : Go1 (mw v d r f ip xt fu) (mr v' d' r' f' ip' (fu - 1)) := by
 unfold Go1; rw [bz M hf h2 hq ok, hk]; rfl
end
theorem bT : aX (mr v d r f ip fu) fu (ah (mz v d r f ip) xt 8) = (mr v d r f ip fu, true, 0) := by kernel_rfl
theorem bS {u : VVm} {d' : List Int} (h1 : 23 ≤ q) (h2 : q ≤ 129) (h : doS (mk v d r f) q = (mk u d' r f, 0)) : ah (mz v d r f ip) xt q = mz u d' r f ip := by
 unfold ah
 rw [if_neg (by omega), if_neg (by omega), if_neg (by omega), if_neg (by omega), if_neg (by omega), if_neg (by omega), if_pos h1]
 show ({ dFail (mz v d r f ip) (doS (mk v d r f) q).2 with v := (doS (mk v d r f) q).1 } : VWk) = _
 rw [h]; rfl
section
variable {d' r' : List Int} {f' : List VFrame} {v' : VVm} {ip' w : Int}
theorem av {i : Nat} (hi : i < 130) : kindOk (i : Int) := .inl (by omega)
theorem bv {i : Nat} (M : aj v L g) (hi : i < 130) : okA L (32 + 8 * (i : Int)) = true := ab.2 (by have := M.hl; omega)
end
theorem bF (M : aj v L g) (S : Std g) (hf : 1 ≤ fu ∧ fu ≤ 300000) : stepS (mr v d r f 16 fu) = (mr v d r f 24 (fu - 1), true, 0) := by
 have h := M.hl
 rw [ca M hf (ab.2 (by omega)) S.c16 (ab.2 (by omega)) (S.prim 8 (by decide)) (av (i := 8) (by decide))]
 exact bT
set_option maxRecDepth 100000
set_option maxHeartbeats 4000000
theorem bf {l : List Int} (h : (l.all fun a => decide (-9223372036854775808 ≤ a) && decide (a ≤ 9223372036854775807)) = true) : FitL l := fun a ha => by
 rw [List.all_eq_true] at h
 have := h a ha
 simp only [Bool.and_eq_true, decide_eq_true_eq] at this
 exact this
section
variable {v : VVm} {g : Int → Int} {d : List Int} {f : List VFrame}
end
open Go.WideShapes
set_option maxRecDepth 100000
set_option maxHeartbeats 8000000
theorem aE {n : Int} (h : Fit64 n) : IntKind.i64.wrap n = n := w64_id h
theorem bw {l l' : List Int} (hl : l'.length ≤ 1000000) (h : l = l') : PureC Tryz.prog 28 [sq cInt l, sq cInt l'] (boo true) := by
 subst h
 have := ref_Same4 l l hl hl
 rw [decide_eq_true rfl] at this
 exact this
theorem aJ {x : Nat} (k : Nat) : (x : Int).tmod (k : Int) = ((x % k : Nat) : Int) := by
 rw [Int.tmod_eq_emod_of_nonneg (by omega)]; rfl
theorem aL {w : World} {v : Value} (h : Reads w 5 v) : ∃ k : Nat, k < 256 ∧ Rep (c0 w) (.val (.int .u8 (k : Int))) v := by
 obtain ⟨n, rfl, h2⟩ := ay Tryz.underlying5 h
 have h3 : 0 ≤ n ∧ n ≤ 255 := by simp [Lit.wf, IntKind.min, IntKind.max, IntKind.bits, IntKind.signed] at h2; omega
 obtain ⟨k, rfl⟩ : ∃ k : Nat, n = (k : Int) := ⟨n.toNat, by omega⟩
 exact ⟨k, by omega, rep_val _ _⟩
set_option maxRecDepth 100000
set_option maxHeartbeats 4000000
section
variable {v : VVm} {L : Nat} {g : Int → Int} {d r : List Int} {f : List VFrame} {ip fu xt x n m a : Int}
theorem cb {a : Int} (h0 : 0 ≤ a) (h1 : a % 8 = 0) (h2 : a + 8 ≤ 2048) : okA 2048 a = true := ab.2 ⟨h0, h1, h2⟩
end
def ao (v : VVm) (a n : Int) : VVm := withM v (memStore v.mem a n).1
theorem bG : Fit64 260 := by unfold Fit64; omega
section
variable {v : VVm} {g : Int → Int} {n m : Int}
theorem aO (M : aj v 2048 g) (S : Std g) {d : List Int} {fu fuel xt : Int} {u : VVm} {k : Nat} (hf : 1 ≤ fu ∧ fu ≤ 300000) (h : GoN k (beginS u xt fuel) (mr v d [] [] 16 fu)) (h0 : 0 ≤ fuel) (hn : (k : Int) ≤ fuel) : runNS u xt fuel = (mk v d [] [], fu - 1, 0) := by
 have key := br h (bF M S hf) h0 hn
 exact key
end
theorem bk : ((newB 2048 167).drop 1368).all (fun b => decide (b = 0)) = true := by kernel_rfl
theorem ax : ∀ l : List Int, (∀ x ∈ l, x = 0) → valB l = 0
 | [], _ => rfl
 | b :: bs, h => by
  have h1 := h b (by simp)
  have h2 := ax bs (fun x hx => h x (by simp [hx]))
  subst h1
  simp [valB, h2]
theorem bh {l : List UInt8} (h : ∀ x ∈ l, x = 0) : getC l = 0 := by
 unfold getC
 rw [ax _ (fun x hx => by
  rw [List.mem_map] at hx
  obtain ⟨y, hy, rfl⟩ := hx
  rw [h y hy]; rfl)]
 unfold wrap64; omega
theorem bJ (i : Nat) (h : i < 85) : g0 (1368 + 8 * (i : Int)) = 0 := by
 have q := bk
 rw [List.all_eq_true] at q
 have hl : (stockS []).mem.b.length = 2048 := newB_len 2048 167
 unfold g0 memFetch
 rw [ai (by omega) (by omega) (by rw [hl]; omega), if_pos rfl]
 refine bh fun x hx => ?_
 have hx2 := List.mem_of_mem_take hx
 have e : (1368 + 8 * (i : Int)).toNat = 1368 + 8 * i := by omega
 rw [e, ← List.drop_drop] at hx2
 exact oT (q x (List.mem_of_mem_drop hx2))
def xtN : List Int := [832, 840, 848, 776, 1024, 1032, 1040, 336, 816]
def ba : List Int := [-1, 0, 32, 1368, 0, 0, 0, 0, 0]
def al : List Str := [[84, 82, 85, 69], [70, 65, 76, 83, 69], [66, 76], [72, 69, 82, 69], [65, 82, 71], [83, 69, 76, 70], [78, 79, 87], [68, 69, 80, 84, 72], [66, 65, 83, 69]]
theorem bl : al.map xtS = xtN := by kernel_rfl
def cf (s k : Int) : VVm := ao (ao (ao (stockS []) 1368 260) 1384 s) 1392 k
def stV (s k : Int) (bare : Nat) : Nat → VVm
 | 0 => cf s k
 | i + 1 => if i = bare then stV s k bare i else ao (stV s k bare i) (1400 + 8 * (i : Int)) (xtN.getD i 0)
def stG (g : Int → Int) (s k : Int) (bare : Nat) : Nat → Int → Int
 | 0 => ae (ae (ae g 1368 260) 1384 s) 1392 k
 | i + 1 => if i = bare then stG g s k bare i else ae (stG g s k bare i) (1400 + 8 * (i : Int)) (xtN.getD i 0)
theorem bI (i : Nat) : Fit64 (xtN.getD i 0) := aN (bf (by decide)) i
theorem bc {s k : Int} {bare : Nat} (hs : Fit64 s) (hk : Fit64 k) : ∀ i, i ≤ 9 → aj (stV s k bare i) 2048 (stG g0 s k bare i)
 | 0, _ => ((aW.store bG (by decide)).store hs (by decide)).store hk (by decide)
 | i + 1, hi => by
  have ih := bc (bare := bare) hs hk i (by omega)
  show aj (if i = bare then stV s k bare i else ao (stV s k bare i) (1400 + 8 * (i : Int)) (xtN.getD i 0)) 2048 (if i = bare then stG g0 s k bare i else ae (stG g0 s k bare i) (1400 + 8 * (i : Int)) (xtN.getD i 0))
  by_cases hb : i = bare
  ·rw [if_pos hb, if_pos hb]; exact ih
  ·rw [if_neg hb, if_neg hb]; exact ih.store (bI i) (cb (by omega) (by omega) (by omega))
theorem bC {s k : Int} {bare : Nat} : ∀ i, Std (stG g0 s k bare i)
 | 0 => ((ce.upd (by decide)).upd (by decide)).upd (by decide)
 | i + 1 => by
  have ih := bC (s := s) (k := k) (bare := bare) i
  show Std (if i = bare then stG g0 s k bare i else ae (stG g0 s k bare i) (1400 + 8 * (i : Int)) (xtN.getD i 0))
  by_cases hb : i = bare
  ·rw [if_pos hb]; exact ih
  ·rw [if_neg hb]; exact ih.upd (by omega)
theorem aD {g : Int → Int} {s k : Int} {bare : Nat} {x : Int} (hx : x < 1400) : ∀ i, stG g s k bare i x = ae (ae (ae g 1368 260) 1384 s) 1392 k x
 | 0 => rfl
 | i + 1 => by
  have ih := aD (g := g) (s := s) (k := k) (bare := bare) hx i
  show (if i = bare then stG g s k bare i else ae (stG g s k bare i) (1400 + 8 * (i : Int)) (xtN.getD i 0)) x = _
  by_cases hb : i = bare
  ·rw [if_pos hb]; exact ih
  ·rw [if_neg hb]; unfold ae at ih ⊢; rw [if_neg (by omega)]; exact ih
theorem aZ {s k : Int} {bare j : Nat} (hj : j < 9) : ∀ i, stG g0 s k bare i (1400 + 8 * (j : Int)) = if j < i ∧ j ≠ bare then xtN.getD j 0 else 0
 | 0 => by
  rw [if_neg (by omega)]
  show ae (ae (ae g0 1368 260) 1384 s) 1392 k (1400 + 8 * (j : Int)) = 0
  unfold ae
  rw [if_neg (by omega), if_neg (by omega), if_neg (by omega)]
  have := bJ (4 + j) (by omega)
  rw [← this]; congr 1; omega
 | i + 1 => by
  have ih := aZ (s := s) (k := k) (bare := bare) hj i
  show (if i = bare then stG g0 s k bare i else ae (stG g0 s k bare i) (1400 + 8 * (i : Int)) (xtN.getD i 0)) (1400 + 8 * (j : Int)) = _
  by_cases hb : i = bare
  ·rw [if_pos hb, ih]
   by_cases q : j < i ∧ j ≠ bare
   ·rw [if_pos q, if_pos (by omega)]
   ·rw [if_neg q, if_neg (by omega)]
  ·rw [if_neg hb]
   unfold ae
   by_cases q : j = i
   ·subst q; rw [if_pos rfl, if_pos (by omega)]
   ·rw [if_neg (by omega), ih]
    by_cases q2 : j < i ∧ j ≠ bare
    ·rw [if_pos q2, if_pos (by omega)]
    ·rw [if_neg q2, if_neg (by omega)]
section
variable {v : VVm} {L : Nat} {g : Int → Int} {d r : List Int} {f : List VFrame} {ip fu s k x : Int}
theorem bi {K : VWk} {a e : Int} (h : K.bad = e) (he : e ≠ 0) : (dFetch K a).1.bad = e := by
 show (dFail K _).bad = e
 unfold dFail; rw [if_neg (by rw [h]; exact he)]; exact h
theorem bo (M : aj v 2048 g) (h1 : g 1384 = s) (h2 : g 1392 = k) (hs : s < 0 ∨ k ≤ s) : (ah (mz v d r f ip) 1368 260).bad = -24 := by
 have e : ah (mz v d r f ip) 1368 260 = dMachine (mz v d r f ip) 1368 := by kernel_rfl
 rw [e]
 unfold dMachine
 rw [show W64 ((1368 : Int) + 16) = 1384 from by decide, show W64 ((1368 : Int) + 24) = 1392 from by decide, ak M (x := 1384) (by decide), h1]
 dsimp only
 rw [ak M (x := 1392) (by decide), h2]
 dsimp only
 rw [if_pos hs]
 have hb : (dFail (mz v d r f ip) (-24)).bad = -24 := rfl
 have hc := bi (a := W64 (W64 ((1368 : Int) + 32) + W64 (8 * s))) hb (by decide)
 generalize dFetch (dFail (mz v d r f ip) (-24)) (W64 (W64 ((1368 : Int) + 32) + W64 (8 * s))) = q at hc ⊢
 by_cases h : q.2 = 0
 ·rw [if_pos h]; exact hc
 ·rw [if_neg h]; exact hc
theorem aY (M : aj v 2048 g) (h1 : g 1384 = s) (h2 : g 1392 = k) (hs : 0 ≤ s ∧ s < k) (hk : k ≤ 9) (hx : g (1400 + 8 * s) = x) : ah (mz v d r f ip) 1368 260 = if x = 0 then mz v d r f ip else mzw v d r f ip x := by
 have e : ah (mz v d r f ip) 1368 260 = dMachine (mz v d r f ip) 1368 := by kernel_rfl
 rw [e]
 unfold dMachine
 rw [show W64 ((1368 : Int) + 16) = 1384 from by decide, show W64 ((1368 : Int) + 24) = 1392 from by decide, ak M (x := 1384) (by decide), h1]
 dsimp only
 rw [ak M (x := 1392) (by decide), h2]
 dsimp only
 rw [if_neg (show ¬ (s < 0 ∨ k ≤ s) by omega), show W64 (W64 ((1368 : Int) + 32) + W64 (8 * s)) = 1400 + 8 * s by rw [aa (n := (1368 : Int) + 32) (by decide) (by decide), aa (n := 8 * s) (by omega) (by omega), aa (by omega) (by omega)]; omega]
 rw [ak M (cb (by omega) (by omega) (by omega)), hx]
 rfl
theorem aV (M : aj v 2048 g) (h0 : g 1368 = 260) (h1 : g 1384 = s) (h2 : g 1392 = k) (hs : s < 0 ∨ k ≤ s) : runNS (mk v [] [] []) 1368 20 = (mk v [] [] [], 19, -24) := by
 have a1 : stepS (beginS (mk v [] [] []) 1368 20) = (mr v [] [] [] 16 19, false, -24) := by
  rw [show beginS (mk v [] [] []) 1368 20 = mw v [] [] [] 16 1368 20 from rfl, bz M (by decide) (by decide) h0 (.inr (.inl (by decide)))]
  unfold aX
  rw [bo M h1 h2 hs, if_neg (by decide)]
  rfl
 exact bH (.nil _) a1 (by decide) (by decide) (by decide)
theorem aG (M : aj v 2048 g) (S : Std g) (h0 : g 1368 = 260) (h1 : g 1384 = s) (h2 : g 1392 = k) (hs : 0 ≤ s ∧ s < k) (hk : k ≤ 9) (hx : g (1400 + 8 * s) = 0) : runNS (mk v [] [] []) 1368 20 = (mk v [] [] [], 18, 0) := by
 have a1 : Go1 (beginS (mk v [] [] []) 1368 20) (mr v [] [] [] 16 19) := bO (v := v) M (by decide) (by decide) h0 (.inr (.inl (by decide))) ((aY M h1 h2 hs hk hx).trans (if_pos rfl))
 exact aO M S (by decide) (.one a1) (by decide) (by decide)
theorem bV {xt q w : Int} {d' r' : List Int} {f' : List VFrame} {v' : VVm} {ip' : Int} (M : aj v L g) (hf : 1 ≤ fu ∧ fu ≤ 300000) (h2 : okA L xt = true) (hq : g xt = q) (ok : kindOk q)
  (hk : ah (mz v d r f ip) xt q = mzw v' d' r' f' ip' w) : Go1 (mw v d r f ip xt fu) (mw v' d' r' f' ip' w (fu - 1)) := by
 unfold Go1; rw [bz M hf h2 hq ok, hk]; rfl
theorem aP (M : aj v 2048 g) (S : Std g) (h0 : g 1368 = 260) (h1 : g 1384 = s) (h2 : g 1392 = k) (hs : 0 ≤ s ∧ s < k) (hk : k ≤ 9) (i : Nat) (hi : 23 ≤ i ∧ i < 130) (hx : g (1400 + 8 * s) = 32 + 8 * (i : Int)) {y : Int} (hd : doS (mk v [] [] []) (i : Int) = (mk v [y] [] [], 0)) : runNS (mk v [] [] []) 1368 20 = (mk v [y] [] [], 17, 0) := by
 have a1 : Go1 (beginS (mk v [] [] []) 1368 20) (mw v [] [] [] 16 (32 + 8 * (i : Int)) 19) := bV (v := v) M (by decide) (by decide) h0 (.inr (.inl (by decide))) ((aY M h1 h2 hs hk hx).trans (if_neg (by omega)))
 have a2 : Go1 (mw v [] [] [] 16 (32 + 8 * (i : Int)) 19) (mr v [y] [] [] 16 18) := bO (v := v) M (by decide) (bv M (by omega)) (S.prim i (by omega)) (av (by omega)) (bS (by omega) (by omega) hd)
 exact aO M S (by decide) (.cons a1 (.one a2)) (by decide) (by decide)
end
def bD : List Nat := [100, 101, 102, 93, 124, 125, 126, 38, 98]
def stP (m : VMem) (i : Nat) (y : Int) : Prop := doS (mk (withM (stockS []) m) [] [] []) (i : Int) = (mk (withM (stockS []) m) [y] [] [], 0)
theorem bt (m : VMem) : stP m 100 (-1) ∧ stP m 101 0 ∧ stP m 102 32 ∧ stP m 93 1368 ∧ stP m 124 0 ∧ stP m 125 0 ∧ stP m 126 0 ∧ stP m 38 0 ∧ stP m 98 0 := by
 and_intros <;> unfold stP <;> kernel_rfl
theorem aC (s k : Int) (bare : Nat) : ∀ i, ∃ m, stV s k bare i = withM (stockS []) m
 | 0 => ⟨_, rfl⟩
 | i + 1 => by
  obtain ⟨m, hm⟩ := aC s k bare i
  show ∃ m, (if i = bare then stV s k bare i else ao (stV s k bare i) (1400 + 8 * (i : Int)) (xtN.getD i 0)) = withM (stockS []) m
  by_cases hb : i = bare
  ·rw [if_pos hb]; exact ⟨m, hm⟩
  ·rw [if_neg hb, hm]; exact ⟨_, rfl⟩
theorem bW (m : VMem) (j : Nat) (hj : j < 9) : 23 ≤ bD.getD j 0 ∧ bD.getD j 0 < 130 ∧ xtN.getD j 0 = 32 + 8 * ((bD.getD j 0 : Nat) : Int) ∧ stP m (bD.getD j 0) (ba.getD j 0) := by
 obtain ⟨p0, p1, p2, p3, p4, p5, p6, p7, p8⟩ := bt m
 have : j = 0 ∨ j = 1 ∨ j = 2 ∨ j = 3 ∨ j = 4 ∨ j = 5 ∨ j = 6 ∨ j = 7 ∨ j = 8 := by omega
 rcases this with rfl | rfl | rfl | rfl | rfl | rfl | rfl | rfl | rfl
 ·exact ⟨by decide, by decide, by decide, p0⟩
 ·exact ⟨by decide, by decide, by decide, p1⟩
 ·exact ⟨by decide, by decide, by decide, p2⟩
 ·exact ⟨by decide, by decide, by decide, p3⟩
 ·exact ⟨by decide, by decide, by decide, p4⟩
 ·exact ⟨by decide, by decide, by decide, p5⟩
 ·exact ⟨by decide, by decide, by decide, p6⟩
 ·exact ⟨by decide, by decide, by decide, p7⟩
 ·exact ⟨by decide, by decide, by decide, p8⟩
theorem aR (s : Int) (hs : Fit64 s) (k bare : Nat) (hk : k < 9) :
  runNS (stV s (k : Int) bare k) 1368 20 = if s < 0 ∨ (k : Int) ≤ s then (mk (stV s (k : Int) bare k) [] [] [], 19, -24) else if s = (bare : Int) then (mk (stV s (k : Int) bare k) [] [] [], 18, 0) else (mk (stV s (k : Int) bare k) [ba.getD s.toNat 0] [] [], 17, 0) := by
 have hfk : Fit64 (k : Int) := by unfold Fit64; omega
 have M := bc (bare := bare) hs hfk k (by omega)
 have S := bC (s := s) (k := (k : Int)) (bare := bare) k
 have h0 : stG g0 s (k : Int) bare k 1368 = 260 := aD (by decide) k
 have h1 : stG g0 s (k : Int) bare k 1384 = s := aD (by decide) k
 have h2 : stG g0 s (k : Int) bare k 1392 = (k : Int) := aD (by decide) k
 obtain ⟨m, hm⟩ := aC s (k : Int) bare k
 have e : mk (stV s (k : Int) bare k) [] [] [] = stV s (k : Int) bare k := by rw [hm]; rfl
 by_cases hb : s < 0 ∨ (k : Int) ≤ s
 ·rw [if_pos hb]
  have := aV M h0 h1 h2 hb
  rw [e] at this ⊢; exact this
 ·rw [if_neg hb]
  obtain ⟨j, rfl⟩ : ∃ j : Nat, s = (j : Int) := ⟨s.toNat, by omega⟩
  have hc := aZ (s := (j : Int)) (k := (k : Int)) (bare := bare) (j := j) (by omega) k
  by_cases hq : (j : Int) = (bare : Int)
  ·rw [if_pos hq]
   rw [if_neg (by omega)] at hc
   have := aG M S h0 h1 h2 (by omega) (by omega) hc
   rw [e] at this ⊢; exact this
  ·rw [if_neg hq]
   rw [if_pos (by omega)] at hc
   obtain ⟨n1, n2, n3, n4⟩ := bW m j (by omega)
   unfold stP at n4
   rw [← hm] at n4
   have := aP M S h0 h1 h2 (by omega) (by omega) (bD.getD j 0) ⟨n1, n2⟩ (hc.trans n3) n4
   rw [e] at this
   exact this
open Go.WideShapes
set_option maxRecDepth 100000
set_option maxHeartbeats 8000000
theorem bA {N k : Nat} {v : VVm} (g : GoodM N v) {m : VMem} (h : MKeeps v.mem m k) : GoodM (N + k) (withM v m) := by
 have R := g.right
 refine ⟨⟨R.fits, h.right R.mem, R.dict, R.pic, ?_, R.here0, ?_, R.f, R.hand, R.d, R.r, R.fl, R.dl, R.out, R.req, R.free0, R.free1, R.next0, R.next1, R.handl⟩, ?_, g.fd, g.fr, g.ff, g.ints, g.la⟩
 ·show (m.b.length : Int) = v.conf.mem; rw [h.len]; exact R.len
 ·exact R.here1
 ·show m.old.length ≤ N + k
  have := h.old; have := g.old; omega
theorem af {N : Nat} {v : VVm} (g : GoodM N v) (a n : Int) : GoodM (N + 1) (ao v a n) := bA g (keeps_store v.mem a n)
theorem an {N : Nat} {v : VVm} (g : GoodM N v) (hN : N ≤ 1000) : MemOk v.mem := g.x.mem (by omega)
open Go.WideShapes
set_option maxRecDepth 100000
set_option maxHeartbeats 8000000
def bB (l : List Int) : List PV := [sqc cInt l]
def az : List (List Int) := [[-1], [0], [32], [1368], [0], [0], [0], [0], [0]]
@[simp] theorem bY (l : List Str) : Flat (sqc cStr l) := flat_sqc (fun x => by simp) l
@[simp] theorem bU (l : List Int) : Flat (sqc cInt l) := flat_sqc (fun x => by simp) l
@[simp] theorem bR (l : List (List Int)) : Flat (sqc bB l) := flat_sqc (fun x => by simp [bB]) l
theorem bK (j : Nat) (h : j < 9) : az.getD j [] = [ba.getD j 0] := by
 have : j = 0 ∨ j = 1 ∨ j = 2 ∨ j = 3 ∨ j = 4 ∨ j = 5 ∨ j = 6 ∨ j = 7 ∨ j = 8 := by omega
 rcases this with rfl | rfl | rfl | rfl | rfl | rfl | rfl | rfl | rfl <;> rfl
theorem bp (j : Nat) (h : j < 9) : xtS (al.getD j []) = xtN.getD j 0 := by
 have e := bl
 have h2 : (al.map xtS).getD j 0 = xtN.getD j 0 := by rw [e]
 rw [← h2]
 rw [List.getD_eq_getElem?_getD, List.getD_eq_getElem?_getD, List.getElem?_map, List.getElem?_eq_getElem (show j < al.length from h)]
 rfl
theorem am (a : Addr) (v : VVm) (at_ n : Int) (hm : MemOk v.mem) (ha : Fit64 at_) :
  HC Tryz.prog 31 [i64 at_, i64 n, .ptr 2 0] [.glob 0 (haltV a), .glob 1 etV, .cells (cVm v) 36] (.tup [])
   [.glob 0 (haltV a), .glob 1 etV, .cells (cVm (ao v at_ n)) 36, .cells (cMem (memStore v.mem at_ n).1) 27] := by
 refine hc_of_WR tG (rs := []) Tryz.func31 rfl rfl rfl (fun B => ?_)
 refine zp4 ?_
 refine Wc rfl rfl (dC rfl Tryz.func30 rfl rfl ((ref_Store v.mem at_ n hm ha) _)) ?_
 refine zy5 ?_
 refine zs1 ?_
 refine W_region rfl ?_
 refine zs3 ?_
 refine bZ rfl ?_ ?_
 ·rfl
 ·rfl
theorem aw {s k : Int} {bare : Nat} : ∀ i, GoodM (3 + i) (stV s k bare i)
 | 0 => af (af (af (stock_goodM (by decide) fitL_nil) _ _) _ _) _ _
 | i + 1 => by
  have ih := aw (s := s) (k := k) (bare := bare) i
  show GoodM (3 + i + 1) (if i = bare then stV s k bare i else ao (stV s k bare i) (1400 + 8 * (i : Int)) (xtN.getD i 0))
  by_cases h : i = bare
  ·rw [if_pos h]; exact ih.up (by omega)
  ·rw [if_neg h]; exact af ih _ _
theorem bq {s k : Int} {bare i : Nat} (h : i = bare) : stV s k bare (i + 1) = stV s k bare i := by show (if i = bare then _ else _) = _; rw [if_pos h]
theorem bE {s k : Int} {bare i : Nat} (h : ¬ i = bare) : stV s k bare (i + 1) = ao (stV s k bare i) (1400 + 8 * (i : Int)) (xtN.getD i 0) := by show (if i = bare then _ else _) = _; rw [if_neg h]
theorem aq (a : Addr) (s : Int) (hs : Fit64 s) (many bb : Nat) (hm : many < 256) (hb : bb < 256) : ∀ (H : List Ob), (∀ o ∈ globs a, ∃ k : Nat, H[k]? = some o) → HC Tryz.prog 10 [i64 s, .val (.int .u8 (many : Int)), .val (.int .u8 (bb : Int))] H (boo true) H := by
 obtain ⟨k, hk⟩ : ∃ k : Nat, many % 9 = k := ⟨_, rfl⟩
 obtain ⟨bare, hbr⟩ : ∃ b : Nat, bb % 9 = b := ⟨_, rfl⟩
 have hk9 : k < 9 := by omega
 have w1 : (IntKind.i64.wrap (many : Int)).tmod 9 = (k : Int) := by
  rw [aE (n := (many : Int)) (by unfold Fit64; omega), show (many : Int).tmod 9 = ((many % 9 : Nat) : Int) from aJ 9, hk]
 have w2 : (IntKind.i64.wrap (bb : Int)).tmod 9 = (bare : Int) := by
  rw [aE (n := (bb : Int)) (by unfold Fit64; omega), show (bb : Int).tmod 9 = ((bb % 9 : Nat) : Int) from aJ 9, hbr]
 have p7 := inner_Run a (stV s (k : Int) bare k) 1368 20 (3 + k) (aw k) fit_1368 (by decide) (by omega)
 have hr := aR s hs k bare hk9
 obtain ⟨R, hR⟩ : ∃ R, runNS (stV s (k : Int) bare k) 1368 20 = R := ⟨_, rfl⟩
 rw [hR] at p7 hr
 have q1 : (s < 0 ∨ (k : Int) ≤ s) → R.2.2 = -24 ∧ R.1.d.length = 0 ∧ R.2.1 = 19 := fun h => by rw [if_pos h] at hr; rw [hr]; exact ⟨rfl, rfl, rfl⟩
 have q2 : ¬ (s < 0 ∨ (k : Int) ≤ s) → s = (bare : Int) → R.2.2 = 0 ∧ R.1.d.length = 0 ∧ R.2.1 = 18 := fun h h2 => by rw [if_neg h, if_pos h2] at hr; rw [hr]; exact ⟨rfl, rfl, rfl⟩
 have q3 : ¬ (s < 0 ∨ (k : Int) ≤ s) → ¬ s = (bare : Int) → R.2.2 = 0 ∧ R.1.d = [ba.getD s.toNat 0] ∧ R.2.1 = 17 := fun h h2 => by rw [if_neg h, if_neg h2] at hr; rw [hr]; exact ⟨rfl, rfl, rfl⟩
 clear hr hR
 have g0 : GoodM 0 (stockS []) := stock_goodM (by decide) fitL_nil
 have g1 := af g0 1368 260
 have g2 := af g1 1384 s
 refine pureG_of_WR (globs_ok a) tG (rs := [.tmp 6]) Tryz.func10 rfl rfl rfl (by simp) (by simp) (fun B => ?_)
 refine zu1 ?_
 refine z8 ?_
 refine Wc rfl rfl (dC rfl Tryz.func11 rfl rfl (lawI_shown a _ (globs_at 0 1 rfl rfl))) ?_
 refine zs1 ?_
 refine zp3 ?_
 refine Wa 20 rfl (congrArg (fun z => PV.val (Value.int .i64 z)) w1) ?_
 refine zs1 ?_
 refine z8 ?_
 refine Wc rfl rfl (dC rfl Tryz.func25 rfl rfl ((law_fresh) _)) ?_
 refine zs2 ?_
 refine zu2 ?_
 refine W_meet [(0, i64 s), (2, .val (.int .u8 (bb : Int))), (7, boo true), (8, i64 k), (9, .ptr 2 0), (10, .fn (.func 31) [] [.ptr 2 0])] [.glob 0 (haltV a), .glob 1 etV, .cells (cVm (ao (stockS []) 1368 260)) 36] [] ?_ ?_
 ·refine W_region rfl ?_
  refine z1 ?_
  refine Wc rfl rfl (doesCWv rfl rfl Tryz.func31 rfl rfl (am a (stockS []) 1368 260 (an g0 (by decide)) fit_1368)) ?_
  refine Wn ?_
  exact ⟨[], (fitT (len := show (3 : Nat) = 3 from rfl))⟩
 ·refine W_meet [(0, i64 s), (2, .val (.int .u8 (bb : Int))), (7, boo true), (8, i64 k), (9, .ptr 2 0), (10, .fn (.func 31) [] [.ptr 2 0])] [.glob 0 (haltV a), .glob 1 etV, .cells (cVm (ao (ao (stockS []) 1368 260) 1384 s)) 36] [] ?_ ?_
  ·refine W_region rfl ?_
   refine zy2 ?_
   refine Wc rfl rfl (doesCWv rfl rfl Tryz.func31 rfl rfl (am a (ao (stockS []) 1368 260) 1384 s (an g1 (by decide)) (by unfold Fit64; omega))) ?_
   refine Wn ?_
   exact ⟨[], (fitT (len := show (3 : Nat) = 3 from rfl))⟩
  ·refine W_meet [(0, i64 s), (2, .val (.int .u8 (bb : Int))), (7, boo true), (8, i64 k), (9, .ptr 2 0), (10, .fn (.func 31) [] [.ptr 2 0])] [.glob 0 (haltV a), .glob 1 etV, .cells (cVm (stV s (k : Int) bare 0)) 36] [] ?_ ?_
   ·refine W_region rfl ?_
    refine zy2 ?_
    refine Wc rfl rfl (doesCWv rfl rfl Tryz.func31 rfl rfl (am a (ao (ao (stockS []) 1368 260) 1384 s) 1392 k (an g2 (by decide)) (by unfold Fit64; omega))) ?_
    refine Wn ?_
    exact ⟨[], (fitT (len := show (3 : Nat) = 3 from rfl))⟩
   ·refine zp1 ?_
    refine Wa 31 rfl ((show _ = sqc cStr al from rfl)) ?_
    refine zs1 ?_
    refine zp1 ?_
    first | refine Wa 32 rfl (bsL cInt [_] rfl rfl) ?_ | skip
    refine z1 ?_
    first | refine Wa 33 rfl (bsL cInt [_] rfl rfl) ?_ | skip
    refine z1 ?_
    first | refine Wa 34 rfl (bsL cInt [_] rfl rfl) ?_ | skip
    refine z1 ?_
    first | refine Wa 35 rfl (bsL cInt [_] rfl rfl) ?_ | skip
    refine z1 ?_
    first | refine Wa 36 rfl (bsL cInt [_] rfl rfl) ?_ | skip
    refine z1 ?_
    first | refine Wa 37 rfl (bsL cInt [_] rfl rfl) ?_ | skip
    refine z1 ?_
    first | refine Wa 38 rfl (bsL cInt [_] rfl rfl) ?_ | skip
    refine z1 ?_
    first | refine Wa 39 rfl (bsL cInt [_] rfl rfl) ?_ | skip
    refine z1 ?_
    first | refine Wa 40 rfl (bsL cInt [_] rfl rfl) ?_ | skip
    refine z1 ?_
    refine Wa 41 rfl ((show _ = sqc bB az from rfl)) ?_
    refine zs1 ?_
    refine Ws ?_
    refine zu1 ?_
    refine Wl ?_
    show W _ _ _ _ _ _ _
    refine W_loopS (fun (i : Nat) => [(0, i64 s), (2, .val (.int .u8 (bb : Int))), (7, boo true), (8, i64 k), (9, .ptr 2 0), (10, .fn (.func 31) [] [.ptr 2 0]), (11, sqc cStr al), (12, sqc bB az), (13, i64 i)]) (fun (i : Nat) => [.glob 0 (haltV a), .glob 1 etV, .cells (cVm (stV s (k : Int) bare i)) 36]) (fun (i : Nat) => []) (fun (i : Nat) => i ≤ k) (fun (i : Nat) => k - i) (0) (by first | exact trivial | omega | simp) [] ?_ ?_
    ·exact (fitT (len := show (3 : Nat) = 3 from rfl))
    ·intro i hi
     refine Ws ?_
     refine zu3 ?_
     refine Wi rfl (fun hi1 => ?_) (fun hi1 => ?_)
     ·have hlt : i < k := by have := oT hi1; omega
      have w3 : IntKind.i64.wrap (1400 + IntKind.i64.wrap (8 * (i : Int))) = 1400 + 8 * (i : Int) := by
       rw [aE (n := 8 * (i : Int)) (by unfold Fit64; omega)]; exact aE (by unfold Fit64; omega)
      have hn := bp i (by omega)
      have hN : al.length = 9 := rfl
      refine Wj ?_
      refine Ws ?_
      refine Wl ?_
      refine zp4 ?_
      refine Wa 50 rfl (congrArg (fun z => PV.val (Value.int .i64 z)) w2) ?_
      refine zs1 ?_
      refine Wi rfl (fun hi2 => ?_) (fun hi2 => ?_)
      ·have hne : ¬ i = bare := by have q := hi2; simp only [bne_iff_ne, ne_eq] at q; omega
       refine W_region rfl ?_
       refine zy4 ?_
       refine Wa 55 rfl (congrArg (fun z => PV.val (Value.int .i64 z)) w3) ?_
       refine zy2 ?_
       first | refine Wv tG rfl rfl rfl (by first | exact trivial | omega | (simp only [dnL] at *; omega) | (simp_all; done) | (simp_all; omega)) (iN cStr 1 (fun _ => rfl) [] (by first | exact trivial | omega | (simp only [dnL] at *; omega) | (simp_all; done) | (simp_all; omega))) ?_ | refine Wv tG rfl rfl rfl (by first | exact trivial | omega | (simp only [dnL] at *; omega) | (simp_all; done) | (simp_all; omega)) (iR cStr 1 (fun _ => rfl) [] (by first | exact trivial | omega | (simp only [dnL] at *; omega) | (simp_all; done) | (simp_all; omega))) ?_
       refine z1 ?_
       refine Wc rfl rfl (dC rfl Tryz.func26 rfl rfl ((ref_Xt _) _)) ?_
       refine Wa 60 rfl (congrArg i64 hn) ?_
       refine Wc rfl rfl (doesCWv rfl rfl Tryz.func31 rfl rfl (am a (stV s (k : Int) bare i) (1400 + 8 * (i : Int)) (xtN.getD i 0) (an (aw i) (by omega)) (by unfold Fit64; omega))) ?_
       refine WO_ob (H' := [.glob 0 (haltV a), .glob 1 etV, .cells (cVm (stV s (k : Int) bare (i + 1))) 36, .cells (cMem (memStore (stV s (k : Int) bare i).mem (1400 + 8 * (i : Int)) (xtN.getD i 0)).1) 27]) (by rw [bE hne]) ?_
       refine Wn ?_
       refine W_region rfl ?_
       refine zs3 ?_
       exact ⟨i + 1, [], (by omega), (by omega), (fitT (len := show (3 : Nat) = 3 from rfl))⟩
      ·have heq : i = bare := by have q := hi2; simp only [bne_eq_false_iff_eq] at q; omega
       refine W_ob (H' := [.glob 0 (haltV a), .glob 1 etV, .cells (cVm (stV s (k : Int) bare (i + 1))) 36]) (by rw [bq heq]) ?_
       refine Wj ?_
       refine W_region rfl ?_
       refine zs3 ?_
       exact ⟨i + 1, [], (by omega), (by omega), (fitT (len := show (3 : Nat) = 3 from rfl))⟩
     ·have hik : i = k := by have := oF hi1; omega
      subst hik
      refine W_exit ?_
      refine zp1 ?_
      refine Wc rfl rfl (dC rfl Tryz.func21 rfl rfl (p7 _ (globs_at 0 1 rfl rfl))) ?_
      refine zy5 ?_
      refine zs3 ?_
      refine Ws ?_
      refine zp3 ?_
      refine Wb 70 rfl (fun hg1 => ?_) (fun hg1 => ?_)
      ·have hq : s < 0 ∨ (i : Int) ≤ s := .inl (oT hg1)
       obtain ⟨e1, e2, e3⟩ := q1 hq
       iterate 3 refine z6 ?_
       refine zs1 ?_
       refine Wt rfl rfl ?_
       refine zp2 ?_
       refine WO_true 76 rfl (by rfl) ?_
       refine zy4 ?_
       refine WO_true 80 rfl (by rw [e1]; rfl) ?_
       refine zy5 ?_
       refine z1 ?_
       refine WO_true 86 rfl (by exact decide_eq_true (congrArg (fun z : Nat => (z : Int)) e2)) ?_
       refine zs4 ?_
       refine zR ?_
       exact congrArg boo (by rw [e3]; rfl)
      ·refine zs4 ?_
       refine Wi rfl (fun hi3 => ?_) (fun hi3 => ?_)
       ·have hq : s < 0 ∨ (i : Int) ≤ s := .inr (oT hi3)
        obtain ⟨e1, e2, e3⟩ := q1 hq
        refine zp2 ?_
        refine WO_true 76 rfl (by rfl) ?_
        refine zy4 ?_
        refine WO_true 80 rfl (by rw [e1]; rfl) ?_
        refine zy5 ?_
        refine z1 ?_
        refine WO_true 86 rfl (by exact decide_eq_true (congrArg (fun z : Nat => (z : Int)) e2)) ?_
        refine zs4 ?_
        refine zR ?_
        exact congrArg boo (by rw [e3]; rfl)
       ·have hq : ¬ (s < 0 ∨ (i : Int) ≤ s) := by have := oF hg1; have := oF hi3; omega
        refine Wj ?_
        refine Ws ?_
        refine zp4 ?_
        refine Wa 93 rfl (congrArg (fun z => PV.val (Value.int .i64 z)) w2) ?_
        refine zs1 ?_
        refine Wi rfl (fun hi4 => ?_) (fun hi4 => ?_)
        ·have h2 : s = (bare : Int) := oT hi4
         obtain ⟨e1, e2, e3⟩ := q2 hq h2
         refine zp2 ?_
         refine WO_true 96 rfl (by rfl) ?_
         refine zy4 ?_
         refine WO_true 100 rfl (by rw [e1]; rfl) ?_
         refine zy5 ?_
         refine z1 ?_
         refine WO_true 106 rfl (by exact decide_eq_true (congrArg (fun z : Nat => (z : Int)) e2)) ?_
         refine zs4 ?_
         refine zR ?_
         exact congrArg boo (by rw [e3]; rfl)
        ·have h2 : ¬ s = (bare : Int) := oF hi4
         obtain ⟨e1, e2, e3⟩ := q3 hq h2
         obtain ⟨j, rfl⟩ : ∃ j : Nat, s = (j : Int) := ⟨s.toNat, by omega⟩
         have hj : j < 9 := by omega
         have hw := bK j hj
         have hW : az.length = 9 := rfl
         have e2' : R.1.d = az.getD j [] := by rw [e2, hw]; rfl
         refine Wj ?_
         refine Ws ?_
         refine W_drawU [0, 0, 0, 0, 0, 0, 0, 1, 0, 0, 0, 1, 0, 0, 0, 0, 0, 0, 0] [0, 1, 2, 3, 4, 5, 6, 7, 8, 9, 10, 11, 12, 13, 14, 15, 16, 17, 18] mG rfl (by kernel_rfl) ?_
         iterate 2 refine z3 ?_
         refine ar 111 rfl (by rfl) ?_
         iterate 4 refine z3 ?_
         refine ar 115 rfl (by rw [e1]; rfl) ?_
         refine z3 ?_
         refine z5 ?_
         iterate 2 refine z3 ?_
         refine Xi tG rfl rfl rfl rfl (fun _ => rfl) (by omega) (iN bB 1 (fun _ => rfl) [] (by omega)) ?_
         refine z5 ?_
         refine Xc rfl rfl rfl rfl (fun _ => dC rfl Tryz.func28 rfl rfl ((bw (l := R.1.d) (l' := az.getD j []) (by rw [hw]; exact (show 1 ≤ 1000000 by decide)) e2') _)) ?_
         iterate 2 refine z3 ?_
         refine ar 124 rfl (by rfl) ?_
         iterate 4 refine z3 ?_
         refine WU_nil ?_
         refine zR ?_
         exact congrArg boo (by rw [e3]; rfl)
theorem walk_InnerStates (a : Addr) (v0 v1 v2 : Value) (w : World) (h0 : w.cell? ⟨0, 0, none⟩ = some (haltV a)) (h1 : w.cell? ⟨1, 0, none⟩ = some etV) (r0 : Reads w 3 v0) (r1 : Reads w 5 v1) (r2 : Reads w 5 v2) :
  Calls Tryz.prog 10 #[v0, v1, v2] w fun e w' => e = .returned (.bool true) ∧ Below w.heap.size w w' := by
 obtain ⟨n, hn, p0⟩ := bg r0
 obtain ⟨k, hk, p1⟩ := aL r1
 obtain ⟨j, hj, p2⟩ := aL r2
 exact law_callsG (args := [i64 n, .val (.int .u8 (k : Int)), .val (.int .u8 (j : Int))]) (by simp [FlatL, Flat]) (aq a n hn k j hk hj) h0 h1 (repL_cons.2 ⟨p0, repL_cons.2 ⟨p1, repL_cons.2 ⟨p2, repL_nil.2 rfl⟩⟩⟩)
end Go.Proofs.YtobhnjnffnbbkaaGreatDoor
