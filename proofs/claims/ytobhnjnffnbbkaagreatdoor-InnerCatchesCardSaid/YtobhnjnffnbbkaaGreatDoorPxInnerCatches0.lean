import Derived.Test.YtobhnjnffnbbkaaGreatDoorPk9
set_option linter.unusedVariables false
set_option linter.unusedSimpArgs false
namespace Go.Proofs.YtobhnjnffnbbkaaGreatDoor
open Go.ChangeShapes Go.WideShapes Go.ChangeAt Go.RowKit
open Go.ChangeMaps (open_string)
set_option maxRecDepth 100000 in
theorem aS {w : World} {t : TypeId} {v : Value} {k : IntKind} (ht : Tryz.prog.underlying t = some (.int k)) (h : Reads w t v) : ∃ n, v = .int k n ∧ (Lit.int k n).wf = true := by
 obtain ⟨H, enc, d, p, base, hv, hd⟩ := h
 obtain ⟨n, hn, _, _, hw⟩ := open_int ht hv hd
 exact ⟨n, hn, hw⟩
set_option maxRecDepth 100000 in
theorem bu {w : World} {t : TypeId} {v : Value} {e : TypeId} (ht : Tryz.prog.underlying t = some (.slice e)) (h : Reads w t v) : ∃ a len cap, v = .slice a len cap ∧ Rd w t [.slice a len cap] := by
 have hr := reads_rd h
 obtain ⟨H, enc, d, p, base, hv, hd⟩ := h
 obtain ⟨a, len, cap, rfl⟩ := okWide_slice ht hv
 exact ⟨a, len, cap, rfl, hr⟩
set_option maxRecDepth 100000
theorem cc {w : World} {v : Value} (h : Reads w 3 v) : ∃ n, Fit64 n ∧ Rep (c0 w) (i64 n) v := by
 obtain ⟨n, rfl, h2⟩ := aS Tryz.underlying3 h
 exact ⟨n, wf_fit h2, by unfold i64; exact rep_val _ _⟩
set_option maxRecDepth 100000
set_option maxHeartbeats 4000000
def aC : Nat → Nat → List Int
 | 0, _ => []
 | k + 1, u => ((u % 256 : Nat) : Int) :: aC k (u / 256)
theorem bw (k : Nat) : ∀ u : Nat, u < 256 ^ k → valB (aC k u) = u := by
 induction k with
 | zero => intro u h; simp at h; simp [aC, valB, h]
 | succ k ih =>
  intro u h
  rw [Nat.pow_succ] at h
  simp only [aC, valB, ih (u / 256) (by omega), Int.toNat_natCast]
  omega
theorem cd (u : Nat) : bytes8 u = aC 8 u := by
 simp only [bytes8, aC, Nat.div_div_eq_div_mul]
 rfl
theorem bv (u : Nat) (h : u < 18446744073709551616) : valB (bytes8 u) = u := by
 rw [cd]; exact bw 8 u (by rw [show (256 : Nat) ^ 8 = 18446744073709551616 from by decide]; exact h)
theorem bX {n : Int} (h : Fit64 n) : getC (putC n) = n := by
 have e : (putC n).map (fun b => (b.toNat : Int)) = bytes8 (U n) := by
  unfold putC
  rw [List.map_map]
  have : ∀ x ∈ bytes8 (U n), ((fun b : UInt8 => (b.toNat : Int)) ∘ fun x : Int => UInt8.ofNat x.toNat) x = id x := by
   intro x hx
   have := b8_rng (U n) x hx
   simp only [Function.comp, id]
   rw [UInt8.toNat_ofNat']
   omega
  rw [List.map_congr_left this, List.map_id]
 unfold getC
 rw [e, bv _ (U_lt n)]
 exact S_U n h
def stM (m : VMem) (a n : Int) : VMem := ⟨laidB m.b a.toNat (putC n), m.old ++ [⟨a, (m.b.drop a.toNat).take 8⟩]⟩
theorem bq {m : VMem} {a n : Int} (h0 : 0 ≤ a) (h1 : 0 < n) (h2 : a + n ≤ m.b.length) : memThere m a n = true := by
 unfold memThere
 rw [decide_eq_true_eq]
 omega
theorem au {m : VMem} {a : Int} (h0 : 0 ≤ a) (h1 : a % 8 = 0) (h2 : a + 8 ≤ m.b.length) : memCellAt m a = 0 := by
 unfold memCellAt
 rw [bq h0 (by omega) h2, if_pos rfl, if_pos (by rw [Int.tmod_eq_emod_of_nonneg h0]; exact h1)]
theorem ct {m : VMem} {a : Int} (n : Int) (h0 : 0 ≤ a) (h2 : a + 8 ≤ m.b.length) : memWrite m a (putC n) = (stM m a n, 0) := by
 unfold memWrite
 rw [putC_len, if_pos (show memThere m a ((8 : Nat) : Int) = true from bq h0 (by omega) h2), if_neg (by intro h; have := congrArg List.length h; rw [putC_len] at this; cases this)]
 rfl
theorem cr {m : VMem} {a : Int} (n : Int) (h0 : 0 ≤ a) (h1 : a % 8 = 0) (h2 : a + 8 ≤ m.b.length) : memStore m a n = (stM m a n, 0) := by
 unfold memStore
 rw [if_pos (au h0 h1 h2), ct n h0 h2]
theorem aH {m : VMem} {a n : Int} (h0 : 0 ≤ a) (h2 : a + 8 ≤ m.b.length) : (stM m a n).b.length = m.b.length := by
 unfold stM
 exact laidB_len (by rw [putC_len]; omega)
theorem cL {l x : List UInt8} {k : Nat} (h : k + x.length ≤ l.length) : ((laidB l k x).drop k).take x.length = x := by
 unfold laidB
 rw [List.append_assoc, List.drop_left' (by rw [List.length_take]; omega), List.take_left' rfl]
theorem bE {l x : List UInt8} {k c n : Nat} (h : c + n ≤ k) (h2 : k ≤ l.length) : ((laidB l k x).drop c).take n = (l.drop c).take n := by
 unfold laidB
 rw [List.append_assoc, List.drop_append_of_le_length (by rw [List.length_take]; omega), List.take_append_of_le_length (by rw [List.length_drop, List.length_take]; omega), List.drop_take, List.take_take, Nat.min_eq_left (by omega)]
theorem bK {m : VMem} {a n : Int} (hn : Fit64 n) (h0 : 0 ≤ a) (h1 : a % 8 = 0) (h2 : a + 8 ≤ m.b.length) : memFetch (stM m a n) a = (n, 0) := by
 unfold memFetch
 rw [au h0 h1 (by rw [aH h0 h2]; exact h2), if_pos rfl]
 have e : ((stM m a n).b.drop a.toNat).take 8 = putC n := cL (x := putC n) (by rw [putC_len]; omega)
 rw [e, bX hn]
theorem bz {m : VMem} {a b n : Int} (h0 : 0 ≤ b) (h1 : b % 8 = 0) (h3 : b + 8 ≤ a) (h2 : a + 8 ≤ m.b.length) : memFetch (stM m a n) b = memFetch m b := by
 unfold memFetch
 rw [au h0 h1 (by rw [aH (by omega) h2]; omega), au h0 h1 (by omega), if_pos rfl, if_pos rfl]
 have e : ((stM m a n).b.drop b.toNat).take 8 = (m.b.drop b.toNat).take 8 := bE (by omega) (by omega)
 rw [e]
set_option maxRecDepth 100000
set_option maxHeartbeats 4000000
structure am (m : VMem) (L : Nat) (g : Int → Int) : Prop where
 len : m.b.length = L
 cell : ∀ a : Int, 0 ≤ a → a % 8 = 0 → a + 8 ≤ (L : Int) → memFetch m a = (g a, 0)
def aO (g : Int → Int) (a n x : Int) : Int := if x = a then n else g x
theorem bF {l x : List UInt8} {k c n : Nat} (h : k + x.length ≤ c) (h2 : k + x.length ≤ l.length) : ((laidB l k x).drop c).take n = (l.drop c).take n := by
 unfold laidB
 have e : (l.take k ++ x).length = k + x.length := by rw [List.length_append, List.length_take]; omega
 rw [List.drop_append, List.drop_eq_nil_of_le (by rw [e]; exact h), List.nil_append, e, List.drop_drop, show k + x.length + (c - (k + x.length)) = c by omega]
theorem bx {m : VMem} {a b n : Int} (h0 : 0 ≤ a) (h1 : b % 8 = 0) (h3 : a + 8 ≤ b) (h2 : b + 8 ≤ m.b.length) : memFetch (stM m a n) b = memFetch m b := by
 unfold memFetch
 rw [au (by omega) h1 (by rw [aH (by omega) (by omega)]; omega), au (by omega) h1 (by omega), if_pos rfl, if_pos rfl]
 have e : ((stM m a n).b.drop b.toNat).take 8 = (m.b.drop b.toNat).take 8 := bF (by rw [putC_len]; omega) (by rw [putC_len]; omega)
 rw [e]
def okA (L : Nat) (a : Int) : Bool := decide (0 ≤ a) && decide (a % 8 = 0) && decide (a + 8 ≤ (L : Int))
theorem ag {L : Nat} {a : Int} : okA L a = true ↔ 0 ≤ a ∧ a % 8 = 0 ∧ a + 8 ≤ (L : Int) := by unfold okA; simp only [Bool.and_eq_true, decide_eq_true_eq, and_assoc]
theorem am.store {m : VMem} {L : Nat} {g : Int → Int} (h : am m L g) {a n : Int} (hn : Fit64 n) (ha : okA L a = true) : am (stM m a n) L (aO g a n) := by
 obtain ⟨h0, h1, h2⟩ := ag.1 ha
 have hl := h.len
 refine ⟨(aH h0 (by rw [hl]; exact h2)).trans hl, fun x x0 x1 x2 => ?_⟩
 unfold aO
 by_cases hx : x = a
 ·subst hx
  rw [if_pos rfl]
  exact bK hn h0 h1 (by rw [hl]; exact h2)
 ·rw [if_neg hx, ← h.cell x x0 x1 x2]
  by_cases hlt : x < a
  ·exact bz x0 x1 (by omega) (by rw [hl]; exact h2)
  ·exact bx h0 x1 (by omega) (by rw [hl]; exact x2)
theorem am.put {m : VMem} {L : Nat} {g : Int → Int} (h : am m L g) {a n : Int} (ha : okA L a = true) : memStore m a n = (stM m a n, 0) := by
 obtain ⟨h0, h1, h2⟩ := ag.1 ha
 exact cr n h0 h1 (by rw [h.len]; exact h2)
theorem am.bare {m : VMem} {L : Nat} {g : Int → Int} (h : am m L g) : am ⟨m.b, []⟩ L g := ⟨h.len, h.cell⟩
def aW (g : Int → Int) (at_ : Int) (cells : List Int) : Nat → Int → Int
 | 0 => g
 | k + 1 => aO (aW g at_ cells k) (at_ + 8 + 8 * (k : Int)) (cells.getD k 0)
theorem ap {n : Int} (h0 : 0 ≤ n) (h1 : n ≤ 1000000) : W64 n = n := w64_id (by unfold Fit64; omega)
theorem cf {l : List Int} (h : FitL l) (k : Nat) : Fit64 (l.getD k 0) := by
 rw [List.getD_eq_getElem?_getD]
 cases e : l[k]? with
 | none => exact fit64_0
 | some x => exact h x (List.mem_of_getElem? e)
theorem am.laidK {m : VMem} {L : Nat} {g : Int → Int} (h : am m L g) {at_ : Int} {cells : List Int} (hc : FitL cells) (h0 : 0 ≤ at_) (h1 : at_ % 8 = 0) (h2 : at_ + 8 + 8 * (cells.length : Int) ≤ (L : Int)) (hL : L ≤ 65536) :
  ∀ k, k ≤ cells.length → am (laidK m at_ cells k) L (aW g at_ cells k)
 | 0, _ => h
 | k + 1, hk => by
  have ih := am.laidK h hc h0 h1 h2 hL k (by omega)
  have e : W64 (W64 (at_ + 8) + W64 (8 * (k : Int))) = at_ + 8 + 8 * (k : Int) := by
   rw [ap (n := at_ + 8) (by omega) (by omega), ap (n := 8 * (k : Int)) (by omega) (by omega), ap (by omega) (by omega)]
  have ha : okA L (at_ + 8 + 8 * (k : Int)) = true := ag.2 ⟨by omega, by omega, by omega⟩
  show am (memStore (Go.Proofs.YtobhnjnffnbbkaaGreatDoor.laidK m at_ cells k) (W64 (W64 (at_ + 8) + W64 (8 * (k : Int)))) (cells.getD k 0)).1 L _
  rw [e, ih.put ha]
  exact ih.store (cf hc k) ha
structure ae (v : VVm) (L : Nat) (g : Int → Int) : Prop where
 mem : am v.mem L g
 hL : L ≤ 65536
 hl : 1072 ≤ L
 data : v.conf.data = 32
 ret : v.conf.ret = 32
theorem cI : Fit64 256 := by unfold Fit64; omega
theorem ae.laid {v : VVm} {L : Nat} {g : Int → Int} (M : ae v L g) {at_ : Int} {cells : List Int} (hc : FitL cells) (ha : okA L at_ = true) (h2 : at_ + 8 + 8 * (cells.length : Int) ≤ (L : Int)) :
  ae (laidZ v at_ cells) L (aW (aO g at_ 256) at_ cells cells.length) := by
 obtain ⟨h0, h1, _⟩ := ag.1 ha
 refine ⟨?_, M.hL, M.hl, M.data, M.ret⟩
 have q := M.mem.store cI ha
 have e : memStore v.mem at_ 256 = (stM v.mem at_ 256, 0) := M.mem.put ha
 have r := (am.laidK q hc h0 h1 h2 M.hL cells.length (Nat.le_refl _)).bare
 show am ⟨(laidK (memStore v.mem at_ 256).1 at_ cells cells.length).b, []⟩ L _
 rw [e]
 exact r
theorem ae.store {v : VVm} {L : Nat} {g : Int → Int} (M : ae v L g) {a n : Int} (hn : Fit64 n) (ha : okA L a = true) : ae (withM v (memStore v.mem a n).1) L (aO g a n) := by
 refine ⟨?_, M.hL, M.hl, M.data, M.ret⟩
 show am (memStore v.mem a n).1 L _
 rw [M.mem.put ha]
 exact M.mem.store hn ha
def g0 (a : Int) : Int := (memFetch (stockS []).mem a).1
theorem bB : ae (stockS []) 2048 g0 := by
 have hl : (stockS []).mem.b.length = 2048 := newB_len 2048 167
 refine ⟨⟨hl, fun a h0 h1 h2 => ?_⟩, by decide, by decide, rfl, rfl⟩
 unfold g0 memFetch
 rw [au h0 h1 (by rw [hl]; exact h2), if_pos rfl]
def cQ (g : Int → Int) : Bool := (List.range 130).all fun i => decide (g (32 + 8 * (i : Int)) = (i : Int))
theorem cU : cQ g0 = true := by kernel_rfl
theorem cC (i : Nat) (h : i < 130) : g0 (32 + 8 * (i : Int)) = (i : Int) := by
 have q := cU
 unfold cQ at q
 rw [List.all_eq_true] at q
 exact oT (q i (List.mem_range.2 h))
theorem dn : g0 16 = 96 := by kernel_rfl
theorem dm : g0 24 = 104 := by kernel_rfl
structure Std (g : Int → Int) : Prop where
 prim : ∀ i : Nat, i < 130 → g (32 + 8 * (i : Int)) = (i : Int)
 c16 : g 16 = 96
 c24 : g 24 = 104
theorem du : Std g0 := ⟨cC, dn, dm⟩
theorem Std.upd {g : Int → Int} (S : Std g) {a n : Int} (h : 1072 ≤ a) : Std (aO g a n) := by
 refine ⟨fun i hi => ?_, ?_, ?_⟩
 ·unfold aO; rw [if_neg (by omega)]; exact S.prim i hi
 ·unfold aO; rw [if_neg (by omega)]; exact S.c16
 ·unfold aO; rw [if_neg (by omega)]; exact S.c24
theorem Std.laid {g : Int → Int} (S : Std g) {at_ : Int} {cells : List Int} (h : 1072 ≤ at_) : ∀ k, Std (aW g at_ cells k)
 | 0 => S
 | k + 1 => (Std.laid S h k).upd (by omega)
def mk (v : VVm) (d r : List Int) (f : List VFrame) : VVm := { v with d := d, r := r, f := f }
def mr (v : VVm) (d r : List Int) (f : List VFrame) (ip fu : Int) : VRun := ⟨mk v d r f, ip, 0, false, fu⟩
def mw (v : VVm) (d r : List Int) (f : List VFrame) (ip w fu : Int) : VRun := ⟨mk v d r f, ip, w, true, fu⟩
def mz (v : VVm) (d r : List Int) (f : List VFrame) (ip : Int) : VWk := ⟨mk v d r f, ip, 0, false, false, 0⟩
def mzw (v : VVm) (d r : List Int) (f : List VFrame) (ip w : Int) : VWk := ⟨mk v d r f, ip, w, true, false, 0⟩
variable {v : VVm} {L : Nat} {g : Int → Int} {d r : List Int} {f : List VFrame} {ip fu xt q x n : Int}
theorem br : stkPop (d ++ [x]) = (x, d, 0) := by
 unfold stkPop
 rw [if_neg (by simp)]
 simp
theorem bb : dPop (mz v (d ++ [x]) r f ip) = (mz v d r f ip, x) := by
 have e : vmPop (mk v (d ++ [x]) r f) = (x, mk v d r f, 0) := by
  show ((stkPop (d ++ [x])).1, { mk v (d ++ [x]) r f with d := (stkPop (d ++ [x])).2.1 }, (stkPop (d ++ [x])).2.2) = _
  rw [br]; rfl
 show (({ dFail (mz v (d ++ [x]) r f ip) (vmPop (mk v (d ++ [x]) r f)).2.2 with v := (vmPop (mk v (d ++ [x]) r f)).2.1 } : VWk), (vmPop (mk v (d ++ [x]) r f)).1) = _
 rw [e]; rfl
theorem bO : dRPop (mz v d (r ++ [x]) f ip) = (mz v d r f ip, x) := by
 have e : vmRPop (mk v d (r ++ [x]) f) = (x, mk v d r f, 0) := by
  unfold vmRPop
  rw [if_neg (by show ¬ (r ++ [x]).length = 0; simp)]
  show ((r ++ [x]).getD ((r ++ [x]).length - 1) 0, { mk v d (r ++ [x]) f with r := (r ++ [x]).take ((r ++ [x]).length - 1) }, (0 : Int)) = _
  simp [mk]
 show (({ dFail (mz v d (r ++ [x]) f ip) (vmRPop (mk v d (r ++ [x]) f)).2.2 with v := (vmRPop (mk v d (r ++ [x]) f)).2.1 } : VWk), (vmRPop (mk v d (r ++ [x]) f)).1) = _
 rw [e]; rfl
theorem ba (M : ae v L g) (h : d.length < 32) : dPush (mz v d r f ip) n = mz v (d ++ [n]) r f ip := by
 have e : vmPush (mk v d r f) n = (mk v (d ++ [n]) r f, 0) := by
  unfold vmPush stkPush
  rw [if_neg (by show ¬ v.conf.data ≤ (d.length : Int); rw [M.data]; omega)]
  rfl
 show ({ dFail (mz v d r f ip) (vmPush (mk v d r f) n).2 with v := (vmPush (mk v d r f) n).1 } : VWk) = _
 rw [e]; rfl
theorem bs (M : ae v L g) (h : r.length < 32) : dRPush (mz v d r f ip) n = mz v d (r ++ [n]) f ip := by
 have e : vmRPush (mk v d r f) n = (mk v d (r ++ [n]) f, 0) := by
  unfold vmRPush
  rw [if_neg (by show ¬ v.conf.ret ≤ (r.length : Int); rw [M.ret]; omega)]
  rfl
 show ({ dFail (mz v d r f ip) (vmRPush (mk v d r f) n).2 with v := (vmRPush (mk v d r f) n).1 } : VWk) = _
 rw [e]; rfl
theorem bn (M : ae v L g) (h : okA L x = true) : dFetch (mz v d r f ip) x = (mz v d r f ip, g x) := by
 obtain ⟨h0, h1, h2⟩ := ag.1 h
 show (dFail (mz v d r f ip) (memFetch v.mem x).2, (memFetch v.mem x).1) = _
 rw [M.mem.cell x h0 h1 h2]; rfl
theorem bN (M : ae v L g) (h : okA L ip = true) : dSkip (mz v d r f ip) = mz v d r f (ip + 8) := by
 obtain ⟨h0, h1, h2⟩ := ag.1 h
 have := M.hL
 show (⟨mk v d r f, W64 (ip + 8), 0, false, false, 0⟩ : VWk) = _
 rw [ap (by omega) (by omega)]; rfl
def aa (k : VWk) (xt q : Int) : VWk :=
 if 300 ≤ q then dFail k (-14) else
 if q = 256 then { dRPush k k.ip with ip := W64 (xt + 8) } else
 if q = 257 then dPush k (W64 (xt + 16)) else
 if q = 258 then dPush (dFetch k (W64 (xt + 16))).1 (dFetch k (W64 (xt + 16))).2 else
 if q = 259 then (let a := dFetch k (W64 (xt + 8)); { dRPush (dPush a.1 (W64 (xt + 16))) (dPush a.1 (W64 (xt + 16))).ip with ip := a.2 }) else
 if q = 260 then dMachine k xt else
 if 23 ≤ q then { dFail k (doS k.v q).2 with v := (doS k.v q).1 } else
 if (dCode k (names.getD q.toNat [])).2 then (dCode k (names.getD q.toNat [])).1 else dWord (dCode k (names.getD q.toNat [])).1 (names.getD q.toNat [])
theorem bU {k : VWk} (h : vmKind k.v xt = (q, 0)) : dDone k xt = aa k xt q := by
 unfold dDone aa
 rw [h]
 rfl
theorem cO (M : ae v L g) (hx : okA L xt = true) (hq : g xt = q) (ok : kindOk q) : vmKind (mk v d r f) xt = (q, 0) := by
 obtain ⟨h0, h1, h2⟩ := ag.1 hx
 show (if (memFetch v.mem xt).2 = 0 then (if kindOk (memFetch v.mem xt).1 then ((memFetch v.mem xt).1, 0) else (0, -9)) else (0, (memFetch v.mem xt).2)) = _
 rw [M.mem.cell xt h0 h1 h2]
 show (if kindOk (g xt) then (g xt, (0 : Int)) else (0, -9)) = _
 rw [hq, if_pos ok]
def bZ (ahead : VRun) (fu : Int) (k : VWk) : VRun × Bool × Int :=
 if k.bad = 0 then (⟨k.v, k.ip, k.w, k.dof, fu⟩, k.over, 0) else ((caughtS ahead k.bad).1, false, (caughtS ahead k.bad).2)
def dq (r : VRun) (q : VWk × Int) : VRun × Bool × Int := bZ ⟨r.vm, q.1.ip, 0, false, W64 (r.fuel - 1)⟩ (W64 (r.fuel - 1)) (if q.1.bad = 0 then dDone q.1 q.2 else q.1)
def cR (r : VRun) : VWk × Int :=
 let k0 : VWk := ⟨r.vm, r.ip, 0, false, false, 0⟩
 if r.dof then (k0, r.w) else (let a := dFetch k0 r.ip; (if a.1.bad = 0 then dSkip a.1 else a.1, a.2))
theorem cv {r : VRun} (h : ¬ r.fuel < 1) : stepS r = dq r (cR r) := by unfold stepS; rw [if_neg h]; rfl
theorem cS {s : VRun} (M : ae v L g) (hs : s.fuel = fu) (hv : s.vm = mk v d r f) (hf : 1 ≤ fu ∧ fu ≤ 300000) (e : cR s = (mz v d r f ip, xt)) (h2 : okA L xt = true) (hq : g xt = q) (ok : kindOk q) :
  stepS s = bZ (mr v d r f ip (fu - 1)) (fu - 1) (aa (mz v d r f ip) xt q) := by
 rw [cv (by omega), e]
 unfold dq
 dsimp only
 rw [if_pos (show (mz v d r f ip).bad = 0 from rfl), bU (cO M h2 hq ok : vmKind (mz v d r f ip).v xt = (q, 0)), hs, hv, fuel_w hf.1 hf.2]
 rfl
theorem bL (M : ae v L g) (hf : 1 ≤ fu ∧ fu ≤ 300000) (hi : okA L ip = true) (hx : g ip = xt) (h2 : okA L xt = true) (hq : g xt = q) (ok : kindOk q) :
  stepS (mr v d r f ip fu) = bZ (mr v d r f (ip + 8) (fu - 1)) (fu - 1) (aa (mz v d r f (ip + 8)) xt q) := by
 refine cS M rfl rfl hf ?_ h2 hq ok
 show ((if (dFetch (mz v d r f ip) ip).1.bad = 0 then dSkip (dFetch (mz v d r f ip) ip).1 else (dFetch (mz v d r f ip) ip).1), (dFetch (mz v d r f ip) ip).2) = _
 rw [bn M hi, hx]
 dsimp only
 rw [if_pos (show (mz v d r f ip).bad = 0 from rfl), bN M hi]
theorem dk (M : ae v L g) (hf : 1 ≤ fu ∧ fu ≤ 300000) (h2 : okA L xt = true) (hq : g xt = q) (ok : kindOk q) :
  stepS (mw v d r f ip xt fu) = bZ (mr v d r f ip (fu - 1)) (fu - 1) (aa (mz v d r f ip) xt q) :=
 cS (s := mw v d r f ip xt fu) M rfl rfl hf rfl h2 hq ok
def Go1 (s t : VRun) : Prop := stepS s = (t, false, 0)
inductive GoN : Nat → VRun → VRun → Prop
 | nil (s : VRun) : GoN 0 s s
 | cons {n : Nat} {s t u : VRun} : Go1 s t → GoN n t u → GoN (n + 1) s u
theorem GoN.trans {a b : Nat} {s t u : VRun} (h : GoN a s t) (k : GoN b t u) : GoN (b + a) s u := by
 induction h with
 | nil s => exact k
 | cons h1 _ ih => exact .cons h1 (ih k)
theorem GoN.one {s t : VRun} (h : Go1 s t) : GoN 1 s t := .cons h (.nil _)
theorem GoN.run {n : Nat} {s t : VRun} (h : GoN n s t) : ∀ k, runsS (k + n) s = runsS k t := by
 induction h with
 | nil s => intro k; rfl
 | cons h1 _ ih =>
  intro k
  unfold Go1 at h1
  rw [← Nat.add_assoc, runs_go (by rw [h1]; simp), h1]
  exact ih k
theorem bj {n : Nat} {s t : VRun} {fuel : Int} {u : VVm} {xt : Int} (h : GoN n (beginS u xt fuel) s) (hl : stepS s = (t, true, 0)) (h0 : 0 ≤ fuel) (hn : (n : Int) ≤ fuel) : runNS u xt fuel = (endV t.vm, t.fuel, 0) := by
 have e : max fuel 0 = fuel := by omega
 unfold runNS
 rw [e]
 obtain ⟨m, hm⟩ : ∃ m, fuel.toNat.succ = (m + 1) + n := ⟨fuel.toNat - n, by omega⟩
 rw [hm, h.run, runs_end (by rw [hl]; exact .inl rfl), hl]
section
variable {d' r' : List Int} {f' : List VFrame} {v' : VVm} {ip' w : Int}
theorem db (M : ae v L g) (hf : 1 ≤ fu ∧ fu ≤ 300000) (hi : okA L ip = true) (hx : g ip = xt) (h2 : okA L xt = true) (hq : g xt = q) (ok : kindOk q)
  (hk : aa (mz v d r f (ip + 8)) xt q = mz v' d' r' f' ip') : Go1 (mr v d r f ip fu) (mr v' d' r' f' ip' (fu - 1)) := by
 unfold Go1; rw [bL M hf hi hx h2 hq ok, hk]; rfl
theorem cV (M : ae v L g) (hf : 1 ≤ fu ∧ fu ≤ 300000) (hi : okA L ip = true) (hx : g ip = xt) (h2 : okA L xt = true) (hq : g xt = q) (ok : kindOk q)
  (hk : aa (mz v d r f (ip + 8)) xt q = mzw v' d' r' f' ip' w) : Go1 (mr v d r f ip fu) (mw v' d' r' f' ip' w (fu - 1)) := by
 unfold Go1; rw [bL M hf hi hx h2 hq ok, hk]; rfl
theorem dj (M : ae v L g) (hf : 1 ≤ fu ∧ fu ≤ 300000) (h2 : okA L xt = true) (hq : g xt = q) (ok : kindOk q)
  (hk : aa (mz v d r f ip) xt q = mz v' d' r' f' ip') : Go1 (mw v d r f ip xt fu) (mr v' d' r' f' ip' (fu - 1)) := by
 unfold Go1; rw [dk M hf h2 hq ok, hk]; rfl
end
theorem cY : aa (mz v d (r ++ [x]) f ip) xt 0 = mz v d r f x := by
 have e : aa (mz v d (r ++ [x]) f ip) xt 0 = { (dRPop (mz v d (r ++ [x]) f ip)).1 with ip := (dRPop (mz v d (r ++ [x]) f ip)).2 } := by kernel_rfl
 rw [e, bO]; rfl
theorem dg (M : ae v L g) (h : okA L ip = true) (hn : g ip = n) (hd : d.length < 32) : aa (mz v d r f ip) xt 1 = mz v (d ++ [n]) r f (ip + 8) := by
 have e : aa (mz v d r f ip) xt 1 = dSkip (dPush (dFetch (mz v d r f ip) ip).1 (dFetch (mz v d r f ip) ip).2) := by kernel_rfl
 rw [e, bn M h, hn]
 dsimp only
 rw [ba M hd, bN M h]
theorem cZ : bZ (mr v d r f ip fu) fu (aa (mz v d r f ip) xt 8) = (mr v d r f ip fu, true, 0) := by kernel_rfl
theorem cA (M : ae v L g) (hx : okA L xt = true) (hr : r.length < 32) : aa (mz v d r f ip) xt 256 = mz v d (r ++ [ip]) f (xt + 8) := by
 have e : aa (mz v d r f ip) xt 256 = { dRPush (mz v d r f ip) ip with ip := W64 (xt + 8) } := by kernel_rfl
 obtain ⟨h0, h1, h2⟩ := ag.1 hx
 have := M.hL
 rw [e, bs M hr, ap (by omega) (by omega)]; rfl
theorem cX {u : VVm} {d' : List Int} (h1 : 23 ≤ q) (h2 : q ≤ 129) (h : doS (mk v d r f) q = (mk u d' r f, 0)) : aa (mz v d r f ip) xt q = mz u d' r f ip := by
 unfold aa
 rw [if_neg (by omega), if_neg (by omega), if_neg (by omega), if_neg (by omega), if_neg (by omega), if_neg (by omega), if_pos h1]
 show ({ dFail (mz v d r f ip) (doS (mk v d r f) q).2 with v := (doS (mk v d r f) q).1 } : VWk) = _
 rw [h]; rfl
theorem dc (M : ae v L g) (hr : r.length < 32) : aa (mz v (d ++ [x]) r f ip) xt 18 = mz v d (r ++ [x]) f ip := by
 have e : aa (mz v (d ++ [x]) r f ip) xt 18 = dRPush (dPop (mz v (d ++ [x]) r f ip)).1 (dPop (mz v (d ++ [x]) r f ip)).2 := by kernel_rfl
 rw [e, bb]; dsimp only; rw [bs M hr]
theorem cD (M : ae v L g) (hd : d.length < 32) : aa (mz v d (r ++ [x]) f ip) xt 19 = mz v (d ++ [x]) r f ip := by
 have e : aa (mz v d (r ++ [x]) f ip) xt 19 = dPush (dRPop (mz v d (r ++ [x]) f ip)).1 (dRPop (mz v d (r ++ [x]) f ip)).2 := by kernel_rfl
 rw [e, bO]; dsimp only; rw [ba M hd]
theorem co : aa (mz v (d ++ [0]) r f ip) xt 14 = mz v d r f ip := by
 have e : aa (mz v (d ++ [0]) r f ip) xt 14 = dFail (dPop (mz v (d ++ [0]) r f ip)).1 (dPop (mz v (d ++ [0]) r f ip)).2 := by kernel_rfl
 rw [e, bb]; rfl
theorem cM (hx : x ≠ 0) : (aa (mz v (d ++ [x]) r f ip) xt 14).bad = x := by
 have e : aa (mz v (d ++ [x]) r f ip) xt 14 = dFail (dPop (mz v (d ++ [x]) r f ip)).1 (dPop (mz v (d ++ [x]) r f ip)).2 := by kernel_rfl
 rw [e, bb]; rfl
theorem cB (hf : f.length < 64) : aa (mz v (d ++ [x]) r f ip) xt 13 = mzw v d r (f ++ [⟨(d.length : Int), (r.length : Int), ip⟩]) 24 x := by
 have e : aa (mz v (d ++ [x]) r f ip) xt 13 = dCatch (mz v (d ++ [x]) r f ip) := by kernel_rfl
 rw [e]
 unfold dCatch
 rw [bb]
 dsimp only
 rw [if_neg (by show ¬ 64 ≤ (f.length : Int); omega)]
 rfl
theorem cz (M : ae v L g) {fr : VFrame} (hd : d.length < 32) : aa (mz v d r (f ++ [fr]) ip) xt 9 = mz v (d ++ [0]) r f fr.ip := by
 have e : aa (mz v d r (f ++ [fr]) ip) xt 9 = dCaught (mz v d r (f ++ [fr]) ip) := by kernel_rfl
 rw [e]
 unfold dCaught
 rw [if_neg (by show ¬ (f ++ [fr]).length = 0; simp)]
 have e1 : (f ++ [fr]).getD ((f ++ [fr]).length - 1) default = fr := by simp
 have e2 : (f ++ [fr]).take ((f ++ [fr]).length - 1) = f := by simp
 show dPush ⟨mk v d r ((f ++ [fr]).take ((f ++ [fr]).length - 1)), ((f ++ [fr]).getD ((f ++ [fr]).length - 1) default).ip, 0, false, false, 0⟩ 0 = _
 rw [e1, e2]
 exact ba (ip := fr.ip) M hd
theorem aJ {s : List Int} {n : Nat} (h : n ≤ s.length) : deepL s n = s.take n := by
 unfold deepL
 rw [show n - s.length = 0 by omega]; simp
theorem bY {fr : VFrame} {e0 : Int} {nd nr : Nat} (M : ae v L g) (h1 : fr.d = (nd : Int)) (h2 : fr.r = (nr : Int)) (h3 : nd ≤ d.length) (h4 : nr ≤ r.length) (h5 : nd < 32) (h6 : nr ≤ 32) :
  caughtS (mr v d r (f ++ [fr]) ip fu) e0 = (mr v (d.take nd ++ [e0]) (r.take nr) f fr.ip fu, 0) := by
 unfold caughtS
 rw [if_neg (by show ¬ (f ++ [fr]).length = 0; simp)]
 have e1 : (f ++ [fr]).getD ((f ++ [fr]).length - 1) default = fr := by simp
 have e2 : (f ++ [fr]).take ((f ++ [fr]).length - 1) = f := by simp
 show (({ mr v d r (f ++ [fr]) ip fu with vm := { mk v d r (f ++ [fr]) with f := (f ++ [fr]).take ((f ++ [fr]).length - 1), d := deepL d (min ((f ++ [fr]).getD ((f ++ [fr]).length - 1) default).d (v.conf.data - 1)).toNat ++ [e0], r := deepL r (min ((f ++ [fr]).getD ((f ++ [fr]).length - 1) default).r v.conf.ret).toNat }, ip := ((f ++ [fr]).getD ((f ++ [fr]).length - 1) default).ip } : VRun), (0 : Int)) = _
 rw [e1, e2, h1, h2, M.data, M.ret, show (min (nd : Int) (32 - 1)).toNat = nd by omega, show (min (nr : Int) 32).toNat = nr by omega, aJ h3, aJ h4]
 rfl
section
variable {d' r' : List Int} {f' : List VFrame} {v' : VVm} {ip' w : Int}
theorem aq {i : Nat} (hi : i < 130) : kindOk (i : Int) := .inl (by omega)
theorem aK {i : Nat} (M : ae v L g) (hi : i < 130) : okA L (32 + 8 * (i : Int)) = true := ag.2 (by have := M.hl; omega)
theorem bD (M : ae v L g) (S : Std g) (i : Nat) (hi : i < 130) (hf : 1 ≤ fu ∧ fu ≤ 300000) (ha : okA L ip = true) (hx : g ip = 32 + 8 * (i : Int))
  (hk : aa (mz v d r f (ip + 8)) (32 + 8 * (i : Int)) (i : Int) = mz v' d' r' f' ip') : Go1 (mr v d r f ip fu) (mr v' d' r' f' ip' (fu - 1)) :=
 db M hf ha hx (aK M hi) (S.prim i hi) (aq hi) hk
theorem dh (M : ae v L g) (S : Std g) (i : Nat) (hi : i < 130) (hf : 1 ≤ fu ∧ fu ≤ 300000) (ha : okA L ip = true) (hx : g ip = 32 + 8 * (i : Int))
  (hk : aa (mz v d r f (ip + 8)) (32 + 8 * (i : Int)) (i : Int) = mzw v' d' r' f' ip' w) : Go1 (mr v d r f ip fu) (mw v' d' r' f' ip' w (fu - 1)) :=
 cV M hf ha hx (aK M hi) (S.prim i hi) (aq hi) hk
end
theorem bR (M : ae v L g) (S : Std g) (hf : 1 ≤ fu ∧ fu ≤ 300000) (ha : okA L ip = true) (hx : g ip = 32) : Go1 (mr v d (r ++ [x]) f ip fu) (mr v d r f x (fu - 1)) :=
 bD M S 0 (by decide) hf ha hx cY
theorem bf (M : ae v L g) (S : Std g) (hf : 1 ≤ fu ∧ fu ≤ 300000) (ha : okA L ip = true) (hx : g ip = 40) (hb : okA L (ip + 8) = true) (hn : g (ip + 8) = n) (hd : d.length < 32) : Go1 (mr v d r f ip fu) (mr v (d ++ [n]) r f (ip + 16) (fu - 1)) := by
 have := bD M S 1 (by decide) hf ha hx (dg M hb hn hd) (r := r) (f := f)
 rwa [show ip + 8 + 8 = ip + 16 by omega] at this
theorem cK (M : ae v L g) (S : Std g) (hf : 1 ≤ fu ∧ fu ≤ 300000) : stepS (mr v d r f 16 fu) = (mr v d r f 24 (fu - 1), true, 0) := by
 have h := M.hl
 rw [bL M hf (ag.2 (by omega)) S.c16 (ag.2 (by omega)) (S.prim 8 (by decide)) (aq (i := 8) (by decide))]
 exact cZ
theorem bl (M : ae v L g) (hf : 1 ≤ fu ∧ fu ≤ 300000) (h2 : okA L xt = true) (hq : g xt = 256) (hr : r.length < 32) : Go1 (mw v d r f ip xt fu) (mr v d (r ++ [ip]) f (xt + 8) (fu - 1)) :=
 dj M hf h2 hq (.inr (.inl (by omega))) (cA M h2 hr)
set_option maxRecDepth 100000
set_option maxHeartbeats 4000000
theorem ax {l : List Int} (h : (l.all fun a => decide (-9223372036854775808 ≤ a) && decide (a ≤ 9223372036854775807)) = true) : FitL l := fun a ha => by
 rw [List.all_eq_true] at h
 have := h a ha
 simp only [Bool.and_eq_true, decide_eq_true_eq] at this
 exact this
section
variable {v : VVm} {g : Int → Int} {d : List Int} {f : List VFrame}
end
open Go.WideShapes
set_option maxRecDepth 100000
set_option maxHeartbeats 8000000
theorem be {n : Int} (h : Fit64 n) : IntKind.i64.wrap n = n := w64_id h
theorem bW {v : VVm} (g : GoodM 0 v) (hc : v.conf.data = 32) {d : List Int} (hd : d.length ≤ 32) (hf : FitL d) : GoodM 0 { v with d := d } := by
 have R := g.right
 refine ⟨⟨R.fits, R.mem, R.dict, R.pic, R.len, R.here0, R.here1, R.f, R.hand, ?_, R.r, R.fl, R.dl, R.out, R.req, R.free0, R.free1, R.next0, R.next1, R.handl⟩, g.old, hf, g.fr, g.ff, g.ints, g.la⟩
 show (d.length : Int) ≤ v.conf.data
 rw [hc]; omega
theorem bk {l l' : List Int} (hl : l'.length ≤ 1000000) (h : l = l') : PureC Tryz.prog 28 [sq cInt l, sq cInt l'] (boo true) := by
 subst h
 have := ref_Same4 l l hl hl
 rw [decide_eq_true rfl] at this
 exact this
theorem cu {x : Nat} (k : Nat) : (x : Int).tmod (k : Int) = ((x % k : Nat) : Int) := by
 rw [Int.tmod_eq_emod_of_nonneg (by omega)]; rfl
theorem cn {w : World} {v : Value} (h : Reads w 5 v) : ∃ k : Nat, k < 256 ∧ Rep (c0 w) (.val (.int .u8 (k : Int))) v := by
 obtain ⟨n, rfl, h2⟩ := aS Tryz.underlying5 h
 have h3 : 0 ≤ n ∧ n ≤ 255 := by simp [Lit.wf, IntKind.min, IntKind.max, IntKind.bits, IntKind.signed] at h2; omega
 obtain ⟨k, rfl⟩ : ∃ k : Nat, n = (k : Int) := ⟨n.toNat, by omega⟩
 exact ⟨k, by omega, rep_val _ _⟩
theorem bC {w : World} {v : Value} (h : Reads w 28 v) : ∃ l : List Int, FitL l ∧ l.length ≤ 9223372036854775807 ∧ Rep (c0 w) (sq cInt l) v := by
 obtain ⟨a, len, cap, rfl, hr⟩ := bu Tryz.underlying28 h
 obtain ⟨l, ⟨h1, h2⟩, h3⟩ := rd_intl hr
 exact ⟨l, h1, h2, (repL_cons.1 h3).1⟩
namespace V3
section
variable {P : Program} {B : Nat → Nat → Prop} {n : Nat} {md : Region.Mode} {ops : Array Oper} {cl : Nat → Nat}
def ay (P : Program) (B : Nat → Nat → Prop) (ops : Array Oper) (o : Oper) (T : Nat → PV) (H : List Ob) (x : PV) (H' : List Ob) : Prop :=
 (wantedA ops T o = some true ∧ (Does P B o T H x H' ∨ DoesC P B o T H x H')) ∨ (wantedA ops T o = some false ∧ x = .val undef ∧ H' = H)
def ak (P : Program) (B : Nat → Nat → Prop) (ops : Array Oper) (c : Nat) (o : Oper) (T : Nat → PV) (H : List Ob) (x : PV) (H' : List Ob) : Prop :=
 match c with
 | 0 => H' = H ∧ ∀ H2, ay P B ops o T H2 x H2
 | 1 => H' = H ∧ ∀ E, ay P B ops o T (H ++ E) x (H ++ E)
 | 2 => ∃ E, H' = H ++ E
 | 3 => True
 | c + 4 => match Nat.beq (c % 2) 0 with
  | true => H' = H ∧ c / 2 < H.length ∧ ∀ H2 : List Ob, H2[c / 2]? = H[c / 2]? → ay P B ops o T H2 x H2
  | false => ∃ ob E, H' = H.set (c / 2) ob ++ E
def aQ (c : Nat) : Bool := Nat.ble 4 c && Nat.beq (c % 2) 0
def aZ (c : Nat) : Bool := Nat.ble 4 c && Nat.beq (c % 2) 1
def al (c : Nat) : Nat := (c - 4) / 2
def aw (a b : Nat) : Bool := Nat.beq a 0 || Nat.beq b 0 || (Nat.beq a 1 && Nat.ble b 2) || (aQ a && (Nat.ble b 2 || aQ b || (aZ b && !Nat.beq (al a) (al b))))
theorem ay.congr {o : Oper} {T T' : Nat → PV} {H H' : List Ob} {x : PV} (h : ∀ t ∈ o.looksAt ops, T' t = T t) (y : ay P B ops o T H x H') : ay P B ops o T' H x H' := by
 have hw : wantedA ops T' o = wantedA ops T o := by
  unfold wantedA
  cases hg : o.guard with
  | none => rfl
  | some q =>
   obtain ⟨g, b⟩ := q
   simp only
   cases hd : (ops[g]?).bind (·.dst) with
   | none => rfl
   | some d => simp only; rw [h d (looks_guard hg hd)]
 have ho : ∀ z ∈ o.op.operands.toList, opv T' z = opv T z := fun z hz => opv_congr fun t ht => h t (looks_op (by rw [← ht]; exact hz))
 rcases y with ⟨h1, h2 | h2⟩ | ⟨h1, h2⟩
 ·exact .inl ⟨by rw [hw]; exact h1, .inl fun σ w a s k => h2 σ w a s (fun z hz => by rw [← ho z hz]; exact k z hz)⟩
 ·exact .inl ⟨by rw [hw]; exact h1, .inr fun σ w a s k => h2 σ w a s (fun z hz => by rw [← ho z hz]; exact k z hz)⟩
 ·exact .inr ⟨by rw [hw]; exact h1, h2⟩
theorem ak.congr {c : Nat} {o : Oper} {T T' : Nat → PV} {H H' : List Ob} {x : PV} (h : ∀ t ∈ o.looksAt ops, T' t = T t) (y : ak P B ops c o T H x H') : ak P B ops c o T' H x H' := by
 match c, y with
 | 0, y => exact ⟨y.1, fun H2 => (y.2 H2).congr h⟩
 | 1, y => exact ⟨y.1, fun E => (y.2 E).congr h⟩
 | 2, y => exact y
 | 3, _ => trivial
 | c + 4, y =>
  simp only [ak] at y ⊢
  split at y
  ·exact ⟨y.1, y.2.1, fun H2 h2 => (y.2.2 H2 h2).congr h⟩
  ·exact y
theorem ak.rd {c : Nat} {o : Oper} {T : Nat → PV} {H H' : List Ob} {x : PV} (hc : aQ c = true) (f : ak P B ops c o T H x H') : H' = H ∧ al c < H.length ∧ ∀ H2 : List Ob, H2[al c]? = H[al c]? → ay P B ops o T H2 x H2 := by
 simp only [aQ, Bool.and_eq_true, Nat.ble_eq, Nat.beq_eq] at hc
 obtain ⟨d, rfl⟩ : ∃ d, c = d + 4 := ⟨c - 4, by omega⟩
 have hd : Nat.beq (d % 2) 0 = true := by rw [Nat.beq_eq]; omega
 simp only [ak, hd] at f
 exact f
theorem ak.of_rd {c : Nat} {o : Oper} {T : Nat → PV} {H H' : List Ob} {x : PV} (hc : aQ c = true) (f : H' = H ∧ al c < H.length ∧ ∀ H2 : List Ob, H2[al c]? = H[al c]? → ay P B ops o T H2 x H2) : ak P B ops c o T H x H' := by
 simp only [aQ, Bool.and_eq_true, Nat.ble_eq, Nat.beq_eq] at hc
 obtain ⟨d, rfl⟩ : ∃ d, c = d + 4 := ⟨c - 4, by omega⟩
 have hd : Nat.beq (d % 2) 0 = true := by rw [Nat.beq_eq]; omega
 simp only [ak, hd]
 exact f
theorem ak.wr {c : Nat} {o : Oper} {T : Nat → PV} {H H' : List Ob} {x : PV} (hc : aZ c = true) (f : ak P B ops c o T H x H') : ∃ ob E, H' = H.set (al c) ob ++ E := by
 simp only [aZ, Bool.and_eq_true, Nat.ble_eq, Nat.beq_eq] at hc
 obtain ⟨d, rfl⟩ : ∃ d, c = d + 4 := ⟨c - 4, by omega⟩
 have hd : Nat.beq (d % 2) 0 = false := by rw [← Bool.not_eq_true, Nat.beq_eq]; omega
 simp only [ak, hd] at f
 exact f
theorem ak.of_wr {c : Nat} {o : Oper} {T : Nat → PV} {H H' : List Ob} {x : PV} (hc : aZ c = true) (f : ∃ ob E, H' = H.set (al c) ob ++ E) : ak P B ops c o T H x H' := by
 simp only [aZ, Bool.and_eq_true, Nat.ble_eq, Nat.beq_eq] at hc
 obtain ⟨d, rfl⟩ : ∃ d, c = d + 4 := ⟨c - 4, by omega⟩
 have hd : Nat.beq (d % 2) 0 = false := by rw [← Bool.not_eq_true, Nat.beq_eq]; omega
 simp only [ak, hd]
 exact f
def ck (P : Program) (B : Nat → Nat → Prop) (ops : Array Oper) (cl : Nat → Nat) (i : Nat) (K : (Nat → PV) → List Ob → Prop) (T : Nat → PV) (H : List Ob) : Prop :=
 match ops[i]? with
 | none => K T H
 | some o => ∃ x H', ay P B ops o T H x H' ∧ ak P B ops (cl i) o T H x H' ∧ K (updD o.dst x T) H'
def aB (P : Program) (B : Nat → Nat → Prop) (md : Region.Mode) (ops : Array Oper) (cl : Nat → Nat) (Q : (Nat → PV) → List Ob → Prop) : Nat → Array Bool → (Nat → PV) → List Ob → Prop
 | 0, listed, T, H => Region.ready md ops listed = [] ∧ Q T H
 | fuel + 1, listed, T, H => (Region.ready md ops listed = [] → Q T H) ∧ ∀ i ∈ Region.ready md ops listed, ck P B ops cl i (aB P B md ops cl Q fuel (listed.setIfInBounds i true)) T H
theorem aj (hall : dstsOk n ops = true) {Q' : Exit → Act → World → Prop} {Q : (Nat → PV) → List Ob → Prop} {H0 : List Ob} {σ0 : Nat → Option Nat} {w0 : World} (hQ : ∀ T H σ w a, Good B n T H σ w a → Step B H0 σ0 w0 H σ w → Q T H → Q' .normal a w) :
  ∀ (fuel : Nat) (listed : Array Bool) (T : Nat → PV) (H : List Ob) (σ : Nat → Option Nat) (w : World) (a : Act), Good B n T H σ w a → Step B H0 σ0 w0 H σ w → aB P B md ops cl Q fuel listed T H → wpAny P md ops Q' fuel listed a w
 | 0, _, _, _, _, _, _, g, st, h => ⟨h.1, hQ _ _ _ _ _ g st h.2⟩
 | fuel + 1, listed, T, H, σ, w, a, g, st, h => by
  refine ⟨fun h0 => hQ _ _ _ _ _ g st (h.1 h0), fun i hi => ?_⟩
  have h1 := h.2 i hi
  unfold ck at h1
  unfold wpOp
  cases ho : ops[i]? with
  | none => simp only [ho] at h1 ⊢; exact aj hall hQ fuel _ T H σ w a g st h1
  | some o =>
   simp only [ho] at h1 ⊢
   obtain ⟨x, H', hy, _, hk⟩ := h1
   have hd : ∀ j, o.dst = some j → Nat.blt j n = true := fun j hj => dstsOk_spec hall i j (by rw [ho]; exact hj)
   have hgd : ∀ q, wantedA ops T o = some q → Region.wanted o (yielded ops a.tmps) = q := fun q hq => guard_ok (dstsOk_spec hall) g hq
   rcases hy with ⟨hw, hdo | hdo⟩ | ⟨hw, rfl, rfl⟩
   ·rw [if_pos (hgd true hw)]
    refine .inl ?_
    obtain ⟨v, w', σ', h2, h3, h4, h5⟩ := hdo σ w a g.sim (fun y _ => rep_opv g.rep y)
    have k := aj hall hQ fuel _ _ _ σ' w' _ (good_put hd g h3 h4 h5) (st.trans h5) hk
    unfold Oper.wp
    rcases h2 with h2 | ⟨h2, rfl⟩
    ·rw [h2]; exact k
    ·rw [h2]; exact k
   ·rw [if_pos (hgd true hw)]
    refine .inl ?_
    obtain ⟨f, args, h2, hc⟩ := hdo σ w a g.sim (fun y _ => rep_opv g.rep y)
    unfold Oper.wp
    rw [h2]
    refine Calls.mono hc ?_
    rintro e w' ⟨v, σ', rfl, h3, h4, h5⟩
    exact aj hall hQ fuel _ _ _ σ' w' _ (good_put hd g h3 h4 h5) (st.trans h5) hk
   ·rw [if_neg (by rw [hgd false hw]; simp)]
    exact aj hall hQ fuel _ _ _ σ w _ (good_put hd g (rep_val _ _) g.sim (Step.refl _ _ _ _)) st hk
theorem cN {ci cj : Nat} {oi oj : Oper} {T : Nat → PV} {H Hi Hj : List Ob} {x y : PV} (hc : aw ci cj = true) (h1 : ∀ t ∈ oj.looksAt ops, updD oi.dst x T t = T t) (h2 : ∀ t ∈ oi.looksAt ops, updD oj.dst y T t = T t)
  (yi : ay P B ops oi T H x Hi) (fi : ak P B ops ci oi T H x Hi) (yj : ay P B ops oj (updD oi.dst x T) Hi y Hj) (fj : ak P B ops cj oj (updD oi.dst x T) Hi y Hj) :
  ∃ H', ay P B ops oj T H y H' ∧ ak P B ops cj oj T H y H' ∧ ay P B ops oi (updD oj.dst y T) H' x Hj ∧ ak P B ops ci oi (updD oj.dst y T) H' x Hj := by
 have b1 : ∀ t ∈ oj.looksAt ops, T t = updD oi.dst x T t := fun t ht => (h1 t ht).symm
 have yj' := yj.congr b1
 have fj' := fj.congr b1
 simp only [aw, Bool.or_eq_true, Bool.and_eq_true, Nat.beq_eq, Nat.ble_eq] at hc
 rcases hc with ((rfl | rfl) | ⟨rfl, hj⟩) | ⟨hr, hj⟩
 ·obtain ⟨rfl, hl⟩ := fi
  exact ⟨Hj, yj', fj', (hl Hj).congr h2, rfl, fun H2 => (hl H2).congr h2⟩
 ·obtain ⟨rfl, hl⟩ := fj'
  exact ⟨H, hl H, ⟨rfl, hl⟩, yi.congr h2, fi.congr h2⟩
 ·obtain ⟨rfl, hl⟩ := fi
  have : ∃ E, Hj = Hi ++ E := by
   match cj, hj, fj' with
   | 0, _, fj' => exact ⟨[], by rw [fj'.1]; simp⟩
   | 1, _, fj' => exact ⟨[], by rw [fj'.1]; simp⟩
   | 2, _, fj' => exact fj'
   | c + 3, hj, _ => omega
  obtain ⟨E, rfl⟩ := this
  exact ⟨Hi ++ E, yj', fj', (hl E).congr h2, rfl, fun E2 => by rw [List.append_assoc]; exact (hl (E ++ E2)).congr h2⟩
 ·obtain ⟨rfl, hlt, hl⟩ := fi.rd hr
  have key : Hj[al ci]? = Hi[al ci]? ∧ al ci < Hj.length := by
   rcases hj with (hj | hj) | ⟨hj, hne⟩
   ·have : ∃ E, Hj = Hi ++ E := by
     match cj, hj, fj' with
     | 0, _, fj' => exact ⟨[], by rw [fj'.1]; simp⟩
     | 1, _, fj' => exact ⟨[], by rw [fj'.1]; simp⟩
     | 2, _, fj' => exact fj'
     | c + 3, hj, _ => omega
    obtain ⟨E, rfl⟩ := this
    exact ⟨List.getElem?_append_left hlt, by simp; omega⟩
   ·obtain ⟨rfl, _⟩ := fj'.rd hj
    exact ⟨rfl, hlt⟩
   ·obtain ⟨ob, E, rfl⟩ := fj'.wr hj
    refine ⟨?_, by simp; omega⟩
    rw [List.getElem?_append_left (by simpa using hlt)]
    refine List.getElem?_set_ne ?_
    intro h; rw [h] at hne; simp at hne
  exact ⟨Hj, yj', fj', (hl Hj key.1).congr h2, ak.of_rd hr ⟨rfl, key.2, fun H2 h3 => (hl H2 (h3.trans key.1)).congr h2⟩⟩
def ah (P : Program) (B : Nat → Nat → Prop) (n : Nat) (ops : Array Oper) (cl : Nat → Nat) : List Nat → (Nat → PV) → List Ob → ((Nat → PV) → List Ob → Prop) → Prop
 | [], T, H, K => K T H
 | i :: l, T, H, K => ∃ o, ops[i]? = some o ∧ ∃ x H', ay P B ops o T H x H' ∧ ak P B ops (cl i) o T H x H' ∧ ah P B n ops cl l (updD o.dst x T) H' K
def cy (l : List Nat) (i : Nat) : Nat := l.getD i 3
variable {T : Nat → PV} {H : List Ob} {Q : Exit → (Nat → PV) → List Ob → Prop}
variable {o : Oper} {l : List Nat} {i : Nat} {K : (Nat → PV) → List Ob → Prop} {x : PV} {H' : List Ob} {G : List (Nat × TD)} {p : Prop} {d : Option Tmp}
theorem aN (h : K T H) : ah P B n ops cl [] T H K := h
theorem bG (h0 : ops[i]? = some o) (hc : cl i = 0) (hd : nfD n o.dst = some d) (hw : wantedA ops T o = some true) (h : ∀ H2, Does P B o T H2 x H2) (k : ah P B n ops cl l (updD d x T) H K) : ah P B n ops cl (i :: l) T H K :=
 ⟨o, h0, x, H, .inl ⟨hw, .inl (h H)⟩, by rw [hc]; exact ⟨rfl, fun H2 => .inl ⟨hw, .inl (h H2)⟩⟩, (nfD_eq hd).1 ▸ k⟩
theorem ai (h0 : ops[i]? = some o) (hc : cl i = 0) (hd : nfD n o.dst = some d) (hw : wantedA ops T o = some true) (h : ∀ H2, DoesC P B o T H2 x H2) (k : ah P B n ops cl l (updD d x T) H K) : ah P B n ops cl (i :: l) T H K :=
 ⟨o, h0, x, H, .inl ⟨hw, .inr (h H)⟩, by rw [hc]; exact ⟨rfl, fun H2 => .inl ⟨hw, .inr (h H2)⟩⟩, (nfD_eq hd).1 ▸ k⟩
theorem cp (hG : tysOk P G = true) (h0 : ops[i]? = some o) (hc : cl i = 0) (hd : nfD n o.dst = some d) (hw : wantedA ops T o = some true) (h : ∀ H2, evS G T H2 o.type o.op = some (x, H2, p)) (hp : p) (k : ah P B n ops cl l (updD d x T) H K) : ah P B n ops cl (i :: l) T H K :=
 bG h0 hc hd hw (fun H2 => evOp_ok hG rfl (evS_ok (h H2)) hp) k
theorem cq (hG : tysOk P G = true) (h0 : ops[i]? = some o) (hc : cl i = 1) (hd : nfD n o.dst = some d) (hw : wantedA ops T o = some true) (h : ∀ E, evS G T (H ++ E) o.type o.op = some (x, H ++ E, p)) (hp : p) (k : ah P B n ops cl l (updD d x T) H K) : ah P B n ops cl (i :: l) T H K :=
 ⟨o, h0, x, H, .inl ⟨hw, .inl (by have := evOp_ok (P := P) (B := B) (o := o) hG rfl (evS_ok (h [])) hp; rwa [List.append_nil] at this)⟩, by rw [hc]; exact ⟨rfl, fun E => .inl ⟨hw, .inl (evOp_ok hG rfl (evS_ok (h E)) hp)⟩⟩, (nfD_eq hd).1 ▸ k⟩
theorem bp (hG : tysOk P G = true) (h0 : ops[i]? = some o) (hc : cl i = 3) (hd : nfD n o.dst = some d) (hw : wantedA ops T o = some true) (h : evN G T H o.type o.op = some (x, H', p)) (hp : p) (k : ah P B n ops cl l (updD d x T) H' K) : ah P B n ops cl (i :: l) T H K :=
 ⟨o, h0, x, H', .inl ⟨hw, .inl (evOp_ok hG rfl (evN_ok h) hp)⟩, by rw [hc]; trivial, (nfD_eq hd).1 ▸ k⟩
theorem bJ (d : Nat) {b : Bool} (hT : T d = .val (.bool b)) (h1 : b = true → ah P B n ops cl l (upd d (.val (.bool true)) T) H K) (h2 : b = false → ah P B n ops cl l (upd d (.val (.bool false)) T) H K) : ah P B n ops cl l T H K := by
 have e : ∀ q, b = q → upd d (.val (.bool q)) T = T := by
  rintro q rfl
  funext i
  by_cases hi : i = d
  ·subst hi; rw [upd_same, hT]
  ·rw [upd_other _ _ _ _ hi]
 cases hb : b with
 | true => have := h1 hb; rwa [e true hb] at this
 | false => have := h2 hb; rwa [e false hb] at this
theorem cb (d : Nat) {b : Bool} (hT : T d = .val (.bool b)) (hb : b = true) (h1 : ah P B n ops cl l (upd d (.val (.bool true)) T) H K) : ah P B n ops cl l T H K :=
 bJ d hT (fun _ => h1) (fun h => by rw [hb] at h; cases h)
theorem ao (d : Nat) {x y : PV} (hT : T d = x) (hxy : x = y) (h1 : ah P B n ops cl l (upd d y T) H K) : ah P B n ops cl l T H K := by
 have e : upd d y T = T := by
  funext i
  by_cases hi : i = d
  ·subst hi; rw [upd_same, hT, hxy]
  ·rw [upd_other _ _ _ _ hi]
 rwa [e] at h1
theorem bS (b : Nat) {ob : Ob} (h0 : ops[i]? = some o) (hc : cl i = 4 + 2 * b) (hd : nfD n o.dst = some d) (hw : wantedA ops T o = some true) (hb : H[b]? = some ob) (h : ∀ H2 : List Ob, H2[b]? = some ob → Does P B o T H2 x H2) (k : ah P B n ops cl l (updD d x T) H K) : ah P B n ops cl (i :: l) T H K := by
 have hk : al (4 + 2 * b) = b := by unfold al; omega
 exact ⟨o, h0, x, H, .inl ⟨hw, .inl (h H hb)⟩, by rw [hc]; exact ak.of_rd (by simp only [aQ, Bool.and_eq_true, Nat.ble_eq, Nat.beq_eq]; omega) ⟨rfl, by rw [hk]; exact lt_of_get hb, fun H2 h2 => .inl ⟨hw, .inl (h H2 (by rw [hk, hb] at h2; exact h2))⟩⟩, (nfD_eq hd).1 ▸ k⟩
theorem bh (b : Nat) {ob : Ob} {E : List Ob} (h0 : ops[i]? = some o) (hc : cl i = 5 + 2 * b) (hd : nfD n o.dst = some d) (hw : wantedA ops T o = some true) (h : Does P B o T H x (H.set b ob ++ E)) (k : ah P B n ops cl l (updD d x T) (H.set b ob ++ E) K) : ah P B n ops cl (i :: l) T H K := by
 have hk : al (5 + 2 * b) = b := by unfold al; omega
 exact ⟨o, h0, x, _, .inl ⟨hw, .inl h⟩, by rw [hc]; exact ak.of_wr (by simp only [aZ, Bool.and_eq_true, Nat.ble_eq, Nat.beq_eq]; omega) ⟨ob, E, by rw [hk]⟩, (nfD_eq hd).1 ▸ k⟩
end
section
variable {B : Nat → Nat → Prop} {n : Nat} {all ops : Array Oper} {cl : Nat → Nat} {i : Nat} {li : List Nat} {T : Nat → PV} {H H' : List Ob} {K : (Nat → PV) → List Ob → Prop} {Q : Exit → (Nat → PV) → List Ob → Prop} {l : List Oper} {o : Oper} {x : PV} {d : Option Tmp} {p : Prop}
theorem bi (k : ah Tryz.prog B n ops cl li (updD d x T) H K) (h0 : ops[i]? = some o := by exact rfl) (hc : cl i = 0 := by exact rfl) (hd : nfD n o.dst = some d := by exact rfl) (hw : wantedA ops T o = some true := by exact rfl) (h : ∀ H2, evS tys T H2 o.type o.op = some (x, H2, True) := by exact fun _ => rfl) : ah Tryz.prog B n ops cl (i :: li) T H K :=
 cp tG h0 hc hd hw h trivial k
theorem dt (k : ah Tryz.prog B n ops cl li (updD d x T) H K) (h0 : ops[i]? = some o := by exact rfl) (hc : cl i = 1 := by exact rfl) (hd : nfD n o.dst = some d := by exact rfl) (hw : wantedA ops T o = some true := by exact rfl) (h : ∀ E, evS tys T (H ++ E) o.type o.op = some (x, H ++ E, True) := by exact fun _ => rfl) : ah Tryz.prog B n ops cl (i :: li) T H K :=
 cq tG h0 hc hd hw h trivial k
end
section
variable {P : Program} {B : Nat → Nat → Prop} {n : Nat} {ops : Array Oper} {cl : Nat → Nat} {md : Region.Mode}
theorem aR {Q : (Nat → PV) → List Ob → Prop} {i : Nat} {oi : Oper} {x : PV} (hi : ops[i]? = some oi) (D : List Nat) (hDi : i ∈ D) (hD : ∀ j ∈ D, j ≠ i → ∃ oj e, ops[j]? = some oj ∧ e ∈ oj.after ∧ Region.binds md e = true ∧ e.on ∈ D) : ∀ (fuel : Nat) (listed : Array Bool) (T : Nat → PV) (H Hi : List Ob),
  (∀ j ∈ D, listed.getD j true = false) →
  (∀ j oj, ops[j]? = some oj → j ∉ D → listed.getD j true = false → oi.apart ops oj = true ∧ aw (cl i) (cl j) = true) →
  i ∈ Region.ready md ops listed → ay P B ops oi T H x Hi → ak P B ops (cl i) oi T H x Hi → aB P B md ops cl Q fuel (listed.setIfInBounds i true) (updD oi.dst x T) Hi → aB P B md ops cl Q (fuel + 1) listed T H := by
 intro fuel
 have self : ∀ (fuel : Nat) (listed : Array Bool) (T : Nat → PV) (H Hi : List Ob), ay P B ops oi T H x Hi → ak P B ops (cl i) oi T H x Hi → aB P B md ops cl Q fuel (listed.setIfInBounds i true) (updD oi.dst x T) Hi → ck P B ops cl i (aB P B md ops cl Q fuel (listed.setIfInBounds i true)) T H := by
  intro fuel listed T H Hi hy hf h
  unfold ck
  simp only [hi]
  exact ⟨x, Hi, hy, hf, h⟩
 induction fuel with
 | zero =>
  intro listed T H Hi _ _ hr hy hf h
  refine ⟨fun h0 => (by rw [h0] at hr; cases hr), fun j hj => ?_⟩
  by_cases hji : j = i
  ·subst hji; exact self 0 listed T H Hi hy hf h
  ·have := ready_mono hj hji
   rw [h.1] at this
   cases this
 | succ fuel ih =>
  intro listed T H Hi hun0 hfree hr hy hf h
  refine ⟨fun h0 => (by rw [h0] at hr; cases hr), fun j hj => ?_⟩
  by_cases hji : j = i
  ·subst hji; exact self (fuel + 1) listed T H Hi hy hf h
  ·have h1 := h.2 j (ready_mono hj hji)
   obtain ⟨hjun, oj, hoj, hall⟩ := mem_ready.1 hj
   have hnot : j ∉ D := fun hjD => by
    obtain ⟨oj2, e, k1, k2, k3, k4⟩ := hD j hjD hji
    rw [hoj] at k1
    obtain rfl := Option.some.inj k1
    have a1 := hall e k2 k3
    have a0 := hun0 e.on k4
    rcases Nat.lt_or_ge e.on listed.size with h' | h'
    ·simp [h'] at a0 a1; rw [a0] at a1; cases a1
    ·simp [Array.getElem?_eq_none h'] at a1
   obtain ⟨hap, hcp⟩ := hfree j oj hoj hnot hjun
   obtain ⟨l1, l2, l3⟩ := apart_looks hap
   unfold ck at h1 ⊢
   simp only [hoj] at h1 ⊢
   obtain ⟨y, Hj, hyj, hfj, hk⟩ := h1
   obtain ⟨H', k1, k2, k3, k4⟩ := cN hcp (fun t ht => updD_look (l1 t ht)) (fun t ht => updD_look (l2 t ht)) hy hf hyj hfj
   refine ⟨y, H', k1, k2, ih (listed.setIfInBounds j true) _ H' Hj (fun k hk => ?_) (fun k ok hk hki hun => ?_) (ready_mono hr (Ne.symm hji)) k3 k4 ?_⟩
   ·rw [getD_set_ne true (by rintro rfl; exact hnot hk)]; exact hun0 k hk
   ·refine hfree k ok hk hki ?_
    by_cases hjk : j = k
    ·subst hjk; exact hjun
    ·rw [getD_set_ne true hjk] at hun; exact hun
   ·rw [Array.setIfInBounds_comm _ _ hji, updD_comm _ _ _ l3]
    exact hk
def bg (md : Region.Mode) (ops : Array Oper) : Nat → List Nat → List Nat
 | 0, D => D
 | k + 1, D => bg md ops k (D ++ ((ops.toList.zipIdx.filter fun q => !D.contains q.2 && (q.1.after.any fun e => Region.binds md e && D.contains e.on)).map (·.2)))
def bQ (md : Region.Mode) (ops : Array Oper) (cl : Nat → Nat) (listed : Array Bool) (i : Nat) (oi : Oper) (D : List Nat) : Bool :=
 D.contains i && (D.all fun j => Nat.beq j i || (match ops[j]? with | some oj => oj.after.any fun e => Region.binds md e && D.contains e.on | none => false)) && (D.all fun j => !listed.getD j true) &&
  ops.toList.zipIdx.all fun q => D.contains q.2 || listed.getD q.2 true || (oi.apart ops q.1 && aw (cl i) (cl q.2))
def aP (md : Region.Mode) (ops : Array Oper) (cl : Nat → Nat) : List Nat → Array Bool → Bool
 | [], listed => (Region.ready md ops listed).isEmpty
 | i :: l, listed => (Region.ready md ops listed).contains i && (match ops[i]? with | some oi => bQ md ops cl listed i oi (bg md ops 6 [i]) | none => false) && aP md ops cl l (listed.setIfInBounds i true)
theorem aG {Q : (Nat → PV) → List Ob → Prop} : ∀ (l : List Nat) (listed : Array Bool) (T : Nat → PV) (H : List Ob), aP md ops cl l listed = true → ah P B n ops cl l T H Q → aB P B md ops cl Q l.length listed T H
 | [], listed, T, H, hB, h => ⟨by simpa [aP] using hB, h⟩
 | i :: l, listed, T, H, hB, h => by
  simp only [aP, Bool.and_eq_true] at hB
  obtain ⟨⟨hr, hf⟩, hB'⟩ := hB
  obtain ⟨o, ho, x, H', hy, hfu, hK⟩ := h
  rw [ho] at hf
  simp only [bQ, Bool.and_eq_true] at hf
  obtain ⟨⟨⟨f1, f2⟩, f3⟩, f4⟩ := hf
  refine aR ho (bg md ops 6 [i]) (by simpa using f1) (fun j hj hji => ?_) l.length listed T H H' (fun j hj => ?_) (fun j oj hj hjD hun => ?_) (by simpa using hr) hy hfu (aG l _ _ _ hB' hK)
  ·have := List.all_eq_true.1 f2 j hj
   rw [Bool.or_eq_true, Nat.beq_eq] at this
   rcases this with h | h
   ·exact absurd h hji
   ·cases hoj : ops[j]? with
    | none => rw [hoj] at h; cases h
    | some oj =>
     rw [hoj] at h
     obtain ⟨e, he, h3⟩ := Array.any_eq_true'.1 h
     rw [Bool.and_eq_true] at h3
     exact ⟨oj, e, rfl, he, h3.1, by simpa using h3.2⟩
  ·have := List.all_eq_true.1 f3 j hj
   simpa using this
  ·have h1 := List.all_eq_true.1 f4 (oj, j) (zip_get (by rw [Array.getElem?_toList]; exact hj))
   simp only [Bool.or_eq_true, Bool.and_eq_true] at h1
   rcases h1 with (h1 | h1) | h1
   ·exact absurd (by simpa using h1) hjD
   ·rw [hun] at h1; cases h1
   ·exact h1
def bM (md : Region.Mode) (ops : Array Oper) (cl : List Nat) (ord : List Nat) : Bool := Nat.beq ord.length ops.size && aP md ops (cy cl) ord (Array.replicate ops.size false)
variable {T : Nat → PV} {H : List Ob} {Q : Exit → (Nat → PV) → List Ob → Prop}
theorem aD {id : Nat} (cl ord : List Nat) (hm : P.follows .mixedOrders = true) (hall : dstsOk n ops = true) (hB : bM .any ops cl ord = true) (h : ah P B n ops (cy cl) ord T H (fun T' H' => Q .normal T' H')) : W P B n (.region id ops true) T H Q := by
 intro σ w a g
 simp only [bM, Bool.and_eq_true, Nat.beq_eq] at hB
 refine wp_region_any hm ?_
 have hd : Grows w { w with drawn := w.drawn + 1 } := Grows.drew w
 obtain ⟨s', st⟩ := grow_sim g.sim hd
 have hA := aG (P := P) (B := B) (n := n) (md := .any) ord (Array.replicate ops.size false) T H hB.2 h
 rw [hB.1] at hA
 exact aj (P := P) (md := .any) hall (H0 := H) (σ0 := σ) (w0 := w) (Q' := Post B n H σ w Q) (fun T' H' σ' w' a' g' st' hq => ⟨T', H', σ', hq, g', st'⟩) ops.size _ T H σ _ a ⟨s', fun i => (g.rep i).mono st.le, g.size, g.defers⟩ st hA
theorem bI {o : Oper} {E : List Ob} {x : PV} {i : Nat} {l : List Nat} {d : Option Tmp} {K : (Nat → PV) → List Ob → Prop} (h0 : ops[i]? = some o) (hc : cl i = 2) (hd : nfD n o.dst = some d) (hw : wantedA ops T o = some true) (h : Does P B o T H x (H ++ E)) (k : ah P B n ops cl l (updD d x T) (H ++ E) K) : ah P B n ops cl (i :: l) T H K :=
 ⟨o, h0, x, H ++ E, .inl ⟨hw, .inl h⟩, by rw [hc]; exact ⟨E, rfl⟩, (nfD_eq hd).1 ▸ k⟩
end
end V3
set_option maxRecDepth 100000
set_option maxHeartbeats 4000000
def af (j : Nat) : List Int := (List.range j).map fun (i : Nat) => (i : Int)
theorem aU (j : Nat) : af (j + 1) = af j ++ [(j : Int)] := by unfold af; rw [List.range_succ, List.map_append]; rfl
@[simp] theorem c9 (j : Nat) : (af j).length = j := by simp [af]
def ab (j : Nat) : List Int := (List.range j).flatMap fun (i : Nat) => [40, (i : Int), 176, 40, (i : Int)]
def az (j : Nat) : List Int := (List.range j).flatMap fun _ => [184, 224]
theorem aM (j : Nat) : ab (j + 1) = ab j ++ [40, (j : Int), 176, 40, (j : Int)] := by unfold ab; rw [List.range_succ, List.flatMap_append]; rfl
theorem aV (j : Nat) : az (j + 1) = az j ++ [184, 224] := by unfold az; rw [List.range_succ, List.flatMap_append]; rfl
@[simp] theorem c8 (j : Nat) : (ab j).length = 5 * j := by
 induction j with
 | zero => rfl
 | succ j ih => rw [aM, List.length_append, ih]; simp; omega
@[simp] theorem di (j : Nat) : (az j).length = 2 * j := by
 induction j with
 | zero => rfl
 | succ j ih => rw [aV, List.length_append, ih]; simp; omega
def an (j : Nat) (n : Int) (z : Bool) : List Int := ab j ++ [40, n, 144] ++ (if z then az j else []) ++ [32]
def aE : List Int := [40, 1368, 136, 32]
def vC (j : Nat) (n : Int) (z : Bool) : VVm := laidZ (laidZ (stockS []) 1368 (an j n z)) 1800 aE
def gC (g : Int → Int) (j : Nat) (n : Int) (z : Bool) : Int → Int := aW (aO (aW (aO g 1368 256) 1368 (an j n z) (an j n z).length) 1800 256) 1800 aE 4
theorem aI {a b : List Int} (h : FitL a) (k : FitL b) : FitL (a ++ b) := fun x hx => by
 rw [List.mem_append] at hx; rcases hx with hx | hx; exact h x hx; exact k x hx
theorem bA {j : Nat} {n : Int} {z : Bool} (hj : j < 5) (hn : Fit64 n) : FitL (an j n z) := by
 unfold an
 have h1 : FitL (ab j) := by
  have : j = 0 ∨ j = 1 ∨ j = 2 ∨ j = 3 ∨ j = 4 := by omega
  rcases this with rfl | rfl | rfl | rfl | rfl <;> exact ax (by decide)
 have h2 : FitL (if z then az j else []) := by
  have : j = 0 ∨ j = 1 ∨ j = 2 ∨ j = 3 ∨ j = 4 := by omega
  rcases this with rfl | rfl | rfl | rfl | rfl <;> cases z <;> exact ax (by decide)
 have h3 : FitL [40, n, 144] := fun a ha => by
  simp only [List.mem_cons, List.not_mem_nil, or_false] at ha
  rcases ha with rfl | rfl | rfl
  ·unfold Fit64; omega
  ·exact hn
  ·unfold Fit64; omega
 exact aI (aI (aI h1 h3) h2) (ax (by decide))
theorem aL (j : Nat) (n : Int) (z : Bool) : (an j n z).length ≤ 7 * j + 4 := by unfold an; cases z <;> simp <;> omega
theorem cP {j : Nat} {n : Int} {z : Bool} (hj : j < 5) (hn : Fit64 n) : ae (vC j n z) 2048 (gC g0 j n z) :=
 (bB.laid (bA hj hn) (by decide) (by have := aL j n z; omega)).laid (ax (by decide)) (by decide) (by decide)
theorem sC2 {j : Nat} {n : Int} {z : Bool} : Std (gC g0 j n z) := Std.laid ((Std.laid (du.upd (by decide)) (by decide) _).upd (by decide)) (by decide) 4
structure ar (g : Int → Int) (j : Nat) (n : Int) (z : Bool) : Prop where
 a0 : g 1368 = 256
 junk : ∀ i : Nat, i < j → g (1376 + 40 * (i : Int)) = 40 ∧ g (1384 + 40 * (i : Int)) = i ∧ g (1392 + 40 * (i : Int)) = 176 ∧ g (1400 + 40 * (i : Int)) = 40 ∧ g (1408 + 40 * (i : Int)) = i
 mid : g (1376 + 40 * (j : Int)) = 40 ∧ g (1384 + 40 * (j : Int)) = n ∧ g (1392 + 40 * (j : Int)) = 144
 pops : z = true → (∀ i : Nat, i < j → g (1400 + 40 * (j : Int) + 16 * (i : Int)) = 184 ∧ g (1408 + 40 * (j : Int) + 16 * (i : Int)) = 224) ∧ g (1400 + 40 * (j : Int) + 16 * (j : Int)) = 32
 b0 : g 1800 = 256 ∧ g 1808 = 40 ∧ g 1816 = 1368 ∧ g 1824 = 136 ∧ g 1832 = 32
theorem bo (g : Int → Int) (j : Nat) (hj : j < 5) (n : Int) (z : Bool) : ar (gC g j n z) j n z := by
  have : j = 0 ∨ j = 1 ∨ j = 2 ∨ j = 3 ∨ j = 4 := by omega
  rcases this with rfl | rfl | rfl | rfl | rfl <;> cases z <;> refine ⟨by kernel_rfl, fun i hi => ?_, by and_intros <;> kernel_rfl, fun hz => ?_, by and_intros <;> kernel_rfl⟩
  all_goals first
    | (exfalso; omega)
    | (exfalso; cases hz; done)
    | (have q : i = 0 ∨ i = 1 ∨ i = 2 ∨ i = 3 := by omega
       rcases q with rfl | rfl | rfl | rfl <;> first | (exfalso; omega) | (and_intros <;> kernel_rfl))
    | (refine ⟨fun i hi => ?_, by kernel_rfl⟩
       have q : i = 0 ∨ i = 1 ∨ i = 2 ∨ i = 3 := by omega
       rcases q with rfl | rfl | rfl | rfl <;> first | (exfalso; omega) | (and_intros <;> kernel_rfl))
section
variable {v : VVm} {g : Int → Int} {d r : List Int} {f : List VFrame} {j : Nat} {n : Int} {z : Bool} {fu : Int}
theorem okL {a : Int} (h : 0 ≤ a ∧ a % 8 = 0 ∧ a + 8 ≤ 2048 := by omega) : okA 2048 a = true := ag.2 h
theorem gEq {g : Int → Int} {a b x : Int} (h : g a = x) (e : b = a := by omega) : g b = x := by rw [e, h]
theorem bP (M : ae v 2048 g) (S : Std g) (C : ar g j n z) (hj : j < 5) (hd : d.length + j ≤ 16) (hr : r.length + j ≤ 16) (hf : 100 ≤ fu ∧ fu ≤ 1000) :
  ∀ i : Nat, i ≤ j → GoN (3 * i) (mr v d r f 1376 fu) (mr v (d ++ af i) (r ++ af i) f (1376 + 40 * (i : Int)) (fu - 3 * (i : Int)))
 | 0, _ => by
  show GoN 0 _ (mr v (d ++ []) (r ++ []) f 1376 (fu - 0))
  rw [List.append_nil, List.append_nil, Int.sub_zero]; exact .nil _
 | i + 1, hi => by
  have ih := bP M S C hj hd hr hf i (by omega)
  obtain ⟨h1, h2, h3, h4, h5⟩ := C.junk i (by omega)
  have key := ih.trans (.cons (bf M S (by omega) okL h1 okL (gEq h2) (by simp; omega)) (.cons (bD M S 18 (by decide) (by omega) okL (gEq h3) (dc M (by simp; omega))) (.one (bf M S (by omega) okL (gEq h4) okL (gEq h5) (by simp; omega)))))
  rw [List.append_assoc, List.append_assoc, ← aU, show 1376 + 40 * (i : Int) + 16 + 8 + 16 = 1376 + 40 * ((i + 1 : Nat) : Int) by omega, show fu - 3 * (i : Int) - 1 - 1 - 1 = fu - 3 * ((i + 1 : Nat) : Int) by omega] at key
  rw [show 3 * (i + 1) = 0 + 1 + 1 + 1 + 3 * i by omega]
  exact key
theorem cE {u : VVm} {x : Int} (hc : u.conf.data = 32) (hd : d.length < 32) : doS (mk u (d ++ [x]) r f) 24 = (mk u d r f, 0) := by
 have e : doS (mk u (d ++ [x]) r f) 24 = ({ mk u (d ++ [x]) r f with d := (shuffleS [68, 82, 79, 80] (d ++ [x]) u.conf.data).1 }, (shuffleS [68, 82, 79, 80] (d ++ [x]) u.conf.data).2.2) := by kernel_rfl
 have e2 : shuffleS [68, 82, 79, 80] (d ++ [x]) u.conf.data = (d, true, 0) := by
  rw [shuffle_of (tk := 1) (lv := []) rfl rfl, if_neg (by simp)]
  unfold stkLaid
  rw [hc, if_neg (by simp; omega)]
  simp
 rw [e, e2]; rfl
theorem ce (M : ae v 2048 g) (S : Std g) (C : ar g j n true) (hj : j < 5) (hd : d.length < 16) (hf : 50 ≤ fu ∧ fu ≤ 1000) :
  ∀ i k : Nat, i + k = j → GoN (2 * i) (mr v d (r ++ af j) f (1400 + 40 * (j : Int)) fu) (mr v d (r ++ af k) f (1400 + 40 * (j : Int) + 16 * (i : Int)) (fu - 2 * (i : Int)))
 | 0, k, hk => by
  have : k = j := by omega
  subst this
  show GoN 0 _ (mr v d (r ++ af k) f (1400 + 40 * (k : Int) + 0) (fu - 0))
  rw [Int.add_zero, Int.sub_zero]; exact .nil _
 | i + 1, k, hk => by
  have ih := ce M S C hj hd hf i (k + 1) (by omega)
  obtain ⟨h1, h2⟩ := (C.pops rfl).1 i (by omega)
  rw [aU, ← List.append_assoc] at ih
  have key := ih.trans (.cons (bD M S 19 (by decide) (by omega) okL h1 (cD M (by omega))) (.one (bD M S 24 (by decide) (by omega) okL (gEq h2) (cX (by decide) (by decide) (cE M.data (by omega))))))
  rw [show 1400 + 40 * (j : Int) + 16 * (i : Int) + 8 + 8 = 1400 + 40 * (j : Int) + 16 * ((i + 1 : Nat) : Int) by omega, show fu - 2 * (i : Int) - 1 - 1 = fu - 2 * ((i + 1 : Nat) : Int) by omega] at key
  rw [show 2 * (i + 1) = 0 + 1 + 1 + 2 * i by omega]
  exact key
theorem aX (M : ae v 2048 g) (S : Std g) (C : ar g j n z) (hj : j < 5) (hd : d.length ≤ 10) :
  GoN (3 * j + 5) (beginS (mk v d [] []) 1800 200) (mr v (d ++ af j ++ [n]) ([16] ++ [24] ++ af j) [⟨(d.length : Int), 1, 1832⟩] (1392 + 40 * (j : Int)) (195 - 3 * (j : Int))) := by
 obtain ⟨b0, b1, b2, b3, b4⟩ := C.b0
 have a1 : Go1 (beginS (mk v d [] []) 1800 200) (mr v d ([] ++ [16]) [] 1808 199) := bl (v := v) (r := []) M (by decide) (by decide) b0 (by decide)
 have a2 : Go1 (mr v d ([] ++ [16]) [] 1808 199) (mr v (d ++ [1368]) ([] ++ [16]) [] 1824 198) := bf M S (by decide) (by decide) b1 (by decide) b2 (by omega)
 have a3 : Go1 (mr v (d ++ [1368]) ([] ++ [16]) [] 1824 198) (mw v d ([] ++ [16]) [⟨(d.length : Int), 1, 1832⟩] 24 1368 197) := dh M S 13 (by decide) (by decide) (by decide) b3 (cB (f := []) (by decide))
 have a4 : Go1 (mw v d ([] ++ [16]) [⟨(d.length : Int), 1, 1832⟩] 24 1368 197) (mr v d ([16] ++ [24]) [⟨(d.length : Int), 1, 1832⟩] 1376 196) := bl M (by decide) (by decide) C.a0 (by decide)
 have a5 := bP (r := [16] ++ [24]) (f := [⟨(d.length : Int), 1, 1832⟩]) (fu := 196) M S C hj (d := d) (by omega) (by simp; omega) (by decide) j (Nat.le_refl _)
 obtain ⟨m1, m2, m3⟩ := C.mid
 have a6 : Go1 (mr v (d ++ af j) ([16] ++ [24] ++ af j) [⟨(d.length : Int), 1, 1832⟩] (1376 + 40 * (j : Int)) (196 - 3 * (j : Int))) (mr v (d ++ af j ++ [n]) ([16] ++ [24] ++ af j) [⟨(d.length : Int), 1, 1832⟩] (1376 + 40 * (j : Int) + 16) (196 - 3 * (j : Int) - 1)) :=
  bf M S (by omega) okL m1 okL (gEq m2) (by simp; omega)
 have key := GoN.cons a1 (.cons a2 (.cons a3 (.cons a4 (a5.trans (.one a6)))))
 rw [show 1376 + 40 * (j : Int) + 16 = 1392 + 40 * (j : Int) by omega, show 196 - 3 * (j : Int) - 1 = 195 - 3 * (j : Int) by omega] at key
 rw [show 3 * j + 5 = 1 + 3 * j + 1 + 1 + 1 + 1 by omega]
 exact key
theorem aY (M : ae v 2048 g) (S : Std g) (C : ar g j n z) (hf : 10 ≤ fu ∧ fu ≤ 1000) :
  Go1 (mr v d ([] ++ [16]) [] 1832 fu) (mr v d [] [] 16 (fu - 1)) ∧ stepS (mr v d [] [] 16 (fu - 1)) = (mr v d [] [] 24 (fu - 1 - 1), true, 0) :=
 ⟨bR M S (by omega) (by decide) C.b0.2.2.2.2, cK M S (by omega)⟩
theorem ca (M : ae v 2048 g) (S : Std g) (C : ar g j n z) (hj : j < 5) (hd : d.length ≤ 10) (hn : n ≠ 0) :
  ∃ x fl, runNS (mk v d [] []) 1800 200 = (endV (mk x (d ++ [n]) [] []), fl, 0) := by
 have a1 := aX M S C hj hd
 obtain ⟨m1, m2, m3⟩ := C.mid
 have a2 : Go1 (mr v (d ++ af j ++ [n]) ([16] ++ [24] ++ af j) [⟨(d.length : Int), 1, 1832⟩] (1392 + 40 * (j : Int)) (195 - 3 * (j : Int))) (mr v (d ++ [n]) ([] ++ [16]) [] 1832 (195 - 3 * (j : Int) - 1)) := by
  unfold Go1
  rw [bL M (by omega) okL (m3.trans (show (144 : Int) = 32 + 8 * ((14 : Nat) : Int) from rfl)) (aK M (by decide)) (S.prim 14 (by decide)) (aq (by decide))]
  have hb := cM (v := v) (d := d ++ af j) (r := [16] ++ [24] ++ af j) (f := [⟨(d.length : Int), 1, 1832⟩]) (ip := 1392 + 40 * (j : Int) + 8) (xt := 32 + 8 * ((14 : Nat) : Int)) hn
  have hcg := bY (v := v) (L := 2048) (g := g) (d := d ++ af j ++ [n]) (r := [16] ++ [24] ++ af j) (f := []) (fr := ⟨(d.length : Int), 1, 1832⟩) (ip := 1392 + 40 * (j : Int) + 8) (fu := 195 - 3 * (j : Int) - 1) (e0 := n) (nd := d.length) (nr := 1) M rfl rfl (by simp only [List.length_append]; omega) (by simp only [List.length_append]; show 1 ≤ 1 + 1 + _; omega) (by omega) (by decide)
  unfold bZ
  rw [show ((14 : Nat) : Int) = 14 from rfl] at hb ⊢
  rw [hb, if_neg hn]
  rw [show ([⟨(d.length : Int), 1, 1832⟩] : List VFrame) = [] ++ [⟨(d.length : Int), 1, 1832⟩] from rfl, hcg]
  rw [List.append_assoc, List.take_left' rfl]
  rfl
 obtain ⟨a3, a4⟩ := aY (d := d ++ [n]) (fu := 195 - 3 * (j : Int) - 1) M S C (by omega)
 exact ⟨v, _, bj (a1.trans (.cons a2 (.one a3))) a4 (by decide) (by omega)⟩
theorem bH (M : ae v 2048 g) (S : Std g) (C : ar g j 0 true) (hj : j < 5) (hd : d.length ≤ 10) :
  ∃ x fl, runNS (mk v d [] []) 1800 200 = (endV (mk x (d ++ af j ++ [0]) [] []), fl, 0) := by
 have a1 := aX M S C hj hd
 obtain ⟨m1, m2, m3⟩ := C.mid
 have a2 : Go1 (mr v (d ++ af j ++ [0]) ([16] ++ [24] ++ af j) [⟨(d.length : Int), 1, 1832⟩] (1392 + 40 * (j : Int)) (195 - 3 * (j : Int))) (mr v (d ++ af j) ([16] ++ [24] ++ af j) [⟨(d.length : Int), 1, 1832⟩] (1392 + 40 * (j : Int) + 8) (195 - 3 * (j : Int) - 1)) :=
  bD M S 14 (by decide) (by omega) okL m3 co
 have a3 := ce (d := d ++ af j) (r := [16] ++ [24]) (f := [⟨(d.length : Int), 1, 1832⟩]) (fu := 194 - 3 * (j : Int)) M S C hj (by simp; omega) (by omega) j 0 (by omega)
 have hp := (C.pops rfl).2
 have a4 : Go1 (mr v (d ++ af j) ([16] ++ [24]) [⟨(d.length : Int), 1, 1832⟩] (1400 + 40 * (j : Int) + 16 * (j : Int)) (194 - 3 * (j : Int) - 2 * (j : Int))) (mr v (d ++ af j) [16] [⟨(d.length : Int), 1, 1832⟩] 24 (194 - 3 * (j : Int) - 2 * (j : Int) - 1)) :=
  bR M S (by omega) okL hp
 have a5 : Go1 (mr v (d ++ af j) [16] [⟨(d.length : Int), 1, 1832⟩] 24 (194 - 3 * (j : Int) - 2 * (j : Int) - 1)) (mr v (d ++ af j ++ [0]) ([] ++ [16]) [] 1832 (194 - 3 * (j : Int) - 2 * (j : Int) - 1 - 1)) :=
  bD M S 9 (by decide) (by omega) (by decide) S.c24 (cz (f := []) M (by simp; omega))
 obtain ⟨a6, a7⟩ := aY (d := d ++ af j ++ [0]) (fu := 194 - 3 * (j : Int) - 2 * (j : Int) - 1 - 1) M S C (by omega)
 rw [show 1392 + 40 * (j : Int) + 8 = 1400 + 40 * (j : Int) by omega, show 195 - 3 * (j : Int) - 1 = 194 - 3 * (j : Int) by omega] at a2
 have e0 : ([16] ++ [24] ++ af 0 : List Int) = [16] ++ [24] := rfl
 rw [e0] at a3
 exact ⟨v, _, bj (a1.trans (.cons a2 (a3.trans (.cons a4 (.cons a5 (.one a6)))))) a7 (by decide) (by omega)⟩
end
open Go.WideShapes
set_option maxRecDepth 100000
set_option maxHeartbeats 8000000
theorem bc {a b : Int} (h : a = b) : PV.val (Value.int .i64 a) = .val (.int .i64 b) := by rw [h]
theorem cF (i : Int) : [xtS [40, 108, 105, 116, 41], i, xtS [62, 82], xtS [40, 108, 105, 116, 41], i] = [40, i, 176, 40, i] := by kernel_rfl
theorem cm (n : Int) : [xtS [40, 108, 105, 116, 41], n, xtS [84, 72, 82, 79, 87]] = [40, n, 144] := by kernel_rfl
theorem cW : [xtS [82, 62], xtS [68, 82, 79, 80]] = [184, 224] := by kernel_rfl
theorem cJ : [xtS [40, 101, 120, 105, 116, 41]] = [32] := by kernel_rfl
theorem cw : [xtS [40, 108, 105, 116, 41], 1368, xtS [67, 65, 84, 67, 72], xtS [40, 101, 120, 105, 116, 41]] = aE := by kernel_rfl
theorem bV {i : Nat} {q : SK} : PV.seq (ab i ++ [xtS [40, 108, 105, 116, 41], (i : Int), xtS [62, 82], xtS [40, 108, 105, 116, 41], (i : Int)]).length ((ab i ++ [xtS [40, 108, 105, 116, 41], (i : Int), xtS [62, 82], xtS [40, 108, 105, 116, 41], (i : Int)]).flatMap cInt) q = .seq (ab (i + 1)).length ((ab (i + 1)).flatMap cInt) q := by
 rw [cF, ← aM]
theorem bT {l : List Int} {i : Nat} {q : SK} : PV.seq ((l ++ az i) ++ [xtS [82, 62], xtS [68, 82, 79, 80]]).length (((l ++ az i) ++ [xtS [82, 62], xtS [68, 82, 79, 80]]).flatMap cInt) q = .seq (l ++ az (i + 1)).length ((l ++ az (i + 1)).flatMap cInt) q := by
 rw [cW, aV, List.append_assoc]
theorem cg {j : Nat} {n : Int} {q : SK} : PV.seq (ab j ++ [xtS [40, 108, 105, 116, 41], n, xtS [84, 72, 82, 79, 87]]).length ((ab j ++ [xtS [40, 108, 105, 116, 41], n, xtS [84, 72, 82, 79, 87]]).flatMap cInt) q = .seq (ab j ++ [40, n, 144]).length ((ab j ++ [40, n, 144]).flatMap cInt) q := by
 rw [cm]
def av (j : Nat) (n : Int) : List Int := ab j ++ [40, n, 144] ++ (if decide (n = 0) then az j else [])
theorem da {j k : Nat} {n : Int} {q : SK} (hk : k = j) (h : n = 0) : PV.seq (ab j ++ [40, n, 144] ++ az k).length ((ab j ++ [40, n, 144] ++ az k).flatMap cInt) q = .seq (av j n).length ((av j n).flatMap cInt) q := by
 unfold av; rw [if_pos (decide_eq_true h), hk]
theorem dr {j : Nat} {n : Int} {q : SK} (h : ¬ n = 0) : PV.seq (ab j ++ [40, n, 144]).length ((ab j ++ [40, n, 144]).flatMap cInt) q = .seq (av j n).length ((av j n).flatMap cInt) q := by
 unfold av; rw [if_neg (by simpa using h), List.append_nil]
theorem cH (j : Nat) (n : Int) : (av j n).length ≤ 7 * j + 3 := by unfold av; split <;> simp <;> omega
theorem cT {j : Nat} {n : Int} {q : SK} : PV.seq (av j n ++ [xtS [40, 101, 120, 105, 116, 41]]).length ((av j n ++ [xtS [40, 101, 120, 105, 116, 41]]).flatMap cInt) q = .seq (an j n (decide (n = 0))).length ((an j n (decide (n = 0))).flatMap cInt) q := by
 rw [cJ]; rfl
theorem bt {j : Nat} {n : Int} {z : Bool} {d : List Int} (hd : d.length ≤ 10) (hf : FitL d) : GoodM 0 (mk (vC j n z) d [] []) :=
 bW (v := vC j n z) (laid_good (laid_good (stock_goodM (by decide) fitL_nil) 1368 (an j n z)) 1800 aE) rfl (by omega) hf
theorem cG (cells : List Int) : (laidZ (stockS []) 1368 cells).mem.b.length ≤ 65536 := (laid_good (stock_goodM (by decide) fitL_nil) 1368 cells).x.b
theorem aF (a : Addr) (d : List Int) (hf : FitL d) (hdl : d.length ≤ 9223372036854775807) (n : Int) (hn : Fit64 n) (junk : Nat) (hj0 : junk < 256) : ∀ (H : List Ob), (∀ o ∈ globs a, ∃ k : Nat, H[k]? = some o) → HC Tryz.prog 7 [sq cInt d, i64 n, .val (.int .u8 (junk : Int))] H (boo true) H := by
 obtain ⟨j, hj⟩ : ∃ j : Nat, junk % 5 = j := ⟨_, rfl⟩
 have hj5 : j < 5 := by omega
 have w1 : (IntKind.i64.wrap (junk : Int)).tmod 5 = (j : Int) := by
  rw [be (n := (junk : Int)) (by unfold Fit64; omega), show (junk : Int).tmod 5 = ((junk % 5 : Nat) : Int) from cu 5, hj]
 refine pureG_of_WR (globs_ok a) tG (rs := [.tmp 6]) Tryz.func7 rfl rfl rfl (by simp) (by simp) (fun B => ?_)
 refine zu1 ?_
 refine z8 ?_
 refine Wc rfl rfl (dC rfl Tryz.func11 rfl rfl (lawI_shown a _ (globs_at 0 1 rfl rfl))) ?_
 refine zs1 ?_
 refine Ws ?_
 refine zu3 ?_
 refine Wi rfl (fun hi1 => ?_) (fun hi1 => ?_)
 ·refine zu2 ?_
  refine zR ?_
  rfl
 ·have hd : d.length ≤ 10 := by have := oF hi1; omega
  obtain ⟨R, hR, e1, et, ef, e3, e4⟩ : ∃ R : VVm × Int × Int, runNS (mk (vC j n (decide (n = 0))) d [] []) 1800 200 = R ∧ R.2.2 = 0 ∧ (n = 0 → R.1.d = d ++ af j ++ [0]) ∧ (¬ n = 0 → R.1.d = d ++ [n]) ∧ R.1.r.length = 0 ∧ R.1.f.length = 0 := by
   by_cases h : n = 0
   ·subst h
    obtain ⟨x, fl, h⟩ := bH (cP hj5 hn) sC2 (bo g0 j hj5 0 true) hj5 hd
    exact ⟨_, h, rfl, fun _ => rfl, fun h => absurd rfl h, rfl, rfl⟩
   ·obtain ⟨x, fl, h2⟩ := ca (cP hj5 hn) sC2 (bo g0 j hj5 n (decide (n = 0))) hj5 hd h
    exact ⟨_, h2, rfl, fun h3 => absurd h3 h, fun _ => rfl, rfl, rfl⟩
  have p7 := inner_Run a (mk (vC j n (decide (n = 0))) d [] []) 1800 200 0 (bt hd hf) (by unfold Fit64; omega) (by decide) (by decide)
  rw [hR] at p7
  clear hR
  refine Wj ?_
  refine z8 ?_
  refine Wc rfl rfl (dC rfl Tryz.func25 rfl rfl ((law_fresh) _)) ?_
  refine zs2 ?_
  refine zp1 ?_
  refine Wa 21 rfl ((show PV.seq 0 _ .clip = .seq (List.length (ab 0)) (List.flatMap cInt (ab 0)) .clip from rfl)) ?_
  refine z1 ?_
  refine WO_own 9 0 1 rfl rfl ?_
  refine Wn ?_
  refine Ws ?_
  refine zu1 ?_
  refine Wl ?_
  show W _ _ _ _ _ _ _
  refine W_loopS (fun (i : Nat) => [(0, sq cInt d), (1, i64 n), (2, .val (.int .u8 (junk : Int))), (7, boo true), (8, .ptr 2 0), (9, .seq (ab i).length ((ab i).flatMap cInt) (.own 4 1)), (10, i64 i)]) (fun (i : Nat) => [.glob 0 (haltV a), .glob 1 etV, .cells (cVm (stockS [])) 36, .dead]) (fun (i : Nat) => [.free ((ab i).length * 1)]) (fun (i : Nat) => i ≤ j) (fun (i : Nat) => j - i) (0) (by omega) [3] ?_ ?_
  ·exact fitT
  ·intro i hi
   refine Ws ?_
   refine zp4 ?_
   refine Wa 25 rfl (bc w1) ?_
   refine zs1 ?_
   refine Wi rfl (fun hi2 => ?_) (fun hi2 => ?_)
   ·have hlt : i < j := by have := oT hi2; omega
    refine Wj ?_
    refine Ws ?_
    refine Wl ?_
    refine W_region rfl ?_
    refine z1 ?_
    refine Wc rfl rfl (dC rfl Tryz.func26 rfl rfl ((ref_Xt _) _)) ?_
    refine z1 ?_
    refine Wc rfl rfl (dC rfl Tryz.func26 rfl rfl ((ref_Xt _) _)) ?_
    refine Wc rfl rfl (dC rfl Tryz.func26 rfl rfl ((ref_Xt _) _)) ?_
    refine zy2 ?_
    refine Wa 35 rfl (bsL cInt [_, _, _, _, _] rfl rfl) ?_
    refine Wd rfl rfl (does_append_own (lO tG rfl) rfl (lO tG rfl) (lO tG rfl) rfl rfl rfl rfl (by simp) (by exact ⟨_, rfl⟩) (by exact ⟨rfl, rfl, flatMap_len _ 1 (fun _ => rfl) _, okC_flat _ (fun _ => rfl) _⟩) (by simp; omega) (by simp; omega)) ?_
    refine Wa 36 rfl (sq_append cInt) ?_
    refine z1 ?_
    skip
    refine Wn ?_
    refine W_region rfl ?_
    refine zs3 ?_
    exact ⟨i + 1, [5], (by omega), (by omega), (fitT (sub := by repeat (first | exact subL_nil | refine subL_cons (by first | exact imp_of rfl | exact imp_of bV | exact imp_of (congrArg i64 (by (rw [i64w]; unfold wrap64; omega)))) ?_)))⟩
   ·have hij : i = j := by have := oF hi2; omega
    subst hij
    have hpl := cH i n
    refine W_exit ?_
    refine zp1 ?_
    refine Wc rfl rfl (dC rfl Tryz.func26 rfl rfl ((ref_Xt _) _)) ?_
    refine z1 ?_
    refine Wc rfl rfl (dC rfl Tryz.func26 rfl rfl ((ref_Xt _) _)) ?_
    refine z1 ?_
    refine Wa 41 rfl (bsL cInt [_, _, _] rfl rfl) ?_
    refine Wd rfl rfl (does_append_own (lO tG rfl) rfl (lO tG rfl) (lO tG rfl) rfl rfl rfl rfl (by simp) (by exact ⟨_, rfl⟩) (by exact ⟨rfl, rfl, flatMap_len _ 1 (fun _ => rfl) _, okC_flat _ (fun _ => rfl) _⟩) (by simp; omega) (by simp; omega)) ?_
    refine Wa 42 rfl (sq_append cInt) ?_
    refine Wa 42 rfl (cg) ?_
    refine z1 ?_
    skip
    refine Wn ?_
    refine W_meet [(0, sq cInt d), (1, i64 n), (2, .val (.int .u8 (junk : Int))), (7, boo true), (8, .ptr 2 0), (9, .seq (av i n).length ((av i n).flatMap cInt) (.own 6 1))] [.glob 0 (haltV a), .glob 1 etV, .cells (cVm (stockS [])) 36, .dead, .dead, .dead] [.free ((av i n).length * 1)] ?_ ?_
    ·refine zu2 ?_
     refine Wi rfl (fun hi3 => ?_) (fun hi3 => ?_)
     ·have h0 : n = 0 := by simpa using hi3
      refine zu1 ?_
      refine Wl ?_
      show W _ _ _ _ _ _ _
      refine W_loopS (fun (k : Nat) => [(0, sq cInt d), (1, i64 n), (2, .val (.int .u8 (junk : Int))), (7, boo true), (8, .ptr 2 0), (9, .seq (ab i ++ [40, n, 144] ++ az k).length ((ab i ++ [40, n, 144] ++ az k).flatMap cInt) (.own 6 1)), (11, i64 k)]) (fun (k : Nat) => [.glob 0 (haltV a), .glob 1 etV, .cells (cVm (stockS [])) 36, .dead, .dead, .dead]) (fun (k : Nat) => [.free ((ab i ++ [40, n, 144] ++ az k).length * 1)]) (fun (k : Nat) => k ≤ i) (fun (k : Nat) => i - k) (0) (by omega) [5] ?_ ?_
      ·exact (fitT (sub := by repeat (first | exact subL_nil | refine subL_cons (by first | exact imp_of rfl | exact imp_of (by show PV.seq _ _ _ = PV.seq (ab i ++ [40, n, 144] ++ []).length ((ab i ++ [40, n, 144] ++ []).flatMap cInt) _; rw [List.append_nil]; rfl)) ?_)))
      ·intro k hk
       refine Ws ?_
       refine zp4 ?_
       refine Wa 48 rfl (bc w1) ?_
       refine zs1 ?_
       refine Wi rfl (fun hi4 => ?_) (fun hi4 => ?_)
       ·have hkt : k < i := by have := oT hi4; omega
        refine Wj ?_
        refine Ws ?_
        refine Wl ?_
        refine W_region rfl ?_
        refine z1 ?_
        refine Wc rfl rfl (dC rfl Tryz.func26 rfl rfl ((ref_Xt _) _)) ?_
        refine Wc rfl rfl (dC rfl Tryz.func26 rfl rfl ((ref_Xt _) _)) ?_
        refine z1 ?_
        refine Wa 55 rfl (bsL cInt [_, _] rfl rfl) ?_
        refine Wd rfl rfl (does_append_own (lO tG rfl) rfl (lO tG rfl) (lO tG rfl) rfl rfl rfl rfl (by simp) (by exact ⟨_, rfl⟩) (by exact ⟨rfl, rfl, flatMap_len _ 1 (fun _ => rfl) _, okC_flat _ (fun _ => rfl) _⟩) (by simp; omega) (by simp; omega)) ?_
        refine Wa 56 rfl (sq_append cInt) ?_
        refine z1 ?_
        skip
        refine Wn ?_
        refine W_region rfl ?_
        refine zs3 ?_
        exact ⟨k + 1, [7], (by omega), (by omega), (fitT (sub := by repeat (first | exact subL_nil | refine subL_cons (by first | exact imp_of rfl | exact imp_of bT | exact imp_of (congrArg i64 (by (rw [i64w]; unfold wrap64; omega)))) ?_)))⟩
       ·have hkj : k = i := by have := oF hi4; omega
        have hfz : (av i n).length = 7 * i + 3 := by unfold av; rw [if_pos (decide_eq_true h0)]; simp; omega
        refine W_exit ?_
        exact ⟨[6], (fitT (sub := by repeat (first | exact subL_nil | refine subL_cons (by first | exact imp_of rfl | exact imp_of (da hkj h0)) ?_)))⟩
     ·have h0 : ¬ n = 0 := by simpa using hi3
      have hfz : (av i n).length = 5 * i + 3 := by unfold av; rw [if_neg (by simpa using h0)]; simp
      refine Wj ?_
      exact ⟨[5], (fitT (sub := by repeat (first | exact subL_nil | refine subL_cons (by first | exact imp_of rfl | exact imp_of (dr h0)) ?_)))⟩
    ·refine Ws ?_
     refine V3.aD [8, 0, 0, 0, 17, 0, 3] [0, 1, 2, 3, 4, 5, 6] mG rfl (by kernel_rfl) ?_
     refine V3.bS 2 rfl rfl rfl rfl rfl (fun H2 h2 => does_load_ptr (lO tG rfl) rfl rfl h2 rfl) ?_
     refine V3.bi ?_
     refine V3.ai rfl rfl rfl rfl (fun _ => dC rfl Tryz.func26 rfl rfl ((ref_Xt _) _)) ?_
     refine V3.bi ?_
     refine V3.ao 60 rfl (bsL cInt [_] rfl rfl) ?_
     refine V3.bh 6 rfl rfl rfl rfl (does_append_own (lO tG rfl) rfl (lO tG rfl) (lO tG rfl) rfl rfl rfl rfl (by simp) (by exact ⟨_, rfl⟩) (by exact ⟨rfl, rfl, flatMap_len _ 1 (fun _ => rfl) _, okC_flat _ (fun _ => rfl) _⟩) (by (simp; omega)) (by (simp; omega))) ?_
     refine V3.ao 61 rfl (sq_append cInt) ?_
     refine V3.ao 61 rfl (cT) ?_
     refine V3.ai rfl rfl rfl rfl (fun _ => dC rfl Tryz.func27 rfl rfl ((ref_Laid (stockS []) 1368 (an i n (decide (n = 0))) (oT (by kernel_rfl)) (oT (by kernel_rfl)) fit_1368 (by have := aL i n (decide (n = 0)); omega)) _)) ?_
     refine V3.bp tG rfl rfl rfl rfl rfl trivial ?_
     refine V3.aN ?_
     refine Ws ?_
     refine V3.aD [1, 0, 0, 0, 0, 0, 3] [0, 1, 2, 3, 4, 5, 6] mG rfl (by kernel_rfl) ?_
     refine V3.dt ?_
     refine V3.ai rfl rfl rfl rfl (fun _ => dC rfl Tryz.func26 rfl rfl ((ref_Xt _) _)) ?_
     refine V3.ai rfl rfl rfl rfl (fun _ => dC rfl Tryz.func26 rfl rfl ((ref_Xt _) _)) ?_
     refine V3.ai rfl rfl rfl rfl (fun _ => dC rfl Tryz.func26 rfl rfl ((ref_Xt _) _)) ?_
     refine V3.bi ?_
     refine V3.ao 67 rfl ((show _ = sqc cInt aE from congrArg (sqc cInt) cw)) ?_
     refine V3.ai rfl rfl rfl rfl (fun _ => dC rfl Tryz.func27 rfl rfl ((ref_Laid _ 1800 aE (cG _) (Nat.zero_le _) (by unfold Fit64; omega) (by decide)) _)) ?_
     refine V3.bp tG rfl rfl rfl rfl rfl trivial ?_
     refine V3.aN ?_
     refine zu3 ?_
     refine zp1 ?_
     refine Wc rfl rfl (dC rfl Tryz.func21 rfl rfl (p7 _ (globs_at 0 1 rfl rfl))) ?_
     refine zy5 ?_
     refine zs3 ?_
     refine Ws ?_
     refine zp3 ?_
     refine WO_false 79 rfl (by rw [e1]; rfl) ?_
     refine zy5 ?_
     refine zs4 ?_
     refine Wf rfl (by rw [e3, e4]; rfl) ?_
     refine Wj ?_
     refine Ws ?_
     refine zu2 ?_
     refine Wi rfl (fun hi6 => ?_) (fun hi6 => ?_)
     ·have hne : ¬ n = 0 := by simpa using hi6
      have e2 := ef hne
      refine Ws ?_
      refine V3.aD [0, 0, 0, 20, 0, 0, 2, 0, 0, 23, 0, 0, 0] [0, 1, 2, 3, 4, 5, 7, 8, 6, 9, 10, 11, 12] mG rfl (by kernel_rfl) ?_
      iterate 2 refine V3.bi ?_
      refine V3.cb 92 rfl (by rfl) ?_
      refine V3.bi ?_
      refine V3.bS 8 rfl rfl rfl rfl rfl (fun H2 h2 => does_load_ptr (lO tG rfl) rfl rfl h2 rfl) ?_
      refine V3.bi ?_
      refine V3.ao 95 rfl ((show PV.seq 0 _ .clip = .seq (List.length ([] : List Int)) (List.flatMap cInt ([] : List Int)) .clip from rfl)) ?_
      iterate 3 refine V3.bi ?_
      refine V3.ao 99 rfl (bsL cInt [_] rfl rfl) ?_
      refine V3.bI rfl rfl rfl rfl (does_append_clip (lO tG rfl) rfl (lO tG rfl) (lO tG rfl) rfl rfl (by exact ⟨_, rfl⟩) (by exact ⟨rfl, rfl, flatMap_len _ 1 (fun _ => rfl) _, okC_flat _ (fun _ => rfl) _⟩) (by exact flatMap_len _ 1 (fun _ => rfl) _) (by simp; omega) (by simp; omega)) ?_
      refine V3.ao 97 rfl (sq_append cInt) ?_
      refine V3.bh 9 rfl rfl rfl rfl (does_append_own (lO tG rfl) rfl (lO tG rfl) (lO tG rfl) rfl rfl rfl rfl (by simp) (by exact ⟨_, rfl⟩) (by exact ⟨rfl, rfl, flatMap_len _ 1 (fun _ => rfl) _, okC_flat _ (fun _ => rfl) _⟩) (by simp; omega) (by simp; omega)) ?_
      refine V3.ao 100 rfl (sq_append cInt) ?_
      refine V3.ai rfl rfl rfl rfl (fun _ => dC rfl Tryz.func28 rfl rfl ((bk (l := R.1.d) (l' := [] ++ d ++ [n]) (by simp; omega) e2) _)) ?_
      iterate 2 refine V3.bi ?_
      refine V3.aN ?_
      refine zR ?_
      rfl
     ·have h0 : n = 0 := by simpa using hi6
      have e2 := et h0
      have hl : R.1.d.length = d.length + i + 1 := by rw [e2]; simp; omega
      have w4 : IntKind.i64.wrap (IntKind.i64.wrap ((d.length : Int) + (i : Int)) + 1) = ((d.length + i + 1 : Nat) : Int) := by
       rw [be (n := (d.length : Int) + (i : Int)) (by unfold Fit64; omega), be (by unfold Fit64; omega)]; omega
      have w5 : IntKind.i64.wrap ((R.1.d.length : Int) - 1) = ((R.1.d.length - 1 : Nat) : Int) := by
       rw [be (by unfold Fit64; omega)]; omega
      have hg : R.1.d.getD (R.1.d.length - 1) 0 = 0 := by rw [e2]; simp
      have ht : R.1.d.take d.length = d := by rw [e2, List.append_assoc, List.take_left' rfl]
      refine Wj ?_
      refine zp2 ?_
      refine WO_true 104 rfl (by rfl) ?_
      refine zy5 ?_
      refine zy3 ?_
      refine Wa 112 rfl (bc w1) ?_
      refine zy5 ?_
      refine WO_true 117 rfl (by (rw [hl, w4]; exact decide_eq_true rfl)) ?_
      refine zy5 ?_
      refine z1 ?_
      refine Wa 123 rfl (bc w5) ?_
      refine Wv tG rfl rfl rfl (by omega) (iN cInt 1 (fun _ => rfl) 0 (by omega)) ?_
      refine zy4 ?_
      refine WO_true 128 rfl (by (show (R.1.d.getD (R.1.d.length - 1) 0 == 0) = true; rw [hg]; rfl)) ?_
      refine zy4 ?_
      refine z2 ?_ (q := (by (simp_all; omega)))
      refine Wa 133 rfl (sq_slice cInt 1 (fun _ => rfl) (by omega)) ?_
      refine z1 ?_
      refine Wc rfl rfl (dC rfl Tryz.func28 rfl rfl ((bk (l := R.1.d.take d.length) (l' := d) (by omega) ht) _)) ?_
      refine zs2 ?_
      refine zR ?_
      rfl
theorem walk_InnerCatches (a : Addr) (v0 v1 v2 : Value) (w : World) (h0 : w.cell? ⟨0, 0, none⟩ = some (haltV a)) (h1 : w.cell? ⟨1, 0, none⟩ = some etV) (r0 : Reads w 28 v0) (r1 : Reads w 3 v1) (r2 : Reads w 5 v2) :
  Calls Tryz.prog 7 #[v0, v1, v2] w fun e w' => e = .returned (.bool true) ∧ Below w.heap.size w w' := by
 obtain ⟨l, hl, hl2, p0⟩ := bC r0
 obtain ⟨n, hn, p1⟩ := cc r1
 obtain ⟨k, hk, p2⟩ := cn r2
 exact law_callsG (args := [sq cInt l, i64 n, .val (.int .u8 (k : Int))]) (by simp [FlatL, Flat]) (aF a l hl hl2 n hn k hk) h0 h1 (repL_cons.2 ⟨p0, repL_cons.2 ⟨p1, repL_cons.2 ⟨p2, repL_nil.2 rfl⟩⟩⟩)
end Go.Proofs.YtobhnjnffnbbkaaGreatDoor
