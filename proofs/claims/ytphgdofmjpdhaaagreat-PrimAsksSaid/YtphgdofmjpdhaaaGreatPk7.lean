import Derived.Test.YtphgdofmjpdhaaaGreatPk6
set_option linter.unusedVariables false
set_option linter.unusedSimpArgs false
namespace Go.Proofs.YtphgdofmjpdhaaaGreat
open Go.RowKit
set_option maxRecDepth 100000
set_option maxHeartbeats 4000000
theorem WO_obI {P : Program} {B : Nat → Nat → Prop} {n : Nat} {all : Array Oper} {l : List Oper} {T : Nat → PV} {H H' : List Ob} {K : (Nat → PV) → List Ob → Prop} (i : Nat) {ob ob' : Ob} (hi : H[i]? = some ob) (e : ob = ob') (hH : nfH (H.set i ob') = some H') (h1 : WO P B n all l T H' K) : WO P B n all l T H K := by
 rw [nfH_eq hH] at h1
 subst e
 have : H.set i ob = H := by
  apply List.ext_getElem?
  intro j
  rw [List.getElem?_set]
  split
  ·rename_i h; subst h; split
   ·exact hi.symm
   ·rename_i h2; rw [List.getElem?_eq_none (by omega)]
  ·rfl
 rwa [this] at h1
def onlyT : List Str := [[73], [74], [85, 78, 76, 79, 79, 80], [62, 82], [82, 62], [82, 64], [50, 62, 82], [50, 82, 62]]
def nowT : List Str := [[46, 34], [40], [92], [91]]
def bothT : List Str := [[59], [68, 79, 69, 83, 62], [91, 39, 93], [91, 67, 72, 65, 82, 93], [76, 73, 84, 69, 82, 65, 76], [80, 79, 83, 84, 80, 79, 78, 69], [82, 69, 67, 85, 82, 83, 69], [73, 70], [69, 76, 83, 69], [84, 72, 69, 78], [66, 69, 71, 73, 78], [87, 72, 73, 76, 69], [82, 69, 80, 69, 65, 84], [85, 78, 84, 73, 76], [65, 71, 65, 73, 78], [68, 79], [63, 68, 79], [76, 79, 79, 80], [43, 76, 79, 79, 80], [76, 69, 65, 86, 69], [83, 34], [69, 88, 73, 84]]
def inS (l : List Str) (s : Str) : Bool := l.any (fun x => decide (x = s))
theorem ref_in (l : List Str) (s : Str) (hl : l.length ≤ 1000000) : PureC Tryz.prog 206 [sq cStr l, str s] (boo (inS l s)) := by
 refine pW tG (rs := [.tmp 4]) Tryz.func206 rfl rfl rfl (by simp) (by simp) (fun B => ?_)
 refine zu1 ?_
 refine Ws ?_
 refine zu1 ?_
 refine Wl ?_
 show W _ _ _ _ _ _ _
 refine W_loopS (fun (k : Nat) => [(0, sq cStr l), (1, str s), (5, i64 k)]) (fun (k : Nat) => []) (fun (k : Nat) => []) (fun (k : Nat) => k ≤ l.length ∧ (l.take k).all (fun x => !decide (x = s)) = true) (fun (k : Nat) => l.length - k) (0) (by simp) [] ?_ ?_
 ·exact fitT
 ·intro k hk
  refine Ws ?_
  refine zu4 ?_
  refine Wi rfl (fun hi1 => ?_) (fun hi1 => ?_)
  ·have hlt : k < l.length := by have := oT hi1; omega
   refine Wj ?_
   refine Ws ?_
   refine Wl ?_
   refine zp2 ?_
   refine Wv tG rfl rfl rfl (by omega) (iN cStr 1 (fun _ => rfl) [] (by omega)) ?_
   refine zy3 ?_
   refine Wa 17 rfl (str_eql _ _) ?_
   refine Wn ?_
   refine Wi rfl (fun hi2 => ?_) (fun hi2 => ?_)
   ·have hy : inS l s = true := by unfold inS; rw [List.any_eq_true]; exact ⟨_, mem_getD [] hlt, hi2⟩
    refine zu1 ?_
    refine zR ?_
    rw [hy]; rfl
   ·refine Wj ?_
    refine W_region rfl ?_
    refine zs3 ?_
    exact ⟨k + 1, [], (by exact ⟨by omega, all_snoc [] hlt hk.2 (by rw [hi2]; rfl)⟩), (by omega), fitT⟩
  ·have hge : l.length ≤ k := by have := oF hi1; omega
   have hn : inS l s = false := by have h1 := hk.2; rw [take_all' _ k hge] at h1; unfold inS; rw [List.any_eq_false]; intro x hx; have := List.all_eq_true.1 h1 x hx; simpa using this
   refine W_exit ?_
   refine zu1 ?_
   refine zR ?_
   rw [hn]; rfl
def flagsN (name : Str) (i : Nat) : Int := if i < 12 then 6 else if inS onlyT name then 4 else if inS nowT name then 1 else if inS bothT name then 5 else 0
theorem ref_flags (name : Str) (i : Nat) : PureC Tryz.prog 78 [str name, i64 i] (i64 (flagsN name i)) := by
 refine pW tG (rs := [.tmp 4]) Tryz.func78 rfl rfl rfl (by simp) (by simp) (fun B => ?_)
 refine zu1 ?_
 refine Ws ?_
 refine zu2 ?_
 refine Wi rfl (fun hi1 => ?_) (fun hi1 => ?_)
 ·have h0 : i < 12 := by have := oT hi1; omega
  refine zu1 ?_
  refine zR ?_
  rw [flagsN, if_pos h0]; rfl
 ·have h0 : ¬ i < 12 := by have := oF hi1; omega
  refine Wj ?_
  refine zp1 ?_
  refine Wa 10 rfl (bsL cStr [_, _, _, _, _, _, _, _] rfl rfl) ?_
  refine z1 ?_
  refine Wc rfl rfl (dC rfl Tryz.func206 rfl rfl ((ref_in onlyT name (by decide)) _)) ?_
  refine zs1 ?_
  refine Ws ?_
  refine zu1 ?_
  refine Wi rfl (fun hi2 => ?_) (fun hi2 => ?_)
  ·refine zu1 ?_
   refine zR ?_
   rw [flagsN, if_neg h0, if_pos hi2]; rfl
  ·refine Wj ?_
   refine zp1 ?_
   refine Wa 14 rfl (bsL cStr [_, _, _, _] rfl rfl) ?_
   refine z1 ?_
   refine Wc rfl rfl (dC rfl Tryz.func206 rfl rfl ((ref_in nowT name (by decide)) _)) ?_
   refine zs1 ?_
   refine Ws ?_
   refine zu1 ?_
   refine Wi rfl (fun hi3 => ?_) (fun hi3 => ?_)
   ·refine zu1 ?_
    refine zR ?_
    rw [flagsN, if_neg h0, if_neg (by rw [hi2]; simp), if_pos hi3]; rfl
   ·refine Wj ?_
    refine zp1 ?_
    refine Wa 18 rfl (bsL cStr [_, _, _, _, _, _, _, _, _, _, _, _, _, _, _, _, _, _, _, _, _, _] rfl rfl) ?_
    refine z1 ?_
    refine Wc rfl rfl (dC rfl Tryz.func206 rfl rfl ((ref_in bothT name (by decide)) _)) ?_
    refine zs1 ?_
    refine Ws ?_
    refine zu1 ?_
    refine Wi rfl (fun hi4 => ?_) (fun hi4 => ?_)
    ·refine zu1 ?_
     refine zR ?_
     rw [flagsN, if_neg h0, if_neg (by rw [hi2]; simp), if_neg (by rw [hi3]; simp), if_pos hi4]; rfl
    ·refine Wj ?_
     refine zu1 ?_
     refine zR ?_
     rw [flagsN, if_neg h0, if_neg (by rw [hi2]; simp), if_neg (by rw [hi3]; simp), if_neg (by rw [hi4]; simp)]; rfl
theorem ref_NamesC : PureC Tryz.prog 30 [] (sqc cStr names) := by
 refine pW tG (rs := [.tmp 0]) Tryz.func30 rfl rfl rfl (by simp; done) (by exact flat_sqc flat_cStr _) (fun B => ?_)
 refine zu1 ?_
 refine zp1 ?_
 refine Wa 1 rfl (bsL cStr [_, _, _, _, _, _, _, _, _, _, _, _, _, _, _, _, _, _, _, _, _, _, _, _, _, _, _, _, _, _, _, _, _, _, _, _, _, _, _, _, _, _, _, _, _, _, _, _, _, _, _, _, _, _, _, _, _, _, _, _, _, _, _, _, _, _, _, _, _, _, _, _, _, _, _, _, _, _, _, _, _, _, _, _, _, _, _, _, _, _, _, _, _, _, _, _, _, _, _, _, _, _, _, _, _, _, _, _, _, _, _, _, _, _, _, _, _, _, _, _, _, _, _, _, _, _, _, _, _, _] rfl rfl) ?_
 refine zs1 ?_
 refine Wq ?_
 exact leafPx rfl rfl
def allN : List Str := names ++ specials
theorem allN_len : allN.length = 167 := by unfold allN; rw [List.length_append, names_len, specials_len]
def nval (i : Nat) : Nat := if 130 ≤ i then 170 + i else i
def put2 (b : List UInt8) (a n : Nat) : List UInt8 := (b.set a (UInt8.ofNat (n % 256))).set (a + 1) (UInt8.ofNat (n / 256))
def stepB (b : List UInt8) (i : Nat) : List UInt8 :=
 let b1 := put2 b (32 + 8 * i) (nval i)
 let b2 := if allN.getD i [] = [40, 104, 97, 108, 116, 41] then put2 b1 16 (32 + 8 * i) else b1
 if allN.getD i [] = [40, 99, 97, 117, 103, 104, 116, 41] then put2 b2 24 (32 + 8 * i) else b2
def newB (M : Nat) : Nat → List UInt8
 | 0 => (List.replicate M 0).set 0 10
 | k + 1 => stepB (newB M k) k
def wordN (i : Nat) : VWord := ⟨allN.getD i [], ((32 + 8 * i : Nat) : Int), flagsN (allN.getD i []) i⟩
def newL (k : Nat) : List VWord := (List.range k).map wordN
@[simp] theorem newL_len (k : Nat) : (newL k).length = k := by simp [newL]
theorem newL_succ (k : Nat) : newL (k + 1) = newL k ++ [wordN k] := by unfold newL; rw [List.range_succ, List.map_append]; rfl
theorem put2_len (b : List UInt8) (a n : Nat) : (put2 b a n).length = b.length := by simp [put2]
theorem stepB_len (b : List UInt8) (i : Nat) : (stepB b i).length = b.length := by
 unfold stepB
 simp only
 split <;> split <;> simp [put2_len]
theorem newB_len (M k : Nat) : (newB M k).length = M := by
 induction k with
 | zero => simp [newB]
 | succ k ih => rw [newB, stepB_len, ih]
def newVm (c : VConf) : VVm := { conf := c, mem := ⟨newB c.mem.toNat 167, []⟩, here := 1368, d := [], r := [], f := [], dict := newL 167, last := 0, out := [], pic := ⟨[], false⟩, req := [], free := 0, next := 0, arg := 0, self := 0, now := 0, hand := [] }
def vmZ : List PV := [i64 0, i64 0, i64 0, i64 0, i64 0, .seq 0 [] .clip, .seq 0 [] .clip, i64 0, .seq 0 [] .clip, .seq 0 [] .clip, .seq 0 [] .clip, .seq 0 [] .clip, i64 0, .seq 0 [] .clip, .seq 0 [] .clip, boo false, .seq 0 [] .clip, i64 0, i64 0, i64 0, i64 0, i64 0, .seq 0 [] .clip]
@[simp] theorem nl_vmZ {n : Nat} : NL1L n vmZ := nF (by simp [vmZ])
theorem u8_of (n : Nat) (h : n < 256) : ((UInt8.ofNat n).toNat : Int) = n := by rw [UInt8.toNat_ofNat']; omega
theorem u8_mod (n : Nat) : PV.val (Value.int .u8 (IntKind.u8.wrap ((n : Int).tmod 256))) = .val (.int .u8 ((UInt8.ofNat (n % 256)).toNat : Int)) := by
 rw [u8_of _ (by omega), Int.tmod_eq_emod_of_nonneg (by omega)]
 simp only [PV.val.injEq, Value.int.injEq, true_and]
 rw [IntKind.wrap_u8]; omega
theorem u8_quo (n : Nat) (h : n < 65536) : PV.val (Value.int .u8 (IntKind.u8.wrap (IntKind.i64.wrap ((n : Int).tdiv 256)))) = .val (.int .u8 ((UInt8.ofNat (n / 256)).toNat : Int)) := by
 rw [u8_of _ (by omega), Int.tdiv_eq_ediv_of_nonneg (by omega)]
 simp only [PV.val.injEq, Value.int.injEq, true_and]
 rw [i64w, IntKind.wrap_u8]; unfold wrap64; omega
theorem splice_at {b : List UInt8} {i : Int} {n : Nat} {x : UInt8} (hi : i = n) (hn : n < b.length) : splice (b.flatMap cByte) (0 + i.toNat * 1) [.val (.int .u8 (x.toNat : Int))] = (b.set n x).flatMap cByte := by
 subst hi
 rw [Int.toNat_natCast, Nat.mul_one, Nat.zero_add]
 exact splice_byte hn x
theorem zeros_b {M : Nat} {d : TD} {e : TypeId} (hd : d.zero = cByte 0) : Ob.cells (zerosPV M d) e = .cells ((List.replicate M (0 : UInt8)).flatMap cByte) e := by
 unfold zerosPV
 rw [hd, List.flatMap_replicate]
end Go.Proofs.YtphgdofmjpdhaaaGreat
namespace Go.Proofs.YtphgdofmjpdhaaaGreat
open Go.RowKit
set_option maxRecDepth 100000
def sC : VConf := ⟨2048, 32, 32, 200, 500⟩
theorem sC_fits : fitsV sC := by unfold fitsV sC; decide
def stockS (d : List Int) : VVm := { newVm sC with d := d }
theorem newB_words : (newL 167).all wordOk = true := by decide +kernel
theorem stock_right {d : List Int} (hd : d.length ≤ 32) : RightP (stockS d) := by
 have hl : (newB 2048 167).length = 2048 := newB_len _ _
 refine ⟨sC_fits, ?_, ?_, ⟨(by show (0 : Nat) ≤ 130; decide), .inr rfl⟩, ?_, (by show (1368 : Int) ≤ 1368; decide), (by show (1368 : Int) ≤ 2048; decide), rfl, rfl, ?_, (by show ((0 : Nat) : Int) ≤ 32; decide), (by show (0 : Nat) ≤ 64; decide), ?_, (by show ((0 : Nat) : Int) ≤ 500; decide), (by show (0 : Nat) ≤ 16; decide), (by show (0 : Int) ≤ 0; decide), (by show (0 : Int) ≤ 64; decide), (by show (0 : Int) ≤ 0; decide), (by show (0 : Int) ≤ 4611686018427387904; decide), (by show (0 : Nat) ≤ 64; decide)⟩
 ·show memRight ⟨newB 2048 167, []⟩ = true
  unfold memRight
  simp only [List.all_nil, Bool.true_and, hl]
  decide
 ·show right9 (newL 167) = true
  unfold right9
  rw [newB_words, newL_len]; rfl
 ·show ((newB 2048 167).length : Int) = 2048
  rw [hl]; rfl
 ·show (d.length : Int) ≤ 32
  omega
 ·show ((newL 167).length : Int) ≤ 200
  rw [newL_len]; decide
theorem stock_good {d : List Int} (hd : d.length ≤ 32) (hf : FitL d) : GoodV 0 (stockS d) :=
 ⟨(right_iff _).2 (stock_right hd), Nat.le_refl _, hf, ⟨fit_0, fit_0, fit_0⟩⟩
theorem put2_take {b : List UInt8} {a n : Nat} (h : 8 ≤ a) : (put2 b a n).take 8 = b.take 8 := by
 unfold put2
 rw [List.take_set_of_le (by omega), List.take_set_of_le h]
theorem newB_take {M : Nat} (hM : 8 ≤ M) : ∀ k, (newB M k).take 8 = [10, 0, 0, 0, 0, 0, 0, 0]
 | 0 => by
  obtain ⟨m, rfl⟩ : ∃ m, M = m + 8 := ⟨M - 8, by omega⟩
  rfl
 | k + 1 => by
  have ih := newB_take hM k
  unfold newB stepB
  simp only
  split <;> split <;> simp only [put2_take (show 8 ≤ 24 by omega), put2_take (show 8 ≤ 16 by omega), put2_take (show 8 ≤ 32 + 8 * k by omega), ih]
theorem stock_base {v : VVm} (h : v.mem = ⟨newB 2048 167, []⟩) : memFetch v.mem 0 = (10, 0) := by
 rw [h]
 have hl : (newB 2048 167).length = 2048 := newB_len _ _
 have ht := newB_take (M := 2048) (by omega) 167
 have hc : memCellAt ⟨newB 2048 167, []⟩ 0 = 0 := by
  unfold memCellAt memThere
  simp only [hl]
  decide
 unfold memFetch
 rw [hc, if_pos rfl]
 show (getC (((newB 2048 167).drop 0).take 8), 0) = _
 rw [List.drop_zero, ht]
 decide +kernel
theorem doR_ok {v : VVm} {k : Nat} {r : VVm × List Int × Int} (h0 : k ≤ v.d.length) (h1 : r.2.2 = 0) (h2 : ((v.d.length - k + r.2.1.length : Nat) : Int) ≤ v.conf.data) : doR v k r = ({ r.1 with d := v.d.take (v.d.length - k) ++ r.2.1 }, 0) := by
 unfold doR
 rw [if_neg (by omega), if_neg (by rw [h1]; simp), if_neg (by omega)]
theorem doR_bad {v : VVm} {k : Nat} {r : VVm × List Int × Int} (h0 : k ≤ v.d.length) (h1 : r.2.2 ≠ 0) : doR v k r = (v, r.2.2) := by
 unfold doR
 rw [if_neg (by omega), if_pos h1]
theorem D73 : doS (stockS [7, -2]) 73 = ({ stockS [7, -2] with d := [-1, -4] }, 0) := by
 have hk : takesS 73 (names.getD (73 : Int).toNat []) = 2 := by decide +kernel
 have hn : names.getD (73 : Int).toNat [] = [47, 77, 79, 68] := by decide +kernel
 rw [doS_deed (by decide) (by decide), hk, hn, ds_73]
 have e : pDivMod ((stockS [7, -2]).d.drop ((stockS [7, -2]).d.length - 2)) = ([-1, -4], 0) := by
  show pDivMod [7, -2] = _
  decide +kernel
 rw [e]
 exact doR_ok (by decide) rfl (by decide)
theorem D39 : doS (stockS [7, -2]) 39 = ({ stockS [7, -2] with d := [5] }, 0) := by
 have hn : names.getD (39 : Int).toNat [] = [43] := by decide +kernel
 rw [doS_deed (by decide) (by decide), hn]
 have hk : takesS 39 [43] = 2 := by decide +kernel
 rw [hk]
 have e : doneS (stockS [7, -2]) 39 [43] ((stockS [7, -2]).d.drop ((stockS [7, -2]).d.length - 2)) = (stockS [7, -2], [5], 0) := by
  show (stockS [7, -2], [(twoS [43] 7 (-2)).1], (twoS [43] 7 (-2)).2.2) = _
  have h : twoS [43] 7 (-2) = (5, true, 0) := by decide +kernel
  rw [h]
 rw [e]
 exact doR_ok (by decide) rfl (by decide)
theorem D83 : doS (stockS [7, -2]) 83 = (stockS [7, -2], -9) := by
 have hk : takesS 83 (names.getD (83 : Int).toNat []) = 1 := by decide +kernel
 have hn : names.getD (83 : Int).toNat [] = [64] := by decide +kernel
 rw [doS_deed (by decide) (by decide), hk, hn, ds_83]
 have hc : memCellAt (stockS [7, -2]).mem (-2) = -9 := by
  unfold memCellAt memThere
  rw [show decide ((8 : Int) = 0 ∨ 0 < (8 : Int) ∧ 0 ≤ (-2 : Int) ∧ (-2 : Int) + 8 ≤ (((stockS [7, -2]).mem.b.length : Nat) : Int)) = false from decide_eq_false (by omega)]
  rfl
 have hf : memFetch (stockS [7, -2]).mem (-2) = (0, -9) := by unfold memFetch; rw [hc]; rfl
 have e : pFetch (stockS [7, -2]) ((stockS [7, -2]).d.drop ((stockS [7, -2]).d.length - 1)) = (stockS [7, -2], [0], -9) := by
  show (stockS [7, -2], [(memFetch (stockS [7, -2]).mem (-2)).1], (memFetch (stockS [7, -2]).mem (-2)).2) = _
  rw [hf]
 rw [e]
 exact doR_bad (by decide) (by decide)
theorem num_dot : numberS [46] = 110 := by decide +kernel
theorem D110 : doS (stockS [7, -2]) 110 = ({ stockS [7, -2] with d := [7], out := [45, 50, 32] }, 0) := by
 have hk : takesS 110 (names.getD (110 : Int).toNat []) = 1 := by decide +kernel
 have hn : names.getD (110 : Int).toNat [] = [46] := by decide +kernel
 rw [doS_deed (by decide) (by decide), hk, hn, ds_110]
 have hb : baseS (stockS [7, -2]) = 10 := by unfold baseS; rw [stock_base rfl]
 have hs : showS (-2) 10 = ([45, 50], 0) := by decide +kernel
 have e : pPrint (stockS [7, -2]) (pDot (showS (xat ((stockS [7, -2]).d.drop ((stockS [7, -2]).d.length - 1)) 0) (baseS (stockS [7, -2])))) = ({ stockS [7, -2] with out := [45, 50, 32] }, [], 0) := by
  show pPrint (stockS [7, -2]) (pDot (showS (-2) (baseS (stockS [7, -2])))) = _
  rw [hb, hs]
  rfl
 rw [e]
 exact doR_ok (by decide) rfl (by decide)
end Go.Proofs.YtphgdofmjpdhaaaGreat
namespace Go.Proofs.YtphgdofmjpdhaaaGreat
open Go.RowKit
set_option maxRecDepth 100000
set_option maxHeartbeats 4000000
def withD (v : VVm) (d : List Int) : VVm := { v with d := d }
end Go.Proofs.YtphgdofmjpdhaaaGreat
namespace Go.Proofs.YtphgdofmjpdhaaaGreat
open Go.RowKit
set_option maxRecDepth 100000
set_option maxHeartbeats 4000000
theorem good_withD {N : Nat} {v : VVm} {d : List Int} (g : GoodV N v) (hf : FitL d) (hd : (d.length : Int) ≤ v.conf.data) : GoodV N (withD v d) :=
 ⟨(right_iff _).2 (keeps_right ((right_iff _).1 g.right) (.refl v) hd), g.old, hf, g.ints⟩
end Go.Proofs.YtphgdofmjpdhaaaGreat
namespace Go.Proofs.YtphgdofmjpdhaaaGreat
open Go.RowKit
set_option maxRecDepth 100000
theorem wf_fit {n : Int} (h : (Lit.int .i64 n).wf = true) : Fit64 n := fit_wf h
theorem rd_int64 {w : World} {cs : List Value} (h : Rd w 3 cs) : ∃ n, Fit64 n ∧ RepL (c0 w) [i64 n] cs := by
 obtain ⟨n, h1, h2⟩ := rd_int_rep Tryz.underlying3 h
 exact ⟨n, wf_fit h1, h2⟩
end Go.Proofs.YtphgdofmjpdhaaaGreat
namespace Go.Proofs.YtphgdofmjpdhaaaGreat
open Go.RowKit
set_option maxRecDepth 100000
set_option maxHeartbeats 4000000
theorem right_in {v : VVm} (R : RightP v) (h : v.mem.old.length ≤ 1000000) : VIn2 v := by
 have hc := R.fits
 unfold fitsV at hc
 have a1 := R.len
 have a2 := R.fl
 have a3 := R.dl
 have a5 := R.handl
 refine { b := by omega, old := by omega, dict := by omega, pt := ?_, f := by omega, hand := by omega }
 intro p hp
 have hm := R.mem
 unfold memRight at hm
 rw [Bool.and_eq_true, List.all_eq_true] at hm
 have := hm.1 p hp
 unfold memThere at this
 rw [decide_eq_true_eq] at this
 unfold Fit64
 omega
end Go.Proofs.YtphgdofmjpdhaaaGreat
namespace Go.Proofs.YtphgdofmjpdhaaaGreat
open Go.RowKit
set_option maxRecDepth 100000
set_option maxHeartbeats 4000000
structure VQuad where
 a : Int
 b : Int
 c : Int
 d : Int
 deriving Inhabited
def cQuad (x : VQuad) : List PV := [i64 x.a, i64 x.b, i64 x.c, i64 x.d]
@[simp] theorem flat_cQuad (x : VQuad) : FlatL (cQuad x) := by simp [cQuad]
@[simp] theorem flat_sQuad (l : List VQuad) : Flat (sq cQuad l) := flat_sq flat_cQuad l
def QOk (q : VQuad) : Prop := Fit64 q.a ∧ Fit64 q.b ∧ Fit64 q.c ∧ Fit64 q.d
def hereA (h x y : Int) : Bool := decide (x ≥ 0) && decide (x < h) && decide (y ≥ 0) && decide (y < 4)
def hereB (nm : Str) (h b c d : Int) : Bool := if nm = [80, 79, 83, 84] then hereA h c d else hereA h b c
def timerB (nm : Str) : Bool := decide (nm = [65, 70, 84, 69, 82]) || decide (nm = [69, 86, 69, 82, 89])
def mayB (nm : Str) (h : Int) (tm fr : Int) (b c d : Int) : Bool := decide (nm = [67, 65, 78, 67, 69, 76]) || (hereB nm h b c d && (!timerB nm || (decide (d ≥ 1) && decide (d < 4294967296) && decide (tm < fr))))
def asksN : List Str := [[80, 79, 83, 84], [65, 70, 84, 69, 82], [69, 86, 69, 82, 89], [67, 65, 78, 67, 69, 76]]
structure AskI (N many tm fr hd : Nat) (v : VVm) : Prop where
 good : GoodV N v
 data : v.conf.data = 32
 req : v.req.length = many
 many : many ≤ 16
 next : v.next = (tm : Int)
 free : v.free = (fr : Int) - (tm : Int)
 tmf : tm ≤ fr
 fr : fr ≤ 64
 hand : v.hand.length = hd
theorem GoodV.mono {N M : Nat} {v : VVm} (g : GoodV N v) (h : N ≤ M) : GoodV M v := ⟨g.right, Nat.le_trans g.old h, g.d, g.ints⟩
theorem AskI.mono {N M many tm fr hd : Nat} {v : VVm} (g : AskI N many tm fr hd v) (h : N ≤ M) : AskI M many tm fr hd v := ⟨g.good.mono h, g.data, g.req, g.many, g.next, g.free, g.tmf, g.fr, g.hand⟩
structure AskR (nm : Str) (q : VQuad) (N many tm fr hd : Nat) (v : VVm) (r : VVm × Int) : Prop where
 ok : (r.2 == 0) = (mayB nm hd tm fr q.b q.c q.d && decide ((many : Int) < 16))
 good : GoodV (N + 2) r.1
 req : r.2 = 0 → r.1.req.length = many + 1
 tmr : r.2 = 0 → timerB nm = true → r.1.d = [(tm : Int)] ∧ r.1.free = W64 (v.free - 1)
 post : r.2 = 0 → nm = [80, 79, 83, 84] → (r.1.req.getD many default).arg = q.b ∧ r.1.d.length = 1
 next : r.2 = 0 → AskI (N + 2) (many + 1) (tm + if timerB nm = true then 1 else 0) fr hd (withD r.1 [])
theorem aw_post (v : VVm) (a b c d : Int) : doS (withD v [a, b, c, d]) (numberS [80, 79, 83, 84]) = doR (withD v [a, b, c, d]) 3 (pPost (withD v [a, b, c, d]) [b, c, d]) := by kernel_rfl
theorem aw_after (v : VVm) (a b c d : Int) : doS (withD v [a, b, c, d]) (numberS [65, 70, 84, 69, 82]) = doR (withD v [a, b, c, d]) 4 (pTimer 2 (withD v [a, b, c, d]) [a, b, c, d]) := by kernel_rfl
theorem aw_every (v : VVm) (a b c d : Int) : doS (withD v [a, b, c, d]) (numberS [69, 86, 69, 82, 89]) = doR (withD v [a, b, c, d]) 4 (pTimer 3 (withD v [a, b, c, d]) [a, b, c, d]) := by kernel_rfl
theorem aw_cancel (v : VVm) (a b c d : Int) : doS (withD v [a, b, c, d]) (numberS [67, 65, 78, 67, 69, 76]) = doR (withD v [a, b, c, d]) 1 (pCancel (withD v [a, b, c, d]) [d]) := by kernel_rfl
theorem hereA_iff {h x y : Int} : hereA h x y = true ↔ (0 ≤ x ∧ x < h) ∧ 0 ≤ y ∧ y < 4 := by
 unfold hereA
 simp only [Bool.and_eq_true, decide_eq_true_eq]
 omega
theorem beq_no {e : Int} (h : e ≠ 0) : (e == 0) = false := beq_eq_false_iff_ne.2 h
theorem ask_no {nm : Str} {q : VQuad} {N many tm fr hd : Nat} {v x : VVm} {e : Int} (he : e ≠ 0) (g : GoodV N x) (hm : (mayB nm hd tm fr q.b q.c q.d && decide ((many : Int) < 16)) = false) : AskR nm q N many tm fr hd v (x, e) :=
 ⟨by rw [hm]; exact beq_no he, g.mono (by omega), fun h => absurd h he, fun h => absurd h he, fun h => absurd h he, fun h => absurd h he⟩
theorem ask_yes {nm : Str} {q : VQuad} {N many tm fr hd : Nat} {v y : VVm} (I : AskI N many tm fr hd v) (g : GoodV (N + 2) y) (hm : mayB nm hd tm fr q.b q.c q.d = true) (hn : many < 16) (hc : y.conf = v.conf) (hr : y.req.length = many + 1) (hh : y.hand = v.hand)
  (ht : timerB nm = true → tm < fr ∧ y.d = [(tm : Int)] ∧ y.free = W64 (v.free - 1) ∧ y.next = W64 (v.next + 1)) (hf : timerB nm = false → y.free = v.free ∧ y.next = v.next) (hp : nm = [80, 79, 83, 84] → (y.req.getD many default).arg = q.b ∧ y.d.length = 1) : AskR nm q N many tm fr hd v (y, 0) := by
 have g2 := good_withD (d := []) g (fun a ha => by cases ha) (by show ((0 : Nat) : Int) ≤ y.conf.data; rw [hc, I.data]; decide)
 have h1 := I.tmf
 have h2 := I.fr
 refine ⟨by rw [hm, decide_eq_true (by omega)]; rfl, g, fun _ => hr, fun _ h => ⟨(ht h).2.1, (ht h).2.2.1⟩, fun _ h => hp h, fun _ => ?_⟩
 have h3 := I.next
 have h4 := I.free
 cases hb : timerB nm with
 | true =>
  obtain ⟨a1, _, a3, a4⟩ := ht hb
  rw [if_pos rfl]
  refine ⟨g2, by show y.conf.data = 32; rw [hc]; exact I.data, hr, by omega, ?_, ?_, by omega, h2, by show y.hand.length = hd; rw [hh]; exact I.hand⟩
  ·show y.next = _
   rw [a4, h3, w64_id (by unfold Fit64; omega)]; omega
  ·show y.free = _
   rw [a3, h4, w64_id (by unfold Fit64; omega)]; omega
 | false =>
  obtain ⟨a1, a2⟩ := hf hb
  rw [if_neg (by simp)]
  exact ⟨g2, by show y.conf.data = 32; rw [hc]; exact I.data, hr, by omega, by show y.next = _; rw [a2, h3]; omega, by show y.free = _; rw [a1, h4]; omega, by omega, h2, by show y.hand.length = hd; rw [hh]; exact I.hand⟩
theorem bounds_iff {v : VVm} {x : List Int} {hd : Nat} (h : v.hand.length = hd) : pBounds v x ↔ hereA hd (xat x 1) (xat x 2) ≠ true := by
 rw [Ne, hereA_iff]
 unfold pBounds
 rw [h]
 omega
theorem arg_last {l : List VReq} {q : VReq} {n : Nat} (h : l.length = n) : ((l ++ [q]).getD n default).arg = q.arg := by
 subst h
 unfold List.getD
 rw [List.getElem?_append_right (Nat.le_refl _), Nat.sub_self]
 rfl
theorem step_post {N many tm fr hd : Nat} {v : VVm} (I : AskI N many tm fr hd v) (q : VQuad) (g : GoodV N (withD v [q.a, q.b, q.c, q.d])) : AskR [80, 79, 83, 84] q N many tm fr hd v (doS (withD v [q.a, q.b, q.c, q.d]) (numberS [80, 79, 83, 84])) := by
 have gd := doS_good (n := numberS [80, 79, 83, 84]) g
 have hm : mayB [80, 79, 83, 84] hd tm fr q.b q.c q.d = hereA hd q.c q.d := by
  have t : timerB [80, 79, 83, 84] = false := by decide
  unfold mayB hereB
  rw [t, if_pos rfl, decide_eq_false (by decide)]; simp
 have hq := I.req
 rw [aw_post] at gd ⊢
 generalize hX : withD v [q.a, q.b, q.c, q.d] = X at g gd ⊢
 have hdl : X.d = [q.a, q.b, q.c, q.d] := by rw [← hX]; rfl
 have hhd : X.hand.length = hd := by rw [← hX]; exact I.hand
 have hrq : X.req = v.req := by rw [← hX]; rfl
 have hb := bounds_iff (x := [q.b, q.c, q.d]) hhd
 have hb2 : pBounds X [q.b, q.c, q.d] ↔ hereA hd q.c q.d ≠ true := hb
 by_cases h1 : pBounds X [q.b, q.c, q.d]
 ·rw [show pPost X [q.b, q.c, q.d] = (X, [], -259) from by unfold pPost; rw [if_pos h1], doR_bad (by rw [hdl]; exact Nat.le_of_ble_eq_true rfl) (show (-259 : Int) ≠ 0 by decide)]
  exact ask_no (show (-259 : Int) ≠ 0 by decide) g (by rw [hm, show hereA hd q.c q.d = false from by simpa using hb2.1 h1]; rfl)
 ·have hh : hereA hd q.c q.d = true := by
   cases hz : hereA hd q.c q.d with
   | true => rfl
   | false => exact absurd (hb2.2 (by rw [hz]; simp)) h1
  by_cases h2 : 16 ≤ (X.req.length : Int)
  ·rw [show pPost X [q.b, q.c, q.d] = (X, [], -257) from by unfold pPost; rw [if_neg h1, if_pos h2], doR_bad (by rw [hdl]; exact Nat.le_of_ble_eq_true rfl) (show (-257 : Int) ≠ 0 by decide)]
   rw [hrq, hq] at h2
   exact ask_no (show (-257 : Int) ≠ 0 by decide) g (by rw [decide_eq_false (by omega)]; simp)
  ·rw [show pPost X [q.b, q.c, q.d] = (withR X ⟨1, q.b, q.c, q.d, 0, 0⟩, [], 0) from by unfold pPost; rw [if_neg h1, if_neg h2]; rfl] at gd ⊢
   rw [hrq, hq] at h2
   have e := doR_ok (v := X) (k := 3) (r := (withR X ⟨1, q.b, q.c, q.d, 0, 0⟩, [], 0)) (by rw [hdl]; exact Nat.le_of_ble_eq_true rfl) rfl (by rw [hdl]; show ((1 : Nat) : Int) ≤ X.conf.data; rw [← hX]; show ((1 : Nat) : Int) ≤ v.conf.data; rw [I.data]; decide)
   rw [e] at gd ⊢
   refine ask_yes I gd (hm.trans hh) (by omega) (by rw [← hX]; rfl) (by show (X.req ++ [_]).length = _; rw [hrq, List.length_append, hq]; rfl) (by rw [← hX]; rfl) (fun h => absurd h (by decide)) (fun _ => ⟨by rw [← hX]; rfl, by rw [← hX]; rfl⟩) (fun _ => ⟨?_, ?_⟩)
   ·show ((X.req ++ [_]).getD many default).arg = q.b
    rw [hrq, arg_last hq]
   ·show (X.d.take (X.d.length - 3) ++ []).length = 1
    rw [hdl]; rfl
theorem step_cancel {N many tm fr hd : Nat} {v : VVm} (I : AskI N many tm fr hd v) (q : VQuad) (g : GoodV N (withD v [q.a, q.b, q.c, q.d])) : AskR [67, 65, 78, 67, 69, 76] q N many tm fr hd v (doS (withD v [q.a, q.b, q.c, q.d]) (numberS [67, 65, 78, 67, 69, 76])) := by
 have gd := doS_good (n := numberS [67, 65, 78, 67, 69, 76]) g
 have hm : mayB [67, 65, 78, 67, 69, 76] hd tm fr q.b q.c q.d = true := by
  unfold mayB
  rw [decide_eq_true (by decide)]; rfl
 have hq := I.req
 rw [aw_cancel] at gd ⊢
 generalize hX : withD v [q.a, q.b, q.c, q.d] = X at g gd ⊢
 have hdl : X.d = [q.a, q.b, q.c, q.d] := by rw [← hX]; rfl
 have hrq : X.req = v.req := by rw [← hX]; rfl
 by_cases h2 : 16 ≤ (X.req.length : Int)
 ·rw [show pCancel X [q.d] = (X, [], -257) from by unfold pCancel; rw [if_pos h2], doR_bad (by rw [hdl]; exact Nat.le_of_ble_eq_true rfl) (show (-257 : Int) ≠ 0 by decide)]
  rw [hrq, hq] at h2
  exact ask_no (show (-257 : Int) ≠ 0 by decide) g (by rw [decide_eq_false (by omega)]; simp)
 ·rw [show pCancel X [q.d] = (withR X ⟨4, 0, 0, 0, 0, q.d⟩, [], 0) from by unfold pCancel; rw [if_neg h2]; rfl] at gd ⊢
  rw [hrq, hq] at h2
  have e := doR_ok (v := X) (k := 1) (r := (withR X ⟨4, 0, 0, 0, 0, q.d⟩, [], 0)) (by rw [hdl]; exact Nat.le_of_ble_eq_true rfl) rfl (by rw [hdl]; show ((3 : Nat) : Int) ≤ X.conf.data; rw [← hX]; show ((3 : Nat) : Int) ≤ v.conf.data; rw [I.data]; decide)
  rw [e] at gd ⊢
  exact ask_yes I gd hm (by omega) (by rw [← hX]; rfl) (by show (X.req ++ [_]).length = _; rw [hrq, List.length_append, hq]; rfl) (by rw [← hX]; rfl) (fun h => absurd h (by decide)) (fun _ => ⟨by rw [← hX]; rfl, by rw [← hX]; rfl⟩) (fun h => absurd h (by decide))
theorem step_timer {N many tm fr hd : Nat} {v : VVm} {nm : Str} {kind : Int} (hnm : nm ≠ [80, 79, 83, 84]) (hn2 : nm ≠ [67, 65, 78, 67, 69, 76]) (ht : timerB nm = true) (I : AskI N many tm fr hd v) (q : VQuad) (g : GoodV N (withD v [q.a, q.b, q.c, q.d]))
  (hw : doS (withD v [q.a, q.b, q.c, q.d]) (numberS nm) = doR (withD v [q.a, q.b, q.c, q.d]) 4 (pTimer kind (withD v [q.a, q.b, q.c, q.d]) [q.a, q.b, q.c, q.d])) : AskR nm q N many tm fr hd v (doS (withD v [q.a, q.b, q.c, q.d]) (numberS nm)) := by
 have gd := doS_good (n := numberS nm) g
 have hm : mayB nm hd tm fr q.b q.c q.d = (hereA hd q.b q.c && (decide (q.d ≥ 1) && decide (q.d < 4294967296) && decide ((tm : Int) < fr))) := by
  unfold mayB hereB
  rw [ht, if_neg hnm, decide_eq_false hn2]; simp
 have hq := I.req
 have h5 := I.next
 have h6 := I.free
 have h7 := I.tmf
 have h8 := I.fr
 rw [hw] at gd ⊢
 generalize hX : withD v [q.a, q.b, q.c, q.d] = X at g gd ⊢
 have hdl : X.d = [q.a, q.b, q.c, q.d] := by rw [← hX]; rfl
 have hhd : X.hand.length = hd := by rw [← hX]; exact I.hand
 have hrq : X.req = v.req := by rw [← hX]; rfl
 have hfr : X.free = v.free := by rw [← hX]; rfl
 have hnx : X.next = v.next := by rw [← hX]; rfl
 have hb2 : pBounds X [q.a, q.b, q.c, q.d] ↔ hereA hd q.b q.c ≠ true := bounds_iff (x := [q.a, q.b, q.c, q.d]) hhd
 by_cases h1 : pBounds X [q.a, q.b, q.c, q.d]
 ·rw [show pTimer kind X [q.a, q.b, q.c, q.d] = (X, [], -259) from by unfold pTimer; rw [if_pos h1], doR_bad (by rw [hdl]; exact Nat.le_of_ble_eq_true rfl) (show (-259 : Int) ≠ 0 by decide)]
  exact ask_no (show (-259 : Int) ≠ 0 by decide) g (by rw [hm, show hereA hd q.b q.c = false from by simpa using hb2.1 h1]; rfl)
 ·have hh : hereA hd q.b q.c = true := by
   cases hz : hereA hd q.b q.c with
   | true => rfl
   | false => exact absurd (hb2.2 (by rw [hz]; simp)) h1
  have e3 : xat [q.a, q.b, q.c, q.d] 3 = q.d := rfl
  by_cases h3 : xat [q.a, q.b, q.c, q.d] 3 < 1 ∨ 4294967295 < xat [q.a, q.b, q.c, q.d] 3
  ·rw [show pTimer kind X [q.a, q.b, q.c, q.d] = (X, [], -24) from by unfold pTimer; rw [if_neg h1, if_pos h3], doR_bad (by rw [hdl]; exact Nat.le_of_ble_eq_true rfl) (show (-24 : Int) ≠ 0 by decide)]
   rw [e3] at h3
   refine ask_no (show (-24 : Int) ≠ 0 by decide) g ?_
   rw [hm, hh]
   have : ¬ (q.d ≥ 1 ∧ q.d < 4294967296) := by omega
   by_cases h9 : q.d ≥ 1
   ·rw [decide_eq_false (p := q.d < 4294967296) (fun h => this ⟨h9, h⟩)]; simp
   ·rw [decide_eq_false h9]; simp
  ·by_cases h2 : 16 ≤ (X.req.length : Int)
   ·rw [show pTimer kind X [q.a, q.b, q.c, q.d] = (X, [], -257) from by unfold pTimer; rw [if_neg h1, if_neg h3, if_pos h2], doR_bad (by rw [hdl]; exact Nat.le_of_ble_eq_true rfl) (show (-257 : Int) ≠ 0 by decide)]
    rw [hrq, hq] at h2
    exact ask_no (show (-257 : Int) ≠ 0 by decide) g (by rw [decide_eq_false (by omega)]; simp)
   ·by_cases h4 : X.free = 0 ∨ X.next = 4611686018427387904
    ·rw [show pTimer kind X [q.a, q.b, q.c, q.d] = (X, [], -258) from by unfold pTimer; rw [if_neg h1, if_neg h3, if_neg h2, if_pos h4], doR_bad (by rw [hdl]; exact Nat.le_of_ble_eq_true rfl) (show (-258 : Int) ≠ 0 by decide)]
     rw [hfr, hnx, h5, h6] at h4
     exact ask_no (show (-258 : Int) ≠ 0 by decide) g (by rw [hm, decide_eq_false (p := (tm : Int) < fr) (by omega)]; simp)
    ·rw [show pTimer kind X [q.a, q.b, q.c, q.d] = ({ withR X ⟨kind, q.a, q.b, q.c, q.d, X.next⟩ with free := W64 (X.free - 1), next := W64 (X.next + 1) }, [X.next], 0) from by unfold pTimer; rw [if_neg h1, if_neg h3, if_neg h2, if_neg h4]; rfl] at gd ⊢
     rw [hrq, hq] at h2
     rw [hfr, hnx, h5, h6] at h4
     rw [e3] at h3
     have e := doR_ok (v := X) (k := 4) (r := ({ withR X ⟨kind, q.a, q.b, q.c, q.d, X.next⟩ with free := W64 (X.free - 1), next := W64 (X.next + 1) }, [X.next], 0)) (by rw [hdl]; exact Nat.le_of_ble_eq_true rfl) rfl (by rw [hdl]; show ((1 : Nat) : Int) ≤ X.conf.data; rw [← hX]; show ((1 : Nat) : Int) ≤ v.conf.data; rw [I.data]; decide)
     rw [e] at gd ⊢
     refine ask_yes I gd ?_ (by omega) (by rw [← hX]; rfl) (by show (X.req ++ [_]).length = _; rw [hrq, List.length_append, hq]; rfl) (by rw [← hX]; rfl) (fun _ => ⟨by omega, ?_, by show W64 (X.free - 1) = _; rw [hfr], by show W64 (X.next + 1) = _; rw [hnx]⟩) (fun h => by rw [ht] at h; cases h) (fun h => absurd h hnm)
     ·rw [hm, hh, decide_eq_true (p := q.d ≥ 1) (by omega), decide_eq_true (p := q.d < 4294967296) (by omega), decide_eq_true (p := (tm : Int) < fr) (by omega)]; rfl
     ·show X.d.take (X.d.length - 4) ++ [X.next] = _
      rw [hdl, hnx, h5]; rfl
theorem ask_step {N many tm fr hd : Nat} {v : VVm} (I : AskI N many tm fr hd v) (q : VQuad) (hq : QOk q) (k : Nat) : AskR (asksN.getD (k % 4) []) q N many tm fr hd v (doS (withD v [q.a, q.b, q.c, q.d]) (numberS (asksN.getD (k % 4) []))) := by
 have hf : FitL [q.a, q.b, q.c, q.d] := by
  intro x hx
  obtain ⟨h1, h2, h3, h4⟩ := hq
  simp at hx
  rcases hx with rfl | rfl | rfl | rfl <;> assumption
 have g : GoodV N (withD v [q.a, q.b, q.c, q.d]) := good_withD I.good hf (by rw [I.data]; show ((4 : Nat) : Int) ≤ 32; decide)
 have h4 : k % 4 = 0 ∨ k % 4 = 1 ∨ k % 4 = 2 ∨ k % 4 = 3 := by omega
 rcases h4 with h | h | h | h <;> rw [h]
 ·exact step_post I q g
 ·exact step_timer (nm := [65, 70, 84, 69, 82]) (kind := 2) (by decide) (by decide) (by decide) I q g (aw_after _ _ _ _ _)
 ·exact step_timer (nm := [69, 86, 69, 82, 89]) (kind := 3) (by decide) (by decide) (by decide) I q g (aw_every _ _ _ _ _)
 ·exact step_cancel I q g
def zH : VHand := ⟨0, 0, 0, false⟩
def askV (hd fr : Nat) : VVm := { stockS [] with hand := List.replicate hd zH, free := (fr : Int) }
theorem askV_I (hd fr : Nat) (h : hd ≤ 64) (hf : fr ≤ 64) : AskI 0 0 0 fr hd (askV hd fr) := by
 have g := stock_good (d := []) (by decide) (fun a ha => by cases ha)
 have R := (right_iff _).1 g.right
 refine ⟨⟨(right_iff _).2 { fits := R.fits, mem := R.mem, dict := R.dict, pic := R.pic, len := R.len, here0 := R.here0, here1 := R.here1, f := R.f, hand := ?_, d := R.d, r := R.r, fl := R.fl, dl := R.dl, out := R.out, req := R.req, free0 := ?_, free1 := ?_, next0 := R.next0, next1 := R.next1, handl := ?_ }, g.old, g.d, g.ints⟩, rfl, rfl, by omega, rfl, ?_, by omega, hf, ?_⟩
 ·show (List.replicate hd zH).all handOk = true
  rw [List.all_eq_true]
  intro x hx
  rw [(List.mem_replicate.1 hx).2]; rfl
 ·show (0 : Int) ≤ (fr : Int); omega
 ·show (fr : Int) ≤ 64; omega
 ·show (List.replicate hd zH).length ≤ 64; rw [List.length_replicate]; exact h
 ·show (fr : Int) = (fr : Int) - ((0 : Nat) : Int); omega
 ·show (List.replicate hd zH).length = hd; rw [List.length_replicate]
end Go.Proofs.YtphgdofmjpdhaaaGreat
namespace Go.Proofs.YtphgdofmjpdhaaaGreat
open Go.RowKit
set_option maxRecDepth 100000
set_option maxHeartbeats 4000000
theorem stepB_of {b : List UInt8} {k n : Nat} {p q : Prop} [Decidable p] [Decidable q] (hn : nval k = n) (h1 : (allN.getD k [] = [40, 104, 97, 108, 116, 41]) = p) (h2 : (allN.getD k [] = [40, 99, 97, 117, 103, 104, 116, 41]) = q) :
  stepB b k = if q then put2 (if p then put2 (put2 b (32 + 8 * k) n) 16 (32 + 8 * k) else put2 b (32 + 8 * k) n) 24 (32 + 8 * k) else (if p then put2 (put2 b (32 + 8 * k) n) 16 (32 + 8 * k) else put2 b (32 + 8 * k) n) := by
 subst h1 h2 hn
 unfold stepB
 simp only
 split <;> split <;> simp_all
theorem ar_1 {k : Nat} (h : k < 167) : IntKind.i64.wrap (32 + IntKind.i64.wrap (8 * (k : Int))) = ((32 + 8 * k : Nat) : Int) := by simp only [i64w]; unfold wrap64; omega
theorem ar_2 {k n : Nat} (h : k < 167) (hn : n = 130) (h3 : 130 ≤ k) : IntKind.i64.wrap (IntKind.i64.wrap (300 + (k : Int)) - (n : Int)) = ((170 + k : Nat) : Int) := by subst hn; simp only [i64w]; unfold wrap64; omega
theorem ar_3 {k : Nat} (h : k < 167) : IntKind.i64.wrap (((32 + 8 * k : Nat) : Int) + 1) = ((32 + 8 * k + 1 : Nat) : Int) := by simp only [i64w]; unfold wrap64; omega
theorem newW (k : Nat) {q : SK} : PV.seq (newL k ++ [wordN k]).length ((newL k ++ [wordN k]).flatMap cWord) q = .seq (newL (k + 1)).length ((newL (k + 1)).flatMap cWord) q := by rw [newL_succ]
theorem frz_b {M : Nat} {b : List UInt8} (h : b.length = M) : PV.seq M ((b.flatMap cByte).take M) .any = sq cByte b := by rw [cB_take, List.take_of_length_le (by omega), ← h]; rfl
def vmOf (c : VConf) (b : List UInt8) (l : List VWord) : VVm := { conf := c, mem := ⟨b, []⟩, here := 1368, d := [], r := [], f := [], dict := l, last := 0, out := [], pic := ⟨[], false⟩, req := [], free := 0, next := 0, arg := 0, self := 0, now := 0, hand := [] }
theorem newVm_of (c : VConf) : newVm c = vmOf c (newB c.mem.toNat 167) (newL 167) := rfl
theorem ref_New (c : VConf) (hc : fitsV c) : PureC Tryz.prog 44 [eConf c] (tVm (newVm c, 0)) := by
 have hM : 2048 ≤ c.mem ∧ c.mem ≤ 65536 := ⟨hc.1, hc.2.1⟩
 obtain ⟨M, hMe⟩ : ∃ M : Nat, c.mem = M := ⟨c.mem.toNat, by omega⟩
 have hMt : c.mem.toNat = M := by omega
 have hN := names_len
 have hS := specials_len
 have hA := allN_len
 have hD : decide (fitsV c) = true := decide_eq_true hc
 refine pW tG (rs := [.cell 2 36, .tmp 3]) Tryz.func44 rfl rfl rfl (by simp) (by simp) (fun B => ?_)
 refine zu3 ?_
 refine zp1 ?_
 refine Wc rfl rfl (dC rfl Tryz.func40 rfl rfl ((ref_Fits c) _)) ?_
 refine zs1 ?_
 refine Ws ?_
 refine zu2 ?_
 refine Wf rfl (by rw [hD]; rfl) ?_
 refine Wj ?_
 refine zp2 ?_
 refine z2 ?_ (q := (by (simp_all; omega)))
 refine WO_obI 2 rfl (zeros_b rfl) rfl ?_
 refine Wa 18 rfl (show PV.arr 2 0 c.mem.toNat c.mem.toNat = .arr 2 0 M M by rw [hMt]) ?_
 refine WO_obI 2 rfl (show Ob.cells ((List.replicate c.mem.toNat (0 : UInt8)).flatMap cByte) 5 = .cells ((List.replicate M (0 : UInt8)).flatMap cByte) 5 by rw [hMt]) rfl ?_
 refine zs1 ?_
 refine zp1 ?_
 refine z2 ?_ (q := (by omega))
 refine Wd rfl rfl (does_store (lO tG rfl) rfl rfl rfl rfl rfl rfl (by rw [Nat.ble_eq, cB_len]; simp; omega)) ?_
 refine WO_obI 2 rfl (congrArg (fun z => Ob.cells z 5) (splice_at (x := 10) (n := 0) rfl (by simp; omega))) rfl ?_
 refine z0 ?_
 refine Wc rfl rfl (dC rfl Tryz.func30 rfl rfl ((ref_NamesC) _)) ?_
 refine Wc rfl rfl (dC rfl Tryz.func77 rfl rfl ((ref_Specials) _)) ?_
 refine Wd rfl rfl (does_append_clip (lO tG rfl) rfl (lO tG rfl) (lO tG rfl) rfl rfl (by exact ⟨_, rfl⟩) (by exact ⟨rfl, rfl, flatMap_len _ 1 (fun _ => rfl) _, okC_flat _ (fun _ => rfl) _⟩) (by exact flatMap_len _ 1 (fun _ => rfl) _) (by (dsimp only; omega)) (by (rw [hN, hS]; decide))) ?_
 refine Wa 23 rfl (sq_append cStr) ?_
 refine Wm 23 rfl (imp_seq _ _ _) ?_
 refine zs1 ?_
 refine zp1 ?_
 refine WO_own 7 0 3 rfl rfl ?_
 refine Wn ?_
 refine Ws ?_
 refine zu1 ?_
 refine Wl ?_
 show W _ _ _ _ _ _ _
 refine W_loopS (fun (k : Nat) => [(1, .ptr 0 0), (2, .ptr 1 0), (5, .arr 2 0 M M), (6, sq cStr allN), (7, .seq (newL k).length ((newL k).flatMap cWord) (.own 5 3)), (8, i64 k)]) (fun (k : Nat) => [.cells (cConf c) 23, .cells vmZ 36, .cells ((newB M k).flatMap cByte) 5, .dead, .dead]) (fun (k : Nat) => [.free ((newL k).length * 3)]) (fun (k : Nat) => k ≤ 167) (fun (k : Nat) => 167 - k) (0) (by omega) [4] ?_ ?_
 ·exact fitT
 ·intro k hk
  refine Ws ?_
  refine zu4 ?_
  refine Wi rfl (fun hi2 => ?_) (fun hi2 => ?_)
  ·have hlt : k < 167 := by have := oT hi2; rw [hA] at this; omega
   have hB := newB_len M k
   have hL := newL_len k
   have w1 := ar_1 hlt
   have w3 := ar_3 hlt
   refine Wj ?_
   refine Ws ?_
   refine Wl ?_
   refine zp3 ?_
   refine Wa 32 rfl (congrArg (fun z => PV.val (Value.int .i64 z)) w1) ?_
   refine zs1 ?_
   refine zu2 ?_
   refine Ws ?_
   refine zp1 ?_
   refine Wc rfl rfl (dC rfl Tryz.func30 rfl rfl ((ref_Names) _)) ?_
   refine zs2 ?_
   refine Wi rfl (fun hi3 => ?_) (fun hi3 => ?_)
   ·have hk3 : 130 ≤ k := by have := oT hi3; rw [hN] at this; omega
    have w2 := ar_2 hlt hN hk3
    have hn : nval k = 170 + k := by unfold nval; rw [if_pos hk3]
    refine W_region rfl ?_
    refine zy2 ?_
    refine Wc rfl rfl (dC rfl Tryz.func30 rfl rfl ((ref_Names) _)) ?_
    refine zy2 ?_
    refine Wa 42 rfl (congrArg (fun z => PV.val (Value.int .i64 z)) w2) ?_
    refine zs1 ?_
    refine zp5 ?_
    refine Wa 47 rfl (u8_mod _) ?_
    refine z2 ?_ (q := (by omega))
    refine Wd rfl rfl (does_store (lO tG rfl) rfl rfl rfl rfl rfl rfl (by rw [Nat.ble_eq, cB_len, hB]; (try dsimp only); simp; omega)) ?_
    refine WO_obI 2 rfl (congrArg (fun z => Ob.cells z 5) (splice_at rfl (by omega))) rfl ?_
    refine Wn ?_
    refine zp3 ?_
    refine Wa 51 rfl (congrArg (fun z => PV.val (Value.int .i64 z)) w3) ?_
    refine zy3 ?_
    refine Wa 54 rfl (u8_quo _ (by omega)) ?_
    refine z2 ?_ (q := (by omega))
    refine Wd rfl rfl (does_store (lO tG rfl) rfl rfl rfl rfl rfl rfl (by rw [Nat.ble_eq, cB_len, List.length_set, hB]; (try dsimp only); simp; omega)) ?_
    refine WO_obI 2 rfl (congrArg (fun z => Ob.cells z 5) (splice_at rfl (by rw [List.length_set]; omega))) rfl ?_
    refine Wn ?_
    refine Ws ?_
    refine W_drawU [0, 0, 0, 0, 0, 0, 0, 0, 0, 0, 0, 0, 0, 0, 3, 0] [0, 1, 2, 3, 4, 5, 6, 7, 8, 9, 10, 11, 12, 13, 14, 15] mG rfl (by kernel_rfl) ?_
    iterate 3 refine z3 ?_
    refine Xi tG rfl rfl rfl rfl (fun _ => rfl) (by omega) (iN cStr 1 (fun _ => rfl) [] (by omega)) ?_
    iterate 4 refine z3 ?_
    refine Xi tG rfl rfl rfl rfl (fun _ => rfl) (by omega) (iN cStr 1 (fun _ => rfl) [] (by omega)) ?_
    iterate 2 refine z3 ?_
    refine Xc rfl rfl rfl rfl (fun _ => dC rfl Tryz.func78 rfl rfl ((ref_flags _ k) _)) ?_
    iterate 2 refine z3 ?_
    refine Xa 69 rfl ((show PV.seq 1 _ .clip = .seq (List.length [wordN k]) (List.flatMap cWord [wordN k]) .clip from rfl)) ?_
    refine WU_does3 rfl rfl rfl rfl (does_append_own (lO tG rfl) rfl (lO tG rfl) (lO tG rfl) rfl rfl rfl rfl (by simp) (by exact ⟨_, rfl⟩) (by exact ⟨rfl, rfl, flatMap_len _ 3 (fun _ => rfl) _, okC_flat _ (fun _ => rfl) _⟩) (by (rw [hL]; dsimp only; simp; omega)) (by (simp; omega))) ?_
    refine Xa 70 rfl (sq_append cWord) ?_
    refine z3 ?_
    skip
    refine WU_nil ?_
    refine Ws ?_
    refine zp2 ?_
    refine Wv tG rfl rfl rfl (by omega) (iN cStr 1 (fun _ => rfl) [] (by omega)) ?_
    refine zy2 ?_
    refine Wa 75 rfl (str_eql _ _) ?_
    refine Wn ?_
    refine Wi rfl (fun hi4 => ?_) (fun hi4 => ?_)
    ·have h1 : (allN.getD k [] = [40, 104, 97, 108, 116, 41]) = True := eq_true (oT hi4)
     refine zp4 ?_
     refine Wa 79 rfl (u8_mod _) ?_
     refine z2 ?_ (q := (by omega))
     refine Wd rfl rfl (does_store (lO tG rfl) rfl rfl rfl rfl rfl rfl (by rw [Nat.ble_eq, cB_len]; simp only [List.length_set, hB]; (try dsimp only); simp; omega)) ?_
     refine WO_obI 2 rfl (congrArg (fun z => Ob.cells z 5) (splice_at rfl (by simp only [List.length_set]; omega))) rfl ?_
     refine Wn ?_
     refine W_region rfl ?_
     refine zy4 ?_
     refine Wa 84 rfl (u8_quo _ (by omega)) ?_
     refine z2 ?_ (q := (by omega))
     refine Wd rfl rfl (does_store (lO tG rfl) rfl rfl rfl rfl rfl rfl (by rw [Nat.ble_eq, cB_len]; simp only [List.length_set, hB]; (try dsimp only); simp; omega)) ?_
     refine WO_obI 2 rfl (congrArg (fun z => Ob.cells z 5) (splice_at rfl (by simp only [List.length_set]; omega))) rfl ?_
     refine Wn ?_
     refine zp2 ?_
     refine Wv tG rfl rfl rfl (by omega) (iN cStr 1 (fun _ => rfl) [] (by omega)) ?_
     refine zy2 ?_
     refine Wa 90 rfl (str_eql _ _) ?_
     refine Wn ?_
     refine Wi rfl (fun hi5 => ?_) (fun hi5 => ?_)
     ·have h2 : (allN.getD k [] = [40, 99, 97, 117, 103, 104, 116, 41]) = True := eq_true (oT hi5)
      refine zp4 ?_
      refine Wa 94 rfl (u8_mod _) ?_
      refine z2 ?_ (q := (by omega))
      refine Wd rfl rfl (does_store (lO tG rfl) rfl rfl rfl rfl rfl rfl (by rw [Nat.ble_eq, cB_len]; simp only [List.length_set, hB]; (try dsimp only); simp; omega)) ?_
      refine WO_obI 2 rfl (congrArg (fun z => Ob.cells z 5) (splice_at rfl (by simp only [List.length_set]; omega))) rfl ?_
      refine Wn ?_
      refine W_region rfl ?_
      refine zy4 ?_
      refine Wa 99 rfl (u8_quo _ (by omega)) ?_
      refine z2 ?_ (q := (by omega))
      refine Wd rfl rfl (does_store (lO tG rfl) rfl rfl rfl rfl rfl rfl (by rw [Nat.ble_eq, cB_len]; simp only [List.length_set, hB]; (try dsimp only); simp; omega)) ?_
      refine WO_obI 2 rfl (congrArg (fun z => Ob.cells z 5) (splice_at rfl (by simp only [List.length_set]; omega))) rfl ?_
      refine Wn ?_
      refine W_region rfl ?_
      refine z1 ?_
      refine WO_obI 2 rfl (congrArg (fun z => Ob.cells (List.flatMap cByte z) 5) (show _ = newB M (k + 1) from (stepB_of hn h1 h2).symm)) rfl ?_
      refine zs2 ?_
      exact ⟨k + 1, [6], (by omega), (by omega), (fitT (sub := by repeat (first | exact subL_nil | refine subL_cons (by first | exact imp_of rfl | exact imp_of (newW k) | exact imp_of (congrArg i64 (by (rw [i64w]; unfold wrap64; omega)))) ?_)))⟩
     ·have h2 : (allN.getD k [] = [40, 99, 97, 117, 103, 104, 116, 41]) = False := eq_false (oF hi5)
      refine Wj ?_
      refine W_region rfl ?_
      refine z1 ?_
      refine WO_obI 2 rfl (congrArg (fun z => Ob.cells (List.flatMap cByte z) 5) (show _ = newB M (k + 1) from (stepB_of hn h1 h2).symm)) rfl ?_
      refine zs2 ?_
      exact ⟨k + 1, [6], (by omega), (by omega), (fitT (sub := by repeat (first | exact subL_nil | refine subL_cons (by first | exact imp_of rfl | exact imp_of (newW k) | exact imp_of (congrArg i64 (by (rw [i64w]; unfold wrap64; omega)))) ?_)))⟩
    ·have h1 : (allN.getD k [] = [40, 104, 97, 108, 116, 41]) = False := eq_false (oF hi4)
     refine Wj ?_
     refine zp2 ?_
     refine Wv tG rfl rfl rfl (by omega) (iN cStr 1 (fun _ => rfl) [] (by omega)) ?_
     refine zy2 ?_
     refine Wa 90 rfl (str_eql _ _) ?_
     refine Wn ?_
     refine Wi rfl (fun hi5 => ?_) (fun hi5 => ?_)
     ·have h2 : (allN.getD k [] = [40, 99, 97, 117, 103, 104, 116, 41]) = True := eq_true (oT hi5)
      refine zp4 ?_
      refine Wa 94 rfl (u8_mod _) ?_
      refine z2 ?_ (q := (by omega))
      refine Wd rfl rfl (does_store (lO tG rfl) rfl rfl rfl rfl rfl rfl (by rw [Nat.ble_eq, cB_len]; simp only [List.length_set, hB]; (try dsimp only); simp; omega)) ?_
      refine WO_obI 2 rfl (congrArg (fun z => Ob.cells z 5) (splice_at rfl (by simp only [List.length_set]; omega))) rfl ?_
      refine Wn ?_
      refine W_region rfl ?_
      refine zy4 ?_
      refine Wa 99 rfl (u8_quo _ (by omega)) ?_
      refine z2 ?_ (q := (by omega))
      refine Wd rfl rfl (does_store (lO tG rfl) rfl rfl rfl rfl rfl rfl (by rw [Nat.ble_eq, cB_len]; simp only [List.length_set, hB]; (try dsimp only); simp; omega)) ?_
      refine WO_obI 2 rfl (congrArg (fun z => Ob.cells z 5) (splice_at rfl (by simp only [List.length_set]; omega))) rfl ?_
      refine Wn ?_
      refine W_region rfl ?_
      refine z1 ?_
      refine WO_obI 2 rfl (congrArg (fun z => Ob.cells (List.flatMap cByte z) 5) (show _ = newB M (k + 1) from (stepB_of hn h1 h2).symm)) rfl ?_
      refine zs2 ?_
      exact ⟨k + 1, [6], (by omega), (by omega), (fitT (sub := by repeat (first | exact subL_nil | refine subL_cons (by first | exact imp_of rfl | exact imp_of (newW k) | exact imp_of (congrArg i64 (by (rw [i64w]; unfold wrap64; omega)))) ?_)))⟩
     ·have h2 : (allN.getD k [] = [40, 99, 97, 117, 103, 104, 116, 41]) = False := eq_false (oF hi5)
      refine Wj ?_
      refine W_region rfl ?_
      refine z1 ?_
      refine WO_obI 2 rfl (congrArg (fun z => Ob.cells (List.flatMap cByte z) 5) (show _ = newB M (k + 1) from (stepB_of hn h1 h2).symm)) rfl ?_
      refine zs2 ?_
      exact ⟨k + 1, [6], (by omega), (by omega), (fitT (sub := by repeat (first | exact subL_nil | refine subL_cons (by first | exact imp_of rfl | exact imp_of (newW k) | exact imp_of (congrArg i64 (by (rw [i64w]; unfold wrap64; omega)))) ?_)))⟩
   ·have hn : nval k = k := by have := oF hi3; rw [hN] at this; unfold nval; rw [if_neg (by omega)]
    refine Wj ?_
    refine zp5 ?_
    refine Wa 47 rfl (u8_mod _) ?_
    refine z2 ?_ (q := (by omega))
    refine Wd rfl rfl (does_store (lO tG rfl) rfl rfl rfl rfl rfl rfl (by rw [Nat.ble_eq, cB_len, hB]; (try dsimp only); simp; omega)) ?_
    refine WO_obI 2 rfl (congrArg (fun z => Ob.cells z 5) (splice_at rfl (by omega))) rfl ?_
    refine Wn ?_
    refine zp3 ?_
    refine Wa 51 rfl (congrArg (fun z => PV.val (Value.int .i64 z)) w3) ?_
    refine zy3 ?_
    refine Wa 54 rfl (u8_quo _ (by omega)) ?_
    refine z2 ?_ (q := (by omega))
    refine Wd rfl rfl (does_store (lO tG rfl) rfl rfl rfl rfl rfl rfl (by rw [Nat.ble_eq, cB_len, List.length_set, hB]; (try dsimp only); simp; omega)) ?_
    refine WO_obI 2 rfl (congrArg (fun z => Ob.cells z 5) (splice_at rfl (by rw [List.length_set]; omega))) rfl ?_
    refine Wn ?_
    refine Ws ?_
    refine W_drawU [0, 0, 0, 0, 0, 0, 0, 0, 0, 0, 0, 0, 0, 0, 3, 0] [0, 1, 2, 3, 4, 5, 6, 7, 8, 9, 10, 11, 12, 13, 14, 15] mG rfl (by kernel_rfl) ?_
    iterate 3 refine z3 ?_
    refine Xi tG rfl rfl rfl rfl (fun _ => rfl) (by omega) (iN cStr 1 (fun _ => rfl) [] (by omega)) ?_
    iterate 4 refine z3 ?_
    refine Xi tG rfl rfl rfl rfl (fun _ => rfl) (by omega) (iN cStr 1 (fun _ => rfl) [] (by omega)) ?_
    iterate 2 refine z3 ?_
    refine Xc rfl rfl rfl rfl (fun _ => dC rfl Tryz.func78 rfl rfl ((ref_flags _ k) _)) ?_
    iterate 2 refine z3 ?_
    refine Xa 69 rfl ((show PV.seq 1 _ .clip = .seq (List.length [wordN k]) (List.flatMap cWord [wordN k]) .clip from rfl)) ?_
    refine WU_does3 rfl rfl rfl rfl (does_append_own (lO tG rfl) rfl (lO tG rfl) (lO tG rfl) rfl rfl rfl rfl (by simp) (by exact ⟨_, rfl⟩) (by exact ⟨rfl, rfl, flatMap_len _ 3 (fun _ => rfl) _, okC_flat _ (fun _ => rfl) _⟩) (by (rw [hL]; dsimp only; simp; omega)) (by (simp; omega))) ?_
    refine Xa 70 rfl (sq_append cWord) ?_
    refine z3 ?_
    skip
    refine WU_nil ?_
    refine Ws ?_
    refine zp2 ?_
    refine Wv tG rfl rfl rfl (by omega) (iN cStr 1 (fun _ => rfl) [] (by omega)) ?_
    refine zy2 ?_
    refine Wa 75 rfl (str_eql _ _) ?_
    refine Wn ?_
    refine Wi rfl (fun hi4 => ?_) (fun hi4 => ?_)
    ·have h1 : (allN.getD k [] = [40, 104, 97, 108, 116, 41]) = True := eq_true (oT hi4)
     refine zp4 ?_
     refine Wa 79 rfl (u8_mod _) ?_
     refine z2 ?_ (q := (by omega))
     refine Wd rfl rfl (does_store (lO tG rfl) rfl rfl rfl rfl rfl rfl (by rw [Nat.ble_eq, cB_len]; simp only [List.length_set, hB]; (try dsimp only); simp; omega)) ?_
     refine WO_obI 2 rfl (congrArg (fun z => Ob.cells z 5) (splice_at rfl (by simp only [List.length_set]; omega))) rfl ?_
     refine Wn ?_
     refine W_region rfl ?_
     refine zy4 ?_
     refine Wa 84 rfl (u8_quo _ (by omega)) ?_
     refine z2 ?_ (q := (by omega))
     refine Wd rfl rfl (does_store (lO tG rfl) rfl rfl rfl rfl rfl rfl (by rw [Nat.ble_eq, cB_len]; simp only [List.length_set, hB]; (try dsimp only); simp; omega)) ?_
     refine WO_obI 2 rfl (congrArg (fun z => Ob.cells z 5) (splice_at rfl (by simp only [List.length_set]; omega))) rfl ?_
     refine Wn ?_
     refine zp2 ?_
     refine Wv tG rfl rfl rfl (by omega) (iN cStr 1 (fun _ => rfl) [] (by omega)) ?_
     refine zy2 ?_
     refine Wa 90 rfl (str_eql _ _) ?_
     refine Wn ?_
     refine Wi rfl (fun hi5 => ?_) (fun hi5 => ?_)
     ·have h2 : (allN.getD k [] = [40, 99, 97, 117, 103, 104, 116, 41]) = True := eq_true (oT hi5)
      refine zp4 ?_
      refine Wa 94 rfl (u8_mod _) ?_
      refine z2 ?_ (q := (by omega))
      refine Wd rfl rfl (does_store (lO tG rfl) rfl rfl rfl rfl rfl rfl (by rw [Nat.ble_eq, cB_len]; simp only [List.length_set, hB]; (try dsimp only); simp; omega)) ?_
      refine WO_obI 2 rfl (congrArg (fun z => Ob.cells z 5) (splice_at rfl (by simp only [List.length_set]; omega))) rfl ?_
      refine Wn ?_
      refine W_region rfl ?_
      refine zy4 ?_
      refine Wa 99 rfl (u8_quo _ (by omega)) ?_
      refine z2 ?_ (q := (by omega))
      refine Wd rfl rfl (does_store (lO tG rfl) rfl rfl rfl rfl rfl rfl (by rw [Nat.ble_eq, cB_len]; simp only [List.length_set, hB]; (try dsimp only); simp; omega)) ?_
      refine WO_obI 2 rfl (congrArg (fun z => Ob.cells z 5) (splice_at rfl (by simp only [List.length_set]; omega))) rfl ?_
      refine Wn ?_
      refine W_region rfl ?_
      refine z1 ?_
      refine WO_obI 2 rfl (congrArg (fun z => Ob.cells (List.flatMap cByte z) 5) (show _ = newB M (k + 1) from (stepB_of hn h1 h2).symm)) rfl ?_
      refine zs2 ?_
      exact ⟨k + 1, [6], (by omega), (by omega), (fitT (sub := by repeat (first | exact subL_nil | refine subL_cons (by first | exact imp_of rfl | exact imp_of (newW k) | exact imp_of (congrArg i64 (by (rw [i64w]; unfold wrap64; omega)))) ?_)))⟩
     ·have h2 : (allN.getD k [] = [40, 99, 97, 117, 103, 104, 116, 41]) = False := eq_false (oF hi5)
      refine Wj ?_
      refine W_region rfl ?_
      refine z1 ?_
      refine WO_obI 2 rfl (congrArg (fun z => Ob.cells (List.flatMap cByte z) 5) (show _ = newB M (k + 1) from (stepB_of hn h1 h2).symm)) rfl ?_
      refine zs2 ?_
      exact ⟨k + 1, [6], (by omega), (by omega), (fitT (sub := by repeat (first | exact subL_nil | refine subL_cons (by first | exact imp_of rfl | exact imp_of (newW k) | exact imp_of (congrArg i64 (by (rw [i64w]; unfold wrap64; omega)))) ?_)))⟩
    ·have h1 : (allN.getD k [] = [40, 104, 97, 108, 116, 41]) = False := eq_false (oF hi4)
     refine Wj ?_
     refine zp2 ?_
     refine Wv tG rfl rfl rfl (by omega) (iN cStr 1 (fun _ => rfl) [] (by omega)) ?_
     refine zy2 ?_
     refine Wa 90 rfl (str_eql _ _) ?_
     refine Wn ?_
     refine Wi rfl (fun hi5 => ?_) (fun hi5 => ?_)
     ·have h2 : (allN.getD k [] = [40, 99, 97, 117, 103, 104, 116, 41]) = True := eq_true (oT hi5)
      refine zp4 ?_
      refine Wa 94 rfl (u8_mod _) ?_
      refine z2 ?_ (q := (by omega))
      refine Wd rfl rfl (does_store (lO tG rfl) rfl rfl rfl rfl rfl rfl (by rw [Nat.ble_eq, cB_len]; simp only [List.length_set, hB]; (try dsimp only); simp; omega)) ?_
      refine WO_obI 2 rfl (congrArg (fun z => Ob.cells z 5) (splice_at rfl (by simp only [List.length_set]; omega))) rfl ?_
      refine Wn ?_
      refine W_region rfl ?_
      refine zy4 ?_
      refine Wa 99 rfl (u8_quo _ (by omega)) ?_
      refine z2 ?_ (q := (by omega))
      refine Wd rfl rfl (does_store (lO tG rfl) rfl rfl rfl rfl rfl rfl (by rw [Nat.ble_eq, cB_len]; simp only [List.length_set, hB]; (try dsimp only); simp; omega)) ?_
      refine WO_obI 2 rfl (congrArg (fun z => Ob.cells z 5) (splice_at rfl (by simp only [List.length_set]; omega))) rfl ?_
      refine Wn ?_
      refine W_region rfl ?_
      refine z1 ?_
      refine WO_obI 2 rfl (congrArg (fun z => Ob.cells (List.flatMap cByte z) 5) (show _ = newB M (k + 1) from (stepB_of hn h1 h2).symm)) rfl ?_
      refine zs2 ?_
      exact ⟨k + 1, [6], (by omega), (by omega), (fitT (sub := by repeat (first | exact subL_nil | refine subL_cons (by first | exact imp_of rfl | exact imp_of (newW k) | exact imp_of (congrArg i64 (by (rw [i64w]; unfold wrap64; omega)))) ?_)))⟩
     ·have h2 : (allN.getD k [] = [40, 99, 97, 117, 103, 104, 116, 41]) = False := eq_false (oF hi5)
      refine Wj ?_
      refine W_region rfl ?_
      refine z1 ?_
      refine WO_obI 2 rfl (congrArg (fun z => Ob.cells (List.flatMap cByte z) 5) (show _ = newB M (k + 1) from (stepB_of hn h1 h2).symm)) rfl ?_
      refine zs2 ?_
      exact ⟨k + 1, [6], (by omega), (by omega), (fitT (sub := by repeat (first | exact subL_nil | refine subL_cons (by first | exact imp_of rfl | exact imp_of (newW k) | exact imp_of (congrArg i64 (by (rw [i64w]; unfold wrap64; omega)))) ?_)))⟩
  ·have hge : k = 167 := by have := oF hi2; rw [hA] at this; omega
   have hB := newB_len M k
   have eN : tVm (newVm c, 0) = tVm (vmOf c (newB M k) (newL k), 0) := by rw [hge, newVm_of, hMt]
   generalize newB M k = b0 at hB eN ⊢
   generalize newL k = l0 at eN ⊢
   refine W_exit ?_
   refine zp2 ?_
   refine Wm 102 rfl (imp_arr_arw (Nat.le_refl _)) ?_
   refine WO_freeze 102 2 _ M rfl rfl (by rw [cB_len, hB]; exact Nat.le_refl _) ?_
   refine Wa 102 rfl (show _ = sq cByte b0 from frz_b hB) ?_
   refine zs5 ?_
   refine zR ?_
   rw [eN]; rfl
end Go.Proofs.YtphgdofmjpdhaaaGreat
namespace Go.Proofs.YtphgdofmjpdhaaaGreat
open Go.RowKit
set_option maxRecDepth 100000
set_option maxHeartbeats 4000000
theorem law_stocked (d : List Int) : PureC Tryz.prog 21 [sq cInt d] (eVm (stockS d)) := by
 refine pW tG (rs := [.cell 2 36]) Tryz.func21 rfl rfl rfl (by simp) (by simp) (fun B => ?_)
 refine zu1 ?_
 refine zp1 ?_
 refine Wc rfl rfl (dC rfl Tryz.func44 rfl rfl ((show PureC _ _ [eConf sC] (tVm (newVm sC, 0)) from ref_New sC sC_fits) _)) ?_
 refine zy5 ?_
 refine zs1 ?_
 refine zu3 ?_
 refine zu2 ?_
 refine zR ?_
 rfl
theorem law_shown_of (v : VVm) (hv : VmOk v) (hs : VSm v) (h0 : PureC Tryz.prog 21 [sq cInt [7, -2]] (eVm v)) (h1 : doS v 73 = ({ v with d := [-1, -4] }, 0)) (h2 : doS v 39 = ({ v with d := [5] }, 0)) (h3 : doS v 83 = (v, -9)) (h4 : doS v 110 = ({ v with d := [7], out := [45, 50, 32] }, 0)) : PureC Tryz.prog 12 [] (boo true) := by
 have p1 := h1 ▸ prim_Do v hv 73
 have p2 := h2 ▸ prim_Do v hv 39
 have p3 := h3 ▸ prim_Do v hv 83
 have p4 := h4 ▸ prim_Do v hv 110
 have pn := num_dot ▸ ref_Number [46]
 refine pW tG (rs := [.tmp 0]) Tryz.func12 rfl rfl rfl (by simp) (by simp) (fun B => ?_)
 refine zu1 ?_
 refine zp1 ?_
 refine Wa 10 rfl (bsL cInt [_, _] rfl rfl) ?_
 refine Wc rfl rfl (dC rfl Tryz.func21 rfl rfl ((h0) _)) ?_
 refine zs2 ?_
 refine zp1 ?_
 refine Wc rfl rfl (dC rfl Tryz.func14 rfl rfl ((p1) _)) ?_
 refine zy5 ?_
 refine zs1 ?_
 refine zp1 ?_
 refine Wc rfl rfl (dC rfl Tryz.func14 rfl rfl ((p2) _)) ?_
 refine zy5 ?_
 refine zs1 ?_
 refine zp1 ?_
 refine Wc rfl rfl (dC rfl Tryz.func14 rfl rfl ((p3) _)) ?_
 refine zy5 ?_
 refine zs1 ?_
 refine Ws ?_
 refine W_drawU [1, 0, 0, 0, 0, 0, 2, 3, 0] [0, 1, 2, 3, 4, 5, 6, 7, 8] mG rfl (by kernel_rfl) ?_
 refine z5 ?_
 refine Xc rfl rfl rfl rfl (fun _ => dC rfl Tryz.func22 rfl rfl ((pn) _)) ?_
 refine Xc rfl rfl rfl rfl (fun _ => dC rfl Tryz.func14 rfl rfl ((p4) _)) ?_
 iterate 3 refine z3 ?_
 refine WU_ev2 tG rfl rfl rfl rfl rfl trivial rfl ?_
 refine WU_ev3 tG rfl rfl rfl rfl rfl trivial ?_
 refine z3 ?_
 refine WU_nil ?_
 refine zp5 ?_
 refine z1 ?_
 refine Wa 38 rfl (bsL cInt [_, _] rfl rfl) ?_
 refine Wc rfl rfl (dC rfl Tryz.func23 rfl rfl ((ref_Same4 [-1, -4] [-1, -4] (by simp) (by simp)) _)) ?_
 refine zy2 ?_
 refine Wb 41 rfl (fun hg2 => ?_) (fun hg2 => ?_)
 ·refine zy4 ?_
  refine Wb 45 rfl (fun hg3 => ?_) (fun hg3 => ?_)
  ·refine zy3 ?_
   refine Wa 48 rfl (bsL cInt [_] rfl rfl) ?_
   refine Wc rfl rfl (dC rfl Tryz.func23 rfl rfl ((ref_Same4 [5] [5] (by simp) (by simp)) _)) ?_
   refine zy2 ?_
   refine Wb 51 rfl (fun hg4 => ?_) (fun hg4 => ?_)
   ·refine zy4 ?_
    refine Wb 55 rfl (fun hg5 => ?_) (fun hg5 => ?_)
    ·refine zy2 ?_
     refine Wc rfl rfl (dC rfl Tryz.func18 rfl rfl ((ref_Same10 v v hs hs) _)) ?_
     refine zy2 ?_
     refine Wb 60 rfl (fun hg6 => ?_) (fun hg6 => ?_)
     ·refine zy4 ?_
      refine Wb 64 rfl (fun hg7 => ?_) (fun hg7 => ?_)
      ·refine zy2 ?_
       refine Wd rfl rfl (does_bytes_str (lO tG rfl) rfl (lO tG rfl) rfl (lO tG rfl) rfl rfl rfl) ?_
       refine z1 ?_
       refine Wa 68 rfl (str_eql _ _) ?_
       refine zy2 ?_
       refine Wb 70 rfl (fun hg8 => ?_) (fun hg8 => ?_)
       ·refine Wc rfl rfl (dC rfl Tryz.func16 rfl rfl ((prim_Does 23) _)) ?_
        refine zy2 ?_
        refine Wb 73 rfl (fun hg9 => ?_) (fun hg9 => ?_)
        ·refine Wc rfl rfl (dC rfl Tryz.func16 rfl rfl ((prim_Does 129) _)) ?_
         refine zy2 ?_
         refine Wb 76 rfl (fun hg10 => ?_) (fun hg10 => ?_)
         ·refine Wc rfl rfl (dC rfl Tryz.func16 rfl rfl ((prim_Does 22) _)) ?_
          refine zy3 ?_
          refine Wb 80 rfl (fun hg11 => ?_) (fun hg11 => ?_)
          ·refine Wc rfl rfl (dC rfl Tryz.func16 rfl rfl ((prim_Does 130) _)) ?_
           refine zs3 ?_
           refine zR ?_
           rfl
          ·refine z6 ?_
           refine z6 ?_
           refine zs2 ?_
           refine zR ?_
           (simp_all; done)
         ·refine z6 ?_
          refine z6 ?_
          refine zy2 ?_
          iterate 2 refine z6 ?_
          refine zs2 ?_
          refine zR ?_
          (simp_all; done)
        ·refine z6 ?_
         refine zy2 ?_
         iterate 2 refine z6 ?_
         refine zy2 ?_
         iterate 2 refine z6 ?_
         refine zs2 ?_
         refine zR ?_
         (simp_all; done)
       ·refine z6 ?_
        refine zy2 ?_
        refine z6 ?_
        refine zy2 ?_
        iterate 2 refine z6 ?_
        refine zy2 ?_
        iterate 2 refine z6 ?_
        refine zs2 ?_
        refine zR ?_
        (simp_all; done)
      ·refine z6 ?_
       iterate 3 refine z6 ?_
       refine zy2 ?_
       refine z6 ?_
       refine zy2 ?_
       refine z6 ?_
       refine zy2 ?_
       iterate 2 refine z6 ?_
       refine zy2 ?_
       iterate 2 refine z6 ?_
       refine zs2 ?_
       refine zR ?_
       (simp_all; done)
     ·refine z6 ?_
      refine z6 ?_
      refine zy2 ?_
      iterate 4 refine z6 ?_
      refine zy2 ?_
      refine z6 ?_
      refine zy2 ?_
      refine z6 ?_
      refine zy2 ?_
      iterate 2 refine z6 ?_
      refine zy2 ?_
      iterate 2 refine z6 ?_
      refine zs2 ?_
      refine zR ?_
      (simp_all; done)
    ·refine z6 ?_
     iterate 2 refine z6 ?_
     refine zy2 ?_
     iterate 2 refine z6 ?_
     refine zy2 ?_
     iterate 4 refine z6 ?_
     refine zy2 ?_
     refine z6 ?_
     refine zy2 ?_
     refine z6 ?_
     refine zy2 ?_
     iterate 2 refine z6 ?_
     refine zy2 ?_
     iterate 2 refine z6 ?_
     refine zs2 ?_
     refine zR ?_
     (simp_all; done)
   ·refine z6 ?_
    refine z6 ?_
    refine zy2 ?_
    iterate 3 refine z6 ?_
    refine zy2 ?_
    iterate 2 refine z6 ?_
    refine zy2 ?_
    iterate 4 refine z6 ?_
    refine zy2 ?_
    refine z6 ?_
    refine zy2 ?_
    refine z6 ?_
    refine zy2 ?_
    iterate 2 refine z6 ?_
    refine zy2 ?_
    iterate 2 refine z6 ?_
    refine zs2 ?_
    refine zR ?_
    (simp_all; done)
  ·refine z6 ?_
   iterate 3 refine z6 ?_
   refine zy2 ?_
   iterate 2 refine z6 ?_
   refine zy2 ?_
   iterate 3 refine z6 ?_
   refine zy2 ?_
   iterate 2 refine z6 ?_
   refine zy2 ?_
   iterate 4 refine z6 ?_
   refine zy2 ?_
   refine z6 ?_
   refine zy2 ?_
   refine z6 ?_
   refine zy2 ?_
   iterate 2 refine z6 ?_
   refine zy2 ?_
   iterate 2 refine z6 ?_
   refine zs2 ?_
   refine zR ?_
   (simp_all; done)
 ·refine z6 ?_
  refine z6 ?_
  refine zy2 ?_
  iterate 4 refine z6 ?_
  refine zy2 ?_
  iterate 2 refine z6 ?_
  refine zy2 ?_
  iterate 3 refine z6 ?_
  refine zy2 ?_
  iterate 2 refine z6 ?_
  refine zy2 ?_
  iterate 4 refine z6 ?_
  refine zy2 ?_
  refine z6 ?_
  refine zy2 ?_
  refine z6 ?_
  refine zy2 ?_
  iterate 2 refine z6 ?_
  refine zy2 ?_
  iterate 2 refine z6 ?_
  refine zs2 ?_
  refine zR ?_
  (simp_all; done)
theorem law_shown : PureC Tryz.prog 12 [] (boo true) := by
 have hg : GoodV 0 (stockS [7, -2]) := stock_good (by decide) (fun a ha => by simp at ha; rcases ha with rfl | rfl <;> unfold Fit64 <;> omega)
 have R := (right_iff _).1 hg.right
 refine law_shown_of (stockS [7, -2]) (good_ok hg (by decide)) ?_ (law_stocked _) D73 D39 D83 D110
 have a1 := R.r
 have a2 := R.fl
 have a3 := R.dl
 have a4 := R.handl
 have b1 : (stockS [7, -2]).conf.ret = 32 := rfl
 have b2 : (stockS [7, -2]).conf.words = 200 := rfl
 exact ⟨by decide, by decide, by omega, by omega, by omega, by decide, by omega⟩
end Go.Proofs.YtphgdofmjpdhaaaGreat
namespace Go.Proofs.YtphgdofmjpdhaaaGreat
open Go.RowKit
set_option maxRecDepth 100000
set_option maxHeartbeats 400000
theorem kmod (k : UInt8) (n : Nat) (hn : 0 < n) : IntKind.i64.wrap (k.toNat : Int) = (k.toNat : Int) ∧ ((k.toNat : Int)).tmod (n : Int) = ((k.toNat % n : Nat) : Int) := by
 have := k.toNat_lt
 constructor
 ·simp only [i64w]; unfold wrap64; omega
 ·rw [Int.tmod_eq_emod_of_nonneg (by omega)]; omega
end Go.Proofs.YtphgdofmjpdhaaaGreat
namespace Go.Proofs.YtphgdofmjpdhaaaGreat
open Go.RowKit
open Go.WideShapes
set_option maxRecDepth 100000
set_option maxHeartbeats 8000000
theorem zero_hand {n : Int} {d : TD} (hz : d.zero = cHand zH) {m : Nat} (hm : n = (m : Int)) : PV.seq n.toNat (zerosPV n.toNat d) .clip = sqc cHand (List.replicate m zH) := by
 subst hm
 unfold zerosPV sqc
 rw [Int.toNat_natCast, hz, List.length_replicate]
 congr 1
 induction m with
 | zero => rfl
 | succ m ih => rw [List.replicate_succ, List.flatten_cons, List.replicate_succ, List.flatMap_cons, ih]
theorem law_asks_of (c0 c1 : UInt8) (l : List VQuad) (hq : ∀ x ∈ l, QOk x) (hl : l.length ≤ 9223372036854775807) (hd fr : Nat) (h4 : hd ≤ 64) (h64 : fr ≤ 64) (kh : ((c0.toNat : Nat) : Int).tmod ((5 : Nat) : Int) = (hd : Int)) (kf : ((c1.toNat : Nat) : Int).tmod ((65 : Nat) : Int) = (fr : Int))
  (S0 : VVm) (hI : AskI 0 0 0 fr hd ({ S0 with hand := List.replicate hd zH, free := (fr : Int) } : VVm)) (hsh : PureC Tryz.prog 12 [] (boo true)) (st : PureC Tryz.prog 21 [sq cInt []] (eVm S0)) :
  PureC Tryz.prog 9 [.val (.int .u8 (c0.toNat : Int)), .val (.int .u8 (c1.toNat : Int)), sq cQuad l] (boo true) := by
 have kw0 := (kmod c0 5 (by decide)).1
 have kw1 := (kmod c1 65 (by decide)).1
 refine pW tG (rs := [.tmp 6]) Tryz.func9 rfl rfl rfl (by simp) (by simp) (fun B => ?_)
 refine zu1 ?_
 refine z8 ?_
 refine Wc rfl rfl (dC rfl Tryz.func12 rfl rfl ((hsh) _)) ?_
 refine zs1 ?_
 refine Ws ?_
 refine zu3 ?_
 refine Wi rfl (fun hi1 => ?_) (fun hi1 => ?_)
 ·refine zu2 ?_
  refine zR ?_
  rfl
 ·have hl20 : l.length ≤ 20 := by have := oF hi1; omega
  refine Wj ?_
  refine z8 ?_
  refine Wc rfl rfl (dC rfl Tryz.func21 rfl rfl ((st) _)) ?_
  refine zs2 ?_
  refine zp2 ?_
  refine Wa 26 rfl (congrArg (fun z => PV.val (Value.int .i64 z)) kw0) ?_
  refine z1 ?_
  refine Wa 27 rfl (congrArg (fun z => PV.val (Value.int .i64 z)) kh) ?_
  refine Wd rfl rfl (does_makeSeq (lO tG rfl) rfl (lO tG rfl) rfl rfl rfl (by omega) (by dsimp only; omega) (by omega)) ?_
  refine Wa 28 rfl (zero_hand rfl rfl) ?_
  refine Wm 28 rfl (imp_seq _ _ _) ?_
  refine zs2 ?_
  refine zp2 ?_
  refine Wa 31 rfl (congrArg (fun z => PV.val (Value.int .i64 z)) kw1) ?_
  refine z1 ?_
  refine Wa 32 rfl (congrArg (fun z => PV.val (Value.int .i64 z)) kf) ?_
  refine zs2 ?_
  refine zu1 ?_
  refine zu1 ?_
  refine Ws ?_
  refine zu1 ?_
  refine Wl ?_
  show W _ _ _ _ _ _ _
  refine W_loopS (fun (s : VVm × Nat × Nat × Nat) => [(1, .val (.int .u8 (c1.toNat : Int))), (2, sq cQuad l), (7, boo true), (8, .ptr 0 0), (9, i64 (s.2.1 : Int)), (10, i64 (s.2.2.1 : Int)), (11, i64 (s.2.2.2 : Int))]) (fun (s : VVm × Nat × Nat × Nat) => [.cells (cVm s.1) 36]) (fun (s : VVm × Nat × Nat × Nat) => []) (fun (s : VVm × Nat × Nat × Nat) => s.2.2.2 ≤ l.length ∧ AskI (2 * s.2.2.2) s.2.1 s.2.2.1 fr hd s.1) (fun (s : VVm × Nat × Nat × Nat) => l.length - s.2.2.2) ((({ S0 with hand := List.replicate hd zH, free := (fr : Int) } : VVm), 0, 0, 0)) (by exact ⟨Nat.zero_le _, hI⟩) [] ?_ ?_
  ·exact fitT
  ·intro s hs
   refine Ws ?_
   refine zu4 ?_
   refine Wi rfl (fun hi2 => ?_) (fun hi2 => ?_)
   ·have hlt : s.2.2.2 < l.length := by have := oT hi2; omega
    obtain ⟨v, many, tm, k⟩ := s
    dsimp only at hs hlt
    obtain ⟨q, hqq⟩ : ∃ q, l.getD k default = q := ⟨_, rfl⟩
    have hqo : QOk q := by rw [← hqq]; unfold List.getD; rw [List.getElem?_eq_getElem hlt]; exact hq _ (List.getElem_mem hlt)
    have hR := ask_step hs.2 q hqo k
    have hm16 := hs.2.many
    have htf := hs.2.tmf
    have hgx : GoodV (2 * k) (withD v [q.a, q.b, q.c, q.d]) := good_withD hs.2.good (by intro z hz; obtain ⟨h1, h2, h3, h4⟩ := hqo; simp at hz; rcases hz with rfl | rfl | rfl | rfl <;> assumption) (by rw [hs.2.data]; show ((4 : Nat) : Int) ≤ 32; decide)
    obtain ⟨nm, hnm⟩ : ∃ nm, asksN.getD (k % 4) [] = nm := ⟨_, rfl⟩
    have pd := prim_Do (withD v [q.a, q.b, q.c, q.d]) (good_ok hgx (by omega)) (numberS nm)
    rw [hnm] at hR
    generalize doS (withD v [q.a, q.b, q.c, q.d]) (numberS nm) = r at hR pd
    obtain ⟨bA, hbA⟩ : ∃ b, hereA hd q.b q.c = b := ⟨_, rfl⟩
    obtain ⟨bB, hbB⟩ : ∃ b, hereB nm hd q.b q.c q.d = b := ⟨_, rfl⟩
    obtain ⟨bT, hbT⟩ : ∃ b, timerB nm = b := ⟨_, rfl⟩
    obtain ⟨bM, hbM⟩ : ∃ b, mayB nm hd tm fr q.b q.c q.d = b := ⟨_, rfl⟩
    have hok : (r.2 == 0) = (bM && decide ((many : Int) < 16)) := by rw [← hbM]; exact hR.ok
    have htm : r.2 = 0 → bT = true → r.1.d = [(tm : Int)] ∧ r.1.free = W64 (v.free - 1) := by rw [← hbT]; exact hR.tmr
    have hnx : r.2 = 0 → AskI (2 * k + 2) (many + 1) (tm + if bT = true then 1 else 0) fr hd (withD r.1 []) := by rw [← hbT]; exact hR.next
    have prr : PureC Tryz.prog 19 [eVm r.1] (boo true) := by have h := ref_Right10 r.1 (right_in ((right_iff _).1 hR.good.right) (by have := hR.good.old; omega)); rw [hR.good.right] at h; exact h
    refine Wj ?_
    refine Ws ?_
    refine Wl ?_
    refine zp1 ?_
    refine Wa 40 rfl (bsL cStr [_, _, _, _] rfl rfl) ?_
    refine zy2 ?_
    refine Wa 42 rfl ((show PV.val (.int .i64 _) = .val (.int .i64 ((k % 4 : Nat) : Int)) by rw [show ((k : Int)).tmod 4 = ((k % 4 : Nat) : Int) from by rw [Int.tmod_eq_emod_of_nonneg (by omega)]; omega])) ?_
    refine Wv tG rfl rfl rfl (by (simp_all; omega)) (iN cStr 1 (fun _ => rfl) [] (by (simp_all; omega))) ?_
    refine z1 ?_
    refine Wa 44 rfl ((show _ = str nm by rw [← hnm]; rfl)) ?_
    refine zs1 ?_
    refine zu3 ?_
    refine Ws ?_
    refine W_drawU [0, 0, 0, 0, 1, 0, 0, 0, 0, 1, 0, 0, 0, 0, 1, 0, 0, 0, 0, 1, 0, 0, 3] [0, 1, 2, 3, 4, 5, 6, 7, 8, 9, 10, 11, 12, 13, 14, 15, 16, 17, 18, 19, 20, 21, 22] mG rfl (by kernel_rfl) ?_
    iterate 2 refine z3 ?_
    refine Xi tG rfl rfl rfl rfl (fun _ => rfl) (by (simp only [dnL] at *; omega)) (iN cQuad 4 (fun _ => rfl) default (by omega)) ?_
    refine z4 ?_ (q := (by omega))
    refine z5 ?_
    refine Xa 50 rfl ((show _ = i64 q.a by rw [← hqq]; rfl)) ?_
    iterate 2 refine z3 ?_
    refine Xi tG rfl rfl rfl rfl (fun _ => rfl) (by (simp only [dnL] at *; omega)) (iN cQuad 4 (fun _ => rfl) default (by omega)) ?_
    refine z4 ?_ (q := (by omega))
    refine z5 ?_
    refine Xa 55 rfl ((show _ = i64 q.b by rw [← hqq]; rfl)) ?_
    iterate 2 refine z3 ?_
    refine Xi tG rfl rfl rfl rfl (fun _ => rfl) (by (simp only [dnL] at *; omega)) (iN cQuad 4 (fun _ => rfl) default (by omega)) ?_
    refine z4 ?_ (q := (by omega))
    refine z5 ?_
    refine Xa 60 rfl ((show _ = i64 q.c by rw [← hqq]; rfl)) ?_
    iterate 2 refine z3 ?_
    refine Xi tG rfl rfl rfl rfl (fun _ => rfl) (by (simp only [dnL] at *; omega)) (iN cQuad 4 (fun _ => rfl) default (by omega)) ?_
    refine z4 ?_ (q := (by omega))
    refine z5 ?_
    refine Xa 65 rfl ((show _ = i64 q.d by rw [← hqq]; rfl)) ?_
    refine z3 ?_
    refine Xa 66 rfl (bsL cInt [_, _, _, _] rfl rfl) ?_
    refine z3 ?_
    refine WU_ev3 tG rfl rfl rfl rfl rfl trivial ?_
    refine WU_nil ?_
    refine Ws ?_
    refine W_drawU [1, 0, 0, 0, 0, 0, 0, 2, 3, 0] [0, 1, 2, 3, 4, 5, 6, 7, 8, 9] mG rfl (by kernel_rfl) ?_
    refine z5 ?_
    refine z3 ?_
    refine Xc rfl rfl rfl rfl (fun _ => dC rfl Tryz.func22 rfl rfl ((ref_Number nm) _)) ?_
    refine Xc rfl rfl rfl rfl (fun _ => dC rfl Tryz.func14 rfl rfl ((pd) _)) ?_
    iterate 3 refine z3 ?_
    refine WU_ev2 tG rfl rfl rfl rfl rfl trivial rfl ?_
    refine WU_ev3 tG rfl rfl rfl rfl rfl trivial ?_
    refine z3 ?_
    refine WU_nil ?_
    refine W_meet [(1, .val (.int .u8 (c1.toNat : Int))), (2, sq cQuad l), (7, boo true), (8, .ptr 0 0), (9, i64 (many : Int)), (10, i64 (tm : Int)), (11, i64 (k : Int)), (12, str nm), (14, .ptr 2 0), (15, i64 r.2), (16, boo bA)] [.cells (cVm v) 36, .dead, .cells (cVm r.1) 36] [] ?_ ?_
    ·refine W_drawU [0, 0, 0, 0, 1, 0, 0, 0, 0, 0, 0, 1, 0, 1, 0, 0, 0, 0, 0, 0, 0, 0, 1, 0, 0, 0, 0, 0, 0, 0, 1, 0, 0, 0] [0, 1, 2, 3, 4, 5, 6, 7, 8, 9, 10, 11, 12, 13, 14, 15, 16, 17, 18, 19, 20, 21, 22, 23, 24, 25, 26, 27, 28, 29, 30, 31, 32, 33] mG rfl (by kernel_rfl) ?_
     iterate 2 refine z3 ?_
     refine Xi tG rfl rfl rfl rfl (fun _ => rfl) (by (simp only [dnL] at *; omega)) (iN cQuad 4 (fun _ => rfl) default (by omega)) ?_
     refine z4 ?_ (q := (by omega))
     refine z5 ?_
     refine Xa 79 rfl ((show _ = i64 q.b by rw [← hqq]; rfl)) ?_
     iterate 2 refine z3 ?_
     refine WU_split 81 rfl (fun hg1 => ?_) (fun hg1 => ?_)
     ·refine z3 ?_
      refine z3 ?_
      refine Xi tG rfl rfl rfl rfl (fun _ => rfl) (by (simp only [dnL] at *; omega)) (iN cQuad 4 (fun _ => rfl) default (by omega)) ?_
      refine z4 ?_ (q := (by omega))
      refine z5 ?_
      refine Xa 86 rfl ((show _ = i64 q.b by rw [← hqq]; rfl)) ?_
      refine z3 ?_
      refine z5 ?_
      refine z3 ?_
      refine Xa 89 rfl ((show _ = i64 (hd : Int) by rw [← hs.2.hand]; rfl)) ?_
      iterate 3 refine z3 ?_
      refine WU_split 92 rfl (fun hg2 => ?_) (fun hg2 => ?_)
      ·refine z3 ?_
       refine z3 ?_
       refine Xi tG rfl rfl rfl rfl (fun _ => rfl) (by (simp only [dnL] at *; omega)) (iN cQuad 4 (fun _ => rfl) default (by omega)) ?_
       refine z4 ?_ (q := (by omega))
       refine z5 ?_
       refine Xa 97 rfl ((show _ = i64 q.c by rw [← hqq]; rfl)) ?_
       iterate 3 refine z3 ?_
       refine WU_split 100 rfl (fun hg3 => ?_) (fun hg3 => ?_)
       ·refine z3 ?_
        refine z3 ?_
        refine Xi tG rfl rfl rfl rfl (fun _ => rfl) (by (simp only [dnL] at *; omega)) (iN cQuad 4 (fun _ => rfl) default (by omega)) ?_
        refine z4 ?_ (q := (by omega))
        refine z5 ?_
        refine Xa 105 rfl ((show _ = i64 q.c by rw [← hqq]; rfl)) ?_
        iterate 3 refine z3 ?_
        refine WU_nil ?_
        exact ⟨[], (fitT (sub := by repeat (first | exact subL_nil | refine subL_cons (by first | exact imp_of rfl | exact imp_of (congrArg boo (by rw [← hbA]; ((simp [hereA, hg1, hg2, hg3]; done))))) ?_)) (cont := nlo_cells (nF (flat_cVm _)) (nlo_dead (nlo_cells (nF (flat_cVm _)) nlo_nil))))⟩
       ·refine z7 ?_
        iterate 5 refine z7 ?_
        iterate 2 refine z3 ?_
        refine WU_nil ?_
        exact ⟨[], (fitT (sub := by repeat (first | exact subL_nil | refine subL_cons (by first | exact imp_of rfl | exact imp_of (congrArg boo (by rw [← hbA]; ((simp [hereA, hg1, hg2, hg3]; done))))) ?_)) (cont := nlo_cells (nF (flat_cVm _)) (nlo_dead (nlo_cells (nF (flat_cVm _)) nlo_nil))))⟩
      ·refine z7 ?_
       iterate 5 refine z7 ?_
       iterate 2 refine z3 ?_
       iterate 6 refine z7 ?_
       iterate 2 refine z3 ?_
       refine WU_nil ?_
       exact ⟨[], (fitT (sub := by repeat (first | exact subL_nil | refine subL_cons (by first | exact imp_of rfl | exact imp_of (congrArg boo (by rw [← hbA]; ((simp [hereA, hg1, hg2]; done))))) ?_)) (cont := nlo_cells (nF (flat_cVm _)) (nlo_dead (nlo_cells (nF (flat_cVm _)) nlo_nil))))⟩
     ·refine z7 ?_
      iterate 8 refine z7 ?_
      iterate 2 refine z3 ?_
      iterate 6 refine z7 ?_
      iterate 2 refine z3 ?_
      iterate 6 refine z7 ?_
      iterate 2 refine z3 ?_
      refine WU_nil ?_
      exact ⟨[], (fitT (sub := by repeat (first | exact subL_nil | refine subL_cons (by first | exact imp_of rfl | exact imp_of (congrArg boo (by rw [← hbA]; ((simp [hereA, hg1]; done))))) ?_)) (cont := nlo_cells (nF (flat_cVm _)) (nlo_dead (nlo_cells (nF (flat_cVm _)) nlo_nil))))⟩
    ·refine W_meet [(1, .val (.int .u8 (c1.toNat : Int))), (2, sq cQuad l), (7, boo true), (8, .ptr 0 0), (9, i64 (many : Int)), (10, i64 (tm : Int)), (11, i64 (k : Int)), (12, str nm), (14, .ptr 2 0), (15, i64 r.2), (16, boo bB)] [.cells (cVm v) 36, .dead, .cells (cVm r.1) 36] [] ?_ ?_
     ·refine zp2 ?_
      refine Wa 109 rfl (str_eql _ _) ?_
      refine Wn ?_
      refine Wi rfl (fun hi3 => ?_) (fun hi3 => ?_)
      ·have n0 : nm = [80, 79, 83, 84] := oT hi3
       refine W_drawU [0, 0, 0, 0, 1, 0, 0, 0, 0, 0, 0, 1, 0, 1, 0, 0, 0, 0, 0, 0, 0, 0, 1, 0, 0, 0, 0, 0, 0, 0, 1, 0, 0, 0] [0, 1, 2, 3, 4, 5, 6, 7, 8, 9, 10, 11, 12, 13, 14, 15, 16, 17, 18, 19, 20, 21, 22, 23, 24, 25, 26, 27, 28, 29, 30, 31, 32, 33] mG rfl (by kernel_rfl) ?_
       iterate 2 refine z3 ?_
       refine Xi tG rfl rfl rfl rfl (fun _ => rfl) (by omega) (iN cQuad 4 (fun _ => rfl) default (by omega)) ?_
       refine z4 ?_ (q := (by omega))
       refine z5 ?_
       refine Xa 114 rfl ((show _ = i64 q.c by rw [← hqq]; rfl)) ?_
       iterate 2 refine z3 ?_
       refine WU_split 116 rfl (fun hg4 => ?_) (fun hg4 => ?_)
       ·refine z3 ?_
        refine z3 ?_
        refine Xi tG rfl rfl rfl rfl (fun _ => rfl) (by omega) (iN cQuad 4 (fun _ => rfl) default (by omega)) ?_
        refine z4 ?_ (q := (by omega))
        refine z5 ?_
        refine Xa 121 rfl ((show _ = i64 q.c by rw [← hqq]; rfl)) ?_
        refine z3 ?_
        refine z5 ?_
        refine z3 ?_
        refine Xa 124 rfl ((show _ = i64 (hd : Int) by rw [← hs.2.hand]; rfl)) ?_
        iterate 3 refine z3 ?_
        refine WU_split 127 rfl (fun hg5 => ?_) (fun hg5 => ?_)
        ·refine z3 ?_
         refine z3 ?_
         refine Xi tG rfl rfl rfl rfl (fun _ => rfl) (by omega) (iN cQuad 4 (fun _ => rfl) default (by omega)) ?_
         refine z4 ?_ (q := (by omega))
         refine z5 ?_
         refine Xa 132 rfl ((show _ = i64 q.d by rw [← hqq]; rfl)) ?_
         iterate 3 refine z3 ?_
         refine WU_split 135 rfl (fun hg6 => ?_) (fun hg6 => ?_)
         ·refine z3 ?_
          refine z3 ?_
          refine Xi tG rfl rfl rfl rfl (fun _ => rfl) (by omega) (iN cQuad 4 (fun _ => rfl) default (by omega)) ?_
          refine z4 ?_ (q := (by omega))
          refine z5 ?_
          refine Xa 140 rfl ((show _ = i64 q.d by rw [← hqq]; rfl)) ?_
          iterate 3 refine z3 ?_
          refine WU_nil ?_
          exact ⟨[], (fitT (sub := by repeat (first | exact subL_nil | refine subL_cons (by first | exact imp_of rfl | exact imp_of (congrArg boo (by rw [← hbB]; ((unfold hereB; rw [if_pos n0]; simp [hereA, hg4, hg5, hg6]; done))))) ?_)) (cont := nlo_cells (nF (flat_cVm _)) (nlo_dead (nlo_cells (nF (flat_cVm _)) nlo_nil))))⟩
         ·refine z7 ?_
          iterate 5 refine z7 ?_
          iterate 2 refine z3 ?_
          refine WU_nil ?_
          exact ⟨[], (fitT (sub := by repeat (first | exact subL_nil | refine subL_cons (by first | exact imp_of rfl | exact imp_of (congrArg boo (by rw [← hbB]; ((unfold hereB; rw [if_pos n0]; simp [hereA, hg4, hg5, hg6]; done))))) ?_)) (cont := nlo_cells (nF (flat_cVm _)) (nlo_dead (nlo_cells (nF (flat_cVm _)) nlo_nil))))⟩
        ·refine z7 ?_
         iterate 5 refine z7 ?_
         iterate 2 refine z3 ?_
         iterate 6 refine z7 ?_
         iterate 2 refine z3 ?_
         refine WU_nil ?_
         exact ⟨[], (fitT (sub := by repeat (first | exact subL_nil | refine subL_cons (by first | exact imp_of rfl | exact imp_of (congrArg boo (by rw [← hbB]; ((unfold hereB; rw [if_pos n0]; simp [hereA, hg4, hg5]; done))))) ?_)) (cont := nlo_cells (nF (flat_cVm _)) (nlo_dead (nlo_cells (nF (flat_cVm _)) nlo_nil))))⟩
       ·refine z7 ?_
        iterate 8 refine z7 ?_
        iterate 2 refine z3 ?_
        iterate 6 refine z7 ?_
        iterate 2 refine z3 ?_
        iterate 6 refine z7 ?_
        iterate 2 refine z3 ?_
        refine WU_nil ?_
        exact ⟨[], (fitT (sub := by repeat (first | exact subL_nil | refine subL_cons (by first | exact imp_of rfl | exact imp_of (congrArg boo (by rw [← hbB]; ((unfold hereB; rw [if_pos n0]; simp [hereA, hg4]; done))))) ?_)) (cont := nlo_cells (nF (flat_cVm _)) (nlo_dead (nlo_cells (nF (flat_cVm _)) nlo_nil))))⟩
      ·have n0 : ¬ nm = [80, 79, 83, 84] := oF hi3
       refine Wj ?_
       exact ⟨[], (fitT (sub := by repeat (first | exact subL_nil | refine subL_cons (by first | exact imp_of rfl | exact imp_of (congrArg boo (by rw [← hbB]; ((unfold hereB; rw [if_neg n0]; exact hbA.symm))))) ?_)) (cont := nlo_cells (nF (flat_cVm _)) (nlo_dead (nlo_cells (nF (flat_cVm _)) nlo_nil))))⟩
     ·refine W_meet [(1, .val (.int .u8 (c1.toNat : Int))), (2, sq cQuad l), (7, boo true), (8, .ptr 0 0), (9, i64 (many : Int)), (10, i64 (tm : Int)), (11, i64 (k : Int)), (12, str nm), (14, .ptr 2 0), (15, i64 r.2), (16, boo bB), (17, boo bT)] [.cells (cVm v) 36, .dead, .cells (cVm r.1) 36] [] ?_ ?_
      ·refine W_region rfl ?_
       refine zy2 ?_
       refine Wa 144 rfl (str_eql _ _) ?_
       refine z1 ?_
       refine Wb 145 rfl (fun hg7 => ?_) (fun hg7 => ?_)
       ·refine z6 ?_
        refine z6 ?_
        refine zs2 ?_
        exact ⟨[], (fitT (sub := by repeat (first | exact subL_nil | refine subL_cons (by first | exact imp_of rfl | exact imp_of (congrArg boo (by rw [← hbT]; simp [timerB, hg7]))) ?_)) (cont := nlo_cells (nF (flat_cVm _)) (nlo_dead (nlo_cells (nF (flat_cVm _)) nlo_nil))))⟩
       ·refine zy2 ?_
        refine Wa 147 rfl (str_eql _ _) ?_
        refine zs2 ?_
        exact ⟨[], (fitT (sub := by repeat (first | exact subL_nil | refine subL_cons (by first | exact imp_of rfl | exact imp_of (congrArg boo (by rw [← hbT]; simp [timerB, hg7]))) ?_)) (cont := nlo_cells (nF (flat_cVm _)) (nlo_dead (nlo_cells (nF (flat_cVm _)) nlo_nil))))⟩
      ·refine W_meet [(1, .val (.int .u8 (c1.toNat : Int))), (2, sq cQuad l), (7, boo true), (8, .ptr 0 0), (9, i64 (many : Int)), (10, i64 (tm : Int)), (11, i64 (k : Int)), (12, str nm), (14, .ptr 2 0), (15, i64 r.2), (17, boo bT), (18, boo bM)] [.cells (cVm v) 36, .dead, .cells (cVm r.1) 36] [] ?_ ?_
       ·refine W_region rfl ?_
        refine zy2 ?_
        refine Wa 150 rfl (str_eql _ _) ?_
        refine z1 ?_
        refine Wb 151 rfl (fun hg8 => ?_) (fun hg8 => ?_)
        ·refine z6 ?_
         iterate 27 refine z6 ?_
         refine zs2 ?_
         exact ⟨[], (fitT (sub := by repeat (first | exact subL_nil | refine subL_cons (by first | exact imp_of rfl | exact imp_of (congrArg boo (by rw [← hbM]; ((simp [mayB, hbB, hbT, hg8]; done))))) ?_)) (cont := nlo_cells (nF (flat_cVm _)) (nlo_dead (nlo_cells (nF (flat_cVm _)) nlo_nil))))⟩
        ·refine zy2 ?_
         refine Wb 153 rfl (fun hg9 => ?_) (fun hg9 => ?_)
         ·refine zy3 ?_
          refine Wb 156 rfl (fun hg10 => ?_) (fun hg10 => ?_)
          ·refine z6 ?_
           iterate 20 refine z6 ?_
           refine zs4 ?_
           exact ⟨[], (fitT (sub := by repeat (first | exact subL_nil | refine subL_cons (by first | exact imp_of rfl | exact imp_of (congrArg boo (by rw [← hbM]; ((simp [mayB, hbB, hbT, hg8, hg9, hg10]; done))))) ?_)) (cont := nlo_cells (nF (flat_cVm _)) (nlo_dead (nlo_cells (nF (flat_cVm _)) nlo_nil))))⟩
          ·refine zy2 ?_
           refine Wv tG rfl rfl rfl (by omega) (iN cQuad 4 (fun _ => rfl) default (by omega)) ?_
           refine z2 ?_ (q := (by omega))
           refine z1 ?_
           refine Wa 161 rfl ((show _ = i64 q.d by rw [← hqq]; rfl)) ?_
           refine zy2 ?_
           refine Wb 163 rfl (fun hg11 => ?_) (fun hg11 => ?_)
           ·refine zy2 ?_
            refine Wv tG rfl rfl rfl (by omega) (iN cQuad 4 (fun _ => rfl) default (by omega)) ?_
            refine z2 ?_ (q := (by omega))
            refine z1 ?_
            refine Wa 168 rfl ((show _ = i64 q.d by rw [← hqq]; rfl)) ?_
            refine zy3 ?_
            refine Wb 171 rfl (fun hg12 => ?_) (fun hg12 => ?_)
            ·refine zy3 ?_
             refine Wa 174 rfl (congrArg (fun z => PV.val (Value.int .i64 z)) kw1) ?_
             refine z1 ?_
             refine Wa 175 rfl (congrArg (fun z => PV.val (Value.int .i64 z)) kf) ?_
             refine zy5 ?_
             refine zs1 ?_
             exact ⟨[], (fitT (sub := by repeat (first | exact subL_nil | refine subL_cons (by first | exact imp_of rfl | exact imp_of (congrArg boo (by rw [← hbM]; ((simp [mayB, hbB, hbT, hg8, hg9, hg10, hg11, hg12]; done))))) ?_)) (cont := nlo_cells (nF (flat_cVm _)) (nlo_dead (nlo_cells (nF (flat_cVm _)) nlo_nil))))⟩
            ·refine z6 ?_
             iterate 4 refine z6 ?_
             refine zs5 ?_
             exact ⟨[], (fitT (sub := by repeat (first | exact subL_nil | refine subL_cons (by first | exact imp_of rfl | exact imp_of (congrArg boo (by rw [← hbM]; ((simp [mayB, hbB, hbT, hg8, hg9, hg10, hg11, hg12]; done))))) ?_)) (cont := nlo_cells (nF (flat_cVm _)) (nlo_dead (nlo_cells (nF (flat_cVm _)) nlo_nil))))⟩
           ·refine z6 ?_
            iterate 5 refine z6 ?_
            refine zy2 ?_
            iterate 5 refine z6 ?_
            refine zs5 ?_
            exact ⟨[], (fitT (sub := by repeat (first | exact subL_nil | refine subL_cons (by first | exact imp_of rfl | exact imp_of (congrArg boo (by rw [← hbM]; ((simp [mayB, hbB, hbT, hg8, hg9, hg10, hg11]; done))))) ?_)) (cont := nlo_cells (nF (flat_cVm _)) (nlo_dead (nlo_cells (nF (flat_cVm _)) nlo_nil))))⟩
         ·refine z6 ?_
          iterate 24 refine z6 ?_
          refine zs3 ?_
          exact ⟨[], (fitT (sub := by repeat (first | exact subL_nil | refine subL_cons (by first | exact imp_of rfl | exact imp_of (congrArg boo (by rw [← hbM]; ((simp [mayB, hbB, hbT, hg8, hg9]; done))))) ?_)) (cont := nlo_cells (nF (flat_cVm _)) (nlo_dead (nlo_cells (nF (flat_cVm _)) nlo_nil))))⟩
       ·refine W_meet [(1, .val (.int .u8 (c1.toNat : Int))), (2, sq cQuad l), (7, boo true), (8, .ptr 0 0), (9, i64 (many : Int)), (10, i64 (tm : Int)), (11, i64 (k : Int)), (12, str nm), (14, .ptr 2 0), (15, i64 r.2), (17, boo bT)] [.cells (cVm v) 36, .dead, .cells (cVm r.1) 36] [] ?_ ?_
        ·refine zp4 ?_
         refine Wb 184 rfl (fun hg13 => ?_) (fun hg13 => ?_)
         ·refine zy5 ?_
          refine WO_false 189 rfl (by (rw [hok, hg13]; simp; done)) ?_
          refine z1 ?_
          refine Wc rfl rfl (dC rfl Tryz.func19 rfl rfl ((prr) _)) ?_
          refine zs2 ?_
          refine Wf rfl (by rfl) ?_
          refine Wj ?_
          exact ⟨[], (fitT (cont := nlo_cells (nF (flat_cVm _)) (nlo_dead (nlo_cells (nF (flat_cVm _)) nlo_nil))))⟩
         ·refine z6 ?_
          refine z6 ?_
          refine zy3 ?_
          refine WO_false 189 rfl (by (rw [hok, hg13]; simp; done)) ?_
          refine z1 ?_
          refine Wc rfl rfl (dC rfl Tryz.func19 rfl rfl ((prr) _)) ?_
          refine zs2 ?_
          refine Wf rfl (by rfl) ?_
          refine Wj ?_
          exact ⟨[], (fitT (cont := nlo_cells (nF (flat_cVm _)) (nlo_dead (nlo_cells (nF (flat_cVm _)) nlo_nil))))⟩
        ·refine Ws ?_
         refine zu2 ?_
         refine Wi rfl (fun hi5 => ?_) (fun hi5 => ?_)
         ·have hne : r.2 ≠ 0 := bne_iff_ne.1 hi5
          refine W_exit ?_
          refine W_region rfl ?_
          refine zy2 ?_
          refine Wa 39 rfl ((show PV.val (.int .i64 _) = .val (.int .i64 ((k + 1 : Nat) : Int)) by rw [show IntKind.i64.wrap ((k : Int) + 1) = ((k + 1 : Nat) : Int) from by simp only [i64w]; unfold wrap64; omega])) ?_
          refine zs1 ?_
          exact ⟨(v, many, tm, k + 1), [], (by exact ⟨hlt, hs.2.mono (by dsimp only; omega)⟩), (by dsimp only; omega), fitT⟩
         ·have hz : r.2 = 0 := bne_eq_false_iff_eq.1 hi5
          have hlen := hR.req hz
          refine Wj ?_
          refine zp2 ?_
          refine Wa 197 rfl ((show PV.val (.int .i64 _) = .val (.int .i64 ((many + 1 : Nat) : Int)) by rw [show IntKind.i64.wrap ((many : Int) + 1) = ((many + 1 : Nat) : Int) from by simp only [i64w]; unfold wrap64; omega])) ?_
          refine zs1 ?_
          refine W_meet [(1, .val (.int .u8 (c1.toNat : Int))), (2, sq cQuad l), (7, boo true), (8, .ptr 0 0), (9, i64 ((many + 1 : Nat) : Int)), (10, i64 (tm : Int)), (11, i64 (k : Int)), (14, .ptr 2 0), (17, boo bT)] [.cells (cVm v) 36, .dead, .cells (cVm r.1) 36] [] ?_ ?_
          ·refine Ws ?_
           refine W_drawU [0, 1, 0, 0, 0, 0, 0, 0, 0, 1, 0, 0, 0, 0, 1, 0, 1, 0, 0, 0, 0, 0, 1, 0, 1, 0, 0, 0, 0, 0, 0, 0, 0, 0, 0, 1, 0, 0, 0, 0, 1, 0, 0, 0, 0, 1, 0, 0, 0, 1, 0, 0, 0, 0, 0] [0, 1, 2, 3, 4, 5, 6, 7, 8, 9, 10, 11, 12, 13, 14, 15, 16, 17, 18, 19, 20, 21, 22, 23, 24, 25, 26, 27, 28, 29, 30, 31, 32, 33, 34, 35, 36, 37, 38, 39, 40, 41, 42, 43, 44, 45, 46, 47, 48, 49, 50, 51, 52, 53, 54] mG rfl (by kernel_rfl) ?_
           refine z3 ?_
           refine z5 ?_
           iterate 4 refine z3 ?_
           refine WU_false 203 rfl (by simp [hlen]) ?_
           iterate 2 refine z3 ?_
           refine WU_split 205 rfl (fun hg16 => ?_) (fun hg16 => ?_)
           ·have hd1 := (htm hz hg16).1
            have hd2 : r.1.d.length = 1 := by rw [hd1]; rfl
            refine z3 ?_
            refine z5 ?_
            iterate 3 refine z3 ?_
            refine WU_false 210 rfl (by simp [(htm hz hg16).1]) ?_
            refine z3 ?_
            refine z5 ?_
            refine Xi tG rfl rfl rfl rfl (fun _ => rfl) (by omega) (iN cInt 1 (fun _ => rfl) 0 (by (simp only [dnL] at *; omega))) ?_
            refine z5 ?_
            iterate 4 refine z3 ?_
            refine WU_false 218 rfl (by simp [(htm hz hg16).1]) ?_
            refine z3 ?_
            refine z5 ?_
            refine z3 ?_
            refine z5 ?_
            iterate 6 refine z3 ?_
            refine WU_false 228 rfl (by rw [(htm hz hg16).2]; simp) ?_
            iterate 2 refine z3 ?_
            refine Xa 230 rfl (str_eql _ _) ?_
            refine z3 ?_
            refine WU_split 231 rfl (fun hg20 => ?_) (fun hg20 => ?_)
            ·have hP : nm = [80, 79, 83, 84] := oT hg20
             have hP2 : (r.1.req[many]?.getD default).arg = q.b := (hR.post hz hP).1
             refine z3 ?_
             refine z5 ?_
             iterate 2 refine z3 ?_
             refine Xa 235 rfl ((show PV.val (.int .i64 _) = .val (.int .i64 (many : Int)) by rw [show IntKind.i64.wrap (((many + 1 : Nat) : Int) - 1) = (many : Int) from by simp only [i64w]; unfold wrap64; omega])) ?_
             refine Xi tG rfl rfl rfl rfl (fun _ => rfl) (by omega) (iN cReq 6 (fun _ => rfl) default (by omega)) ?_
             refine z3 ?_
             refine z5 ?_
             iterate 2 refine z3 ?_
             refine Xi tG rfl rfl rfl rfl (fun _ => rfl) (by omega) (iN cQuad 4 (fun _ => rfl) default (by omega)) ?_
             refine z4 ?_ (q := (by omega))
             refine z5 ?_
             refine Xa 243 rfl ((show _ = i64 q.b by rw [← hqq]; rfl)) ?_
             iterate 2 refine z3 ?_
             refine WU_false 245 rfl (by simp [hP2]) ?_
             refine z3 ?_
             refine z5 ?_
             iterate 5 refine z3 ?_
             refine WU_nil ?_
             refine Wf rfl (by simp [(hR.post hz hP).2]) ?_
             refine Wj ?_
             exact ⟨[], (fitT (cont := nlo_cells (nF (flat_cVm _)) (nlo_dead (nlo_cells (nF (flat_cVm _)) nlo_nil))))⟩
            ·refine z7 ?_
             iterate 18 refine z7 ?_
             iterate 2 refine z3 ?_
             refine WU_nil ?_
             refine Wf rfl rfl ?_
             refine Wj ?_
             exact ⟨[], (fitT (cont := nlo_cells (nF (flat_cVm _)) (nlo_dead (nlo_cells (nF (flat_cVm _)) nlo_nil))))⟩
           ·refine z7 ?_
            iterate 19 refine z7 ?_
            iterate 5 refine z3 ?_
            refine Xa 230 rfl (str_eql _ _) ?_
            refine z3 ?_
            refine WU_split 231 rfl (fun hg20 => ?_) (fun hg20 => ?_)
            ·have hP : nm = [80, 79, 83, 84] := oT hg20
             have hP2 : (r.1.req[many]?.getD default).arg = q.b := (hR.post hz hP).1
             refine z3 ?_
             refine z5 ?_
             iterate 2 refine z3 ?_
             refine Xa 235 rfl ((show PV.val (.int .i64 _) = .val (.int .i64 (many : Int)) by rw [show IntKind.i64.wrap (((many + 1 : Nat) : Int) - 1) = (many : Int) from by simp only [i64w]; unfold wrap64; omega])) ?_
             refine Xi tG rfl rfl rfl rfl (fun _ => rfl) (by omega) (iN cReq 6 (fun _ => rfl) default (by omega)) ?_
             refine z3 ?_
             refine z5 ?_
             iterate 2 refine z3 ?_
             refine Xi tG rfl rfl rfl rfl (fun _ => rfl) (by omega) (iN cQuad 4 (fun _ => rfl) default (by omega)) ?_
             refine z4 ?_ (q := (by omega))
             refine z5 ?_
             refine Xa 243 rfl ((show _ = i64 q.b by rw [← hqq]; rfl)) ?_
             iterate 2 refine z3 ?_
             refine WU_false 245 rfl (by simp [hP2]) ?_
             refine z3 ?_
             refine z5 ?_
             iterate 5 refine z3 ?_
             refine WU_nil ?_
             refine Wf rfl (by simp [(hR.post hz hP).2]) ?_
             refine Wj ?_
             exact ⟨[], (fitT (cont := nlo_cells (nF (flat_cVm _)) (nlo_dead (nlo_cells (nF (flat_cVm _)) nlo_nil))))⟩
            ·refine z7 ?_
             iterate 18 refine z7 ?_
             iterate 2 refine z3 ?_
             refine WU_nil ?_
             refine Wf rfl rfl ?_
             refine Wj ?_
             exact ⟨[], (fitT (cont := nlo_cells (nF (flat_cVm _)) (nlo_dead (nlo_cells (nF (flat_cVm _)) nlo_nil))))⟩
          ·refine W_meet [(1, .val (.int .u8 (c1.toNat : Int))), (2, sq cQuad l), (7, boo true), (8, .ptr 0 0), (9, i64 ((many + 1 : Nat) : Int)), (10, i64 ((tm + if bT = true then 1 else 0 : Nat) : Int)), (11, i64 (k : Int)), (14, .ptr 2 0)] [.cells (cVm v) 36, .dead, .cells (cVm r.1) 36] [] ?_ ?_
           ·refine zu1 ?_
            refine Wi rfl (fun hi7 => ?_) (fun hi7 => ?_)
            ·refine W_region rfl ?_
             refine zs3 ?_
             exact ⟨[], (fitT (sub := by repeat (first | exact subL_nil | refine subL_cons (by first | exact imp_of rfl | exact imp_of (congrArg i64 (by (rw [if_pos hi7, i64w]; unfold wrap64; omega)))) ?_)) (cont := nlo_cells (nF (flat_cVm _)) (nlo_dead (nlo_cells (nF (flat_cVm _)) nlo_nil))))⟩
            ·refine Wj ?_
             exact ⟨[], (fitT (sub := by repeat (first | exact subL_nil | refine subL_cons (by first | exact imp_of rfl | exact imp_of (congrArg i64 (by (rw [hi7]; rfl)))) ?_)) (cont := nlo_cells (nF (flat_cVm _)) (nlo_dead (nlo_cells (nF (flat_cVm _)) nlo_nil))))⟩
           ·refine zu2 ?_
            refine W_region rfl ?_
            refine z1 ?_
            refine Wm 257 rfl (imp_wk _) ?_
            refine Wa 257 rfl ((show _ = eVm (withD r.1 []) from rfl)) ?_
            refine zs1 ?_
            refine W_region rfl ?_
            refine zy2 ?_
            refine Wa 39 rfl ((show PV.val (.int .i64 _) = .val (.int .i64 ((k + 1 : Nat) : Int)) by rw [show IntKind.i64.wrap ((k : Int) + 1) = ((k + 1 : Nat) : Int) from by simp only [i64w]; unfold wrap64; omega])) ?_
            refine zs1 ?_
            exact ⟨(withD r.1 [], many + 1, tm + (if bT = true then 1 else 0), k + 1), [], (by exact ⟨hlt, (hnx hz).mono (by dsimp only; omega)⟩), (by dsimp only; omega), fitT⟩
   ·refine W_exit ?_
    refine zp2 ?_
    refine WO_true 259 rfl (by rfl) ?_
    refine zy5 ?_
    refine zs1 ?_
    refine zR ?_
    exact congrArg boo (by simp [hs.2.next])
end Go.Proofs.YtphgdofmjpdhaaaGreat
namespace Go.Proofs.YtphgdofmjpdhaaaGreat
open Go.RowKit
open Go.WideShapes
set_option maxRecDepth 100000
theorem rd_quad {w : World} {cs : List Value} (h : Rd w 59 cs) : ∃ x : VQuad, QOk x ∧ RepL (c0 w) (cQuad x) cs := by
 have ht : Tryz.prog.underlying 59 = some (.array 4 3) := by kernel_rfl
 have hk : Tryz.prog.cellsOf 3 = 1 := by kernel_rfl
 have hc : Tryz.prog.cellsOf 59 = 4 := by kernel_rfl
 obtain ⟨H, enc, fuel, x, hx⟩ := h
 obtain ⟨xs, m, _, _, hl, hlen, hel⟩ := DataW.trod_array ht hx
 rw [hc] at hl
 match cs, hl with
 | [d0, d1, d2, d3], _ =>
  have key : ∀ i, i < 4 → ∃ n, Fit64 n ∧ RepL (c0 w) [i64 n] (([d0, d1, d2, d3].drop i).take 1) := by
   intro i hi
   have h1 := hel i hi
   rw [hk, Nat.mul_one, List.getElem?_eq_getElem (by omega)] at h1
   exact rd_int64 ⟨H, enc, m, _, h1⟩
  obtain ⟨x0, w0, e0⟩ := key 0 (by omega)
  obtain ⟨x1, w1, e1⟩ := key 1 (by omega)
  obtain ⟨x2, w2, e2⟩ := key 2 (by omega)
  obtain ⟨x3, w3, e3⟩ := key 3 (by omega)
  exact ⟨⟨x0, x1, x2, x3⟩, ⟨w0, w1, w2, w3⟩, RepL.append e0 (RepL.append e1 (RepL.append e2 e3))⟩
theorem law_asks (c0 c1 : UInt8) (l : List VQuad) (hq : ∀ x ∈ l, QOk x) (hl : l.length ≤ 9223372036854775807) : PureC Tryz.prog 9 [.val (.int .u8 (c0.toNat : Int)), .val (.int .u8 (c1.toNat : Int)), sq cQuad l] (boo true) := by
 have k0 := (kmod c0 5 (by decide)).2
 have k1 := (kmod c1 65 (by decide)).2
 have h5 : c0.toNat % 5 < 5 := Nat.mod_lt _ (by decide)
 have h65 : c1.toNat % 65 < 65 := Nat.mod_lt _ (by decide)
 exact law_asks_of c0 c1 l hq hl (c0.toNat % 5) (c1.toNat % 65) (by omega) (by omega) k0 k1 (stockS []) (askV_I _ _ (by omega) (by omega)) law_shown (law_stocked [])
theorem walk_PrimAsks (v0 v1 v2 : Value) (w : World) (h0 : Reads w 5 v0) (h1 : Reads w 5 v1) (h2 : Reads w 58 v2) :
  Calls Tryz.prog 9 #[v0, v1, v2] w fun e w' => e = .returned (.bool true) ∧ Below w.heap.size w w' := by
 obtain ⟨x, rfl, hx⟩ := reads_int Tryz.underlying5 h0
 obtain ⟨y, rfl, hy⟩ := reads_int Tryz.underlying5 h1
 have hx2 := byte_wf hx
 have hy2 := byte_wf hy
 obtain ⟨k, rfl⟩ : ∃ k : UInt8, x = (k.toNat : Int) := ⟨UInt8.ofNat x.toNat, by rw [UInt8.toNat_ofNat']; omega⟩
 obtain ⟨m, rfl⟩ : ∃ k : UInt8, y = (k.toNat : Int) := ⟨UInt8.ofNat y.toNat, by rw [UInt8.toNat_ofNat']; omega⟩
 obtain ⟨a, len, cap, rfl, hr⟩ := reads_slice Tryz.underlying58 h2
 obtain ⟨l, hl1, hl2, hl3⟩ := rd_slice_rep cQuad QOk 4 Tryz.underlying58 (by kernel_rfl) (by omega) (fun es h => rd_quad h) hr
 exact law_calls (args := [.val (.int .u8 (k.toNat : Int)), .val (.int .u8 (m.toNat : Int)), sq cQuad l]) (law_asks k m l hl1 (by unfold maxLen at hl2; omega)) (repL_cons.2 ⟨rep_val _ _, repL_cons.2 ⟨rep_val _ _, hl3⟩⟩)
end Go.Proofs.YtphgdofmjpdhaaaGreat
