import Derived.Test.YtlponhgbbfgkgaaPk5
set_option linter.unusedVariables false
set_option linter.unusedSimpArgs false
namespace Go.Proofs.Ytlponhgbbfgkgaa
open Go.RowKit
set_option maxRecDepth 100000
set_option maxHeartbeats 4000000
theorem WO_obI {P : Program} {B : Nat → Nat → Prop} {n : Nat} {all : Array Oper} {l : List Oper} {T : Nat → PV} {H H' : List Ob} {K : (Nat → PV) → List Ob → Prop} (i : Nat) {ob ob' : Ob} (hi : H[i]? = some ob) (e : ob = ob') (hH : nfH (H.set i ob') = some H') (h1 : WO P B n all l T H' K) : WO P B n all l T H K := by
 rw [nfH_eq hH] at h1
 subst e
 have : H.set i ob = H := by
  apply List.ext_getElem?
  intro j
  rw [List.getElem?_set]
  split
  ·rename_i h; subst h; split
   ·exact hi.symm
   ·rename_i h2; rw [List.getElem?_eq_none (by omega)]
  ·rfl
 rwa [this] at h1
def onlyT : List Str := [[73], [74], [85, 78, 76, 79, 79, 80], [62, 82], [82, 62], [82, 64], [50, 62, 82], [50, 82, 62]]
def nowT : List Str := [[46, 34], [40], [92], [91]]
def bothT : List Str := [[59], [68, 79, 69, 83, 62], [91, 39, 93], [91, 67, 72, 65, 82, 93], [76, 73, 84, 69, 82, 65, 76], [80, 79, 83, 84, 80, 79, 78, 69], [82, 69, 67, 85, 82, 83, 69], [73, 70], [69, 76, 83, 69], [84, 72, 69, 78], [66, 69, 71, 73, 78], [87, 72, 73, 76, 69], [82, 69, 80, 69, 65, 84], [85, 78, 84, 73, 76], [65, 71, 65, 73, 78], [68, 79], [63, 68, 79], [76, 79, 79, 80], [43, 76, 79, 79, 80], [76, 69, 65, 86, 69], [83, 34], [69, 88, 73, 84]]
def inS (l : List Str) (s : Str) : Bool := l.any (fun x => decide (x = s))
theorem ref_in (l : List Str) (s : Str) (hl : l.length ≤ 1000000) : PureC Try.prog 72 [sq cStr l, str s] (boo (inS l s)) := by
 refine pW tG (rs := [.tmp 4]) Try.func72 rfl rfl rfl (by simp) (by simp) (fun B => ?_)
 refine zu1 ?_
 refine Ws ?_
 refine zu1 ?_
 refine Wl ?_
 show W _ _ _ _ _ _ _
 refine W_loopS (fun (k : Nat) => [(0, sq cStr l), (1, str s), (5, i64 k)]) (fun (k : Nat) => []) (fun (k : Nat) => []) (fun (k : Nat) => k ≤ l.length ∧ (l.take k).all (fun x => !decide (x = s)) = true) (fun (k : Nat) => l.length - k) (0) (by simp) [] ?_ ?_
 ·exact fitT
 ·intro k hk
  refine Ws ?_
  refine zu4 ?_
  refine Wi rfl (fun hi1 => ?_) (fun hi1 => ?_)
  ·have hlt : k < l.length := by have := oT hi1; omega
   refine Wj ?_
   refine Ws ?_
   refine Wl ?_
   refine zp2 ?_
   refine Wv tG rfl rfl rfl (by omega) (iN cStr 1 (fun _ => rfl) [] (by omega)) ?_
   refine zy3 ?_
   refine zq 17 ?_
   refine Wn ?_
   refine Wi rfl (fun hi2 => ?_) (fun hi2 => ?_)
   ·have hy : inS l s = true := by unfold inS; rw [List.any_eq_true]; exact ⟨_, mem_getD [] hlt, hi2⟩
    refine zu1 ?_
    refine zR ?_
    rw [hy]; rfl
   ·refine Wj ?_
    refine W_region rfl ?_
    refine zs3 ?_
    exact ⟨k + 1, [], (by exact ⟨by omega, all_snoc [] hlt hk.2 (by rw [hi2]; rfl)⟩), (by omega), fitT⟩
  ·have hge : l.length ≤ k := by have := oF hi1; omega
   have hn : inS l s = false := by have h1 := hk.2; rw [take_all' _ k hge] at h1; unfold inS; rw [List.any_eq_false]; intro x hx; have := List.all_eq_true.1 h1 x hx; simpa using this
   refine W_exit ?_
   refine zu1 ?_
   refine zR ?_
   rw [hn]; rfl
def flagsN (name : Str) (i : Nat) : Int := if i < 12 then 6 else if inS onlyT name then 4 else if inS nowT name then 1 else if inS bothT name then 5 else 0
theorem ref_flags (name : Str) (i : Nat) : PureC Try.prog 47 [str name, i64 i] (i64 (flagsN name i)) := by
 refine pW tG (rs := [.tmp 4]) Try.func47 rfl rfl rfl (by simp) (by simp) (fun B => ?_)
 refine zu1 ?_
 refine Ws ?_
 refine zu2 ?_
 refine Wi rfl (fun hi1 => ?_) (fun hi1 => ?_)
 ·have h0 : i < 12 := by have := oT hi1; omega
  refine zu1 ?_
  refine zR ?_
  rw [flagsN, if_pos h0]; rfl
 ·have h0 : ¬ i < 12 := by have := oF hi1; omega
  refine Wj ?_
  refine zp1 ?_
  refine Wa 10 rfl (bsL cStr [_, _, _, _, _, _, _, _] rfl rfl) ?_
  refine z1 ?_
  refine zc rfl Try.func72 ((ref_in onlyT name (by decide)) _) ?_
  refine zs1 ?_
  refine Ws ?_
  refine zu1 ?_
  refine Wi rfl (fun hi2 => ?_) (fun hi2 => ?_)
  ·refine zu1 ?_
   refine zR ?_
   rw [flagsN, if_neg h0, if_pos hi2]; rfl
  ·refine Wj ?_
   refine zp1 ?_
   refine Wa 14 rfl (bsL cStr [_, _, _, _] rfl rfl) ?_
   refine z1 ?_
   refine zc rfl Try.func72 ((ref_in nowT name (by decide)) _) ?_
   refine zs1 ?_
   refine Ws ?_
   refine zu1 ?_
   refine Wi rfl (fun hi3 => ?_) (fun hi3 => ?_)
   ·refine zu1 ?_
    refine zR ?_
    rw [flagsN, if_neg h0, if_neg (by rw [hi2]; simp), if_pos hi3]; rfl
   ·refine Wj ?_
    refine zp1 ?_
    refine Wa 18 rfl (bsL cStr [_, _, _, _, _, _, _, _, _, _, _, _, _, _, _, _, _, _, _, _, _, _] rfl rfl) ?_
    refine z1 ?_
    refine zc rfl Try.func72 ((ref_in bothT name (by decide)) _) ?_
    refine zs1 ?_
    refine Ws ?_
    refine zu1 ?_
    refine Wi rfl (fun hi4 => ?_) (fun hi4 => ?_)
    ·refine zu1 ?_
     refine zR ?_
     rw [flagsN, if_neg h0, if_neg (by rw [hi2]; simp), if_neg (by rw [hi3]; simp), if_pos hi4]; rfl
    ·refine Wj ?_
     refine zu1 ?_
     refine zR ?_
     rw [flagsN, if_neg h0, if_neg (by rw [hi2]; simp), if_neg (by rw [hi3]; simp), if_neg (by rw [hi4]; simp)]; rfl
theorem ref_NamesC : PureC Try.prog 45 [] (sqc cStr names) := by
 refine pW tG (rs := [.tmp 0]) Try.func45 rfl rfl rfl (by simp; done) (by exact flat_sqc flat_cStr _) (fun B => ?_)
 refine zu1 ?_
 refine zp1 ?_
 refine Wa 1 rfl (bsL cStr [_, _, _, _, _, _, _, _, _, _, _, _, _, _, _, _, _, _, _, _, _, _, _, _, _, _, _, _, _, _, _, _, _, _, _, _, _, _, _, _, _, _, _, _, _, _, _, _, _, _, _, _, _, _, _, _, _, _, _, _, _, _, _, _, _, _, _, _, _, _, _, _, _, _, _, _, _, _, _, _, _, _, _, _, _, _, _, _, _, _, _, _, _, _, _, _, _, _, _, _, _, _, _, _, _, _, _, _, _, _, _, _, _, _, _, _, _, _, _, _, _, _, _, _, _, _, _, _, _, _] rfl rfl) ?_
 refine zs1 ?_
 refine Wq ?_
 exact leafPx rfl rfl
def allN : List Str := names ++ specials
theorem allN_len : allN.length = 167 := by unfold allN; rw [List.length_append, names_len, specials_len]
def nval (i : Nat) : Nat := if 130 ≤ i then 170 + i else i
def put2 (b : List UInt8) (a n : Nat) : List UInt8 := (b.set a (UInt8.ofNat (n % 256))).set (a + 1) (UInt8.ofNat (n / 256))
def stepB (b : List UInt8) (i : Nat) : List UInt8 :=
 let b1 := put2 b (32 + 8 * i) (nval i)
 let b2 := if allN.getD i [] = [40, 104, 97, 108, 116, 41] then put2 b1 16 (32 + 8 * i) else b1
 if allN.getD i [] = [40, 99, 97, 117, 103, 104, 116, 41] then put2 b2 24 (32 + 8 * i) else b2
def newB (M : Nat) : Nat → List UInt8
 | 0 => (List.replicate M 0).set 0 10
 | k + 1 => stepB (newB M k) k
def wordN (i : Nat) : VWord := ⟨allN.getD i [], ((32 + 8 * i : Nat) : Int), flagsN (allN.getD i []) i⟩
def newL (k : Nat) : List VWord := (List.range k).map wordN
@[simp] theorem newL_len (k : Nat) : (newL k).length = k := by simp [newL]
theorem newL_succ (k : Nat) : newL (k + 1) = newL k ++ [wordN k] := by unfold newL; rw [List.range_succ, List.map_append]; rfl
theorem put2_len (b : List UInt8) (a n : Nat) : (put2 b a n).length = b.length := by simp [put2]
theorem stepB_len (b : List UInt8) (i : Nat) : (stepB b i).length = b.length := by
 unfold stepB
 simp only
 split <;> split <;> simp [put2_len]
theorem newB_len (M k : Nat) : (newB M k).length = M := by
 induction k with
 | zero => simp [newB]
 | succ k ih => rw [newB, stepB_len, ih]
def newVm (c : VConf) : VVm := { conf := c, mem := ⟨newB c.mem.toNat 167, []⟩, here := 1368, d := [], r := [], f := [], dict := newL 167, last := 0, out := [], pic := ⟨[], false⟩, req := [], free := 0, next := 0, arg := 0, self := 0, now := 0, hand := [] }
def vmZ : List PV := [i64 0, i64 0, i64 0, i64 0, i64 0, .seq 0 [] .clip, .seq 0 [] .clip, i64 0, .seq 0 [] .clip, .seq 0 [] .clip, .seq 0 [] .clip, .seq 0 [] .clip, i64 0, .seq 0 [] .clip, .seq 0 [] .clip, boo false, .seq 0 [] .clip, i64 0, i64 0, i64 0, i64 0, i64 0, .seq 0 [] .clip]
@[simp] theorem nl_vmZ {n : Nat} : NL1L n vmZ := nl1L_flat (by simp [vmZ])
theorem u8_of (n : Nat) (h : n < 256) : ((UInt8.ofNat n).toNat : Int) = n := by rw [UInt8.toNat_ofNat']; omega
theorem u8_mod (n : Nat) : PV.val (Value.int .u8 (IntKind.u8.wrap ((n : Int).tmod 256))) = .val (.int .u8 ((UInt8.ofNat (n % 256)).toNat : Int)) := by
 rw [u8_of _ (by omega), Int.tmod_eq_emod_of_nonneg (by omega)]
 simp only [PV.val.injEq, Value.int.injEq, true_and]
 rw [IntKind.wrap_u8]; omega
theorem u8_quo (n : Nat) (h : n < 65536) : PV.val (Value.int .u8 (IntKind.u8.wrap (IntKind.i64.wrap ((n : Int).tdiv 256)))) = .val (.int .u8 ((UInt8.ofNat (n / 256)).toNat : Int)) := by
 rw [u8_of _ (by omega), Int.tdiv_eq_ediv_of_nonneg (by omega)]
 simp only [PV.val.injEq, Value.int.injEq, true_and]
 rw [i64w, IntKind.wrap_u8]; unfold wrap64; omega
theorem splice_at {b : List UInt8} {i : Int} {n : Nat} {x : UInt8} (hi : i = n) (hn : n < b.length) : splice (b.flatMap cByte) (0 + i.toNat * 1) [.val (.int .u8 (x.toNat : Int))] = (b.set n x).flatMap cByte := by
 subst hi
 rw [Int.toNat_natCast, Nat.mul_one, Nat.zero_add]
 exact splice_byte hn x
theorem zeros_b {M : Nat} {d : TD} {e : TypeId} (hd : d.zero = cByte 0) : Ob.cells (zerosPV M d) e = .cells ((List.replicate M (0 : UInt8)).flatMap cByte) e := by
 unfold zerosPV
 rw [hd, List.flatMap_replicate]
end Go.Proofs.Ytlponhgbbfgkgaa
namespace Go.Proofs.Ytlponhgbbfgkgaa
open Go.RowKit
set_option maxRecDepth 100000
set_option maxHeartbeats 4000000
theorem stepB_of {b : List UInt8} {k n : Nat} {p q : Prop} [Decidable p] [Decidable q] (hn : nval k = n) (h1 : (allN.getD k [] = [40, 104, 97, 108, 116, 41]) = p) (h2 : (allN.getD k [] = [40, 99, 97, 117, 103, 104, 116, 41]) = q) :
  stepB b k = if q then put2 (if p then put2 (put2 b (32 + 8 * k) n) 16 (32 + 8 * k) else put2 b (32 + 8 * k) n) 24 (32 + 8 * k) else (if p then put2 (put2 b (32 + 8 * k) n) 16 (32 + 8 * k) else put2 b (32 + 8 * k) n) := by
 subst h1 h2 hn
 unfold stepB
 simp only
 split <;> split <;> simp_all
theorem ar_1 {k : Nat} (h : k < 167) : IntKind.i64.wrap (32 + IntKind.i64.wrap (8 * (k : Int))) = ((32 + 8 * k : Nat) : Int) := by simp only [i64w]; unfold wrap64; omega
theorem ar_2 {k n : Nat} (h : k < 167) (hn : n = 130) (h3 : 130 ≤ k) : IntKind.i64.wrap (IntKind.i64.wrap (300 + (k : Int)) - (n : Int)) = ((170 + k : Nat) : Int) := by subst hn; simp only [i64w]; unfold wrap64; omega
theorem ar_3 {k : Nat} (h : k < 167) : IntKind.i64.wrap (((32 + 8 * k : Nat) : Int) + 1) = ((32 + 8 * k + 1 : Nat) : Int) := by simp only [i64w]; unfold wrap64; omega
theorem newW (k : Nat) {q : SK} : PV.seq (newL k ++ [wordN k]).length ((newL k ++ [wordN k]).flatMap cWord) q = .seq (newL (k + 1)).length ((newL (k + 1)).flatMap cWord) q := by rw [newL_succ]
theorem frz_b {M : Nat} {b : List UInt8} (h : b.length = M) : PV.seq M ((b.flatMap cByte).take M) .any = sq cByte b := by rw [cB_take, List.take_of_length_le (by omega), ← h]; rfl
def vmOf (c : VConf) (b : List UInt8) (l : List VWord) : VVm := { conf := c, mem := ⟨b, []⟩, here := 1368, d := [], r := [], f := [], dict := l, last := 0, out := [], pic := ⟨[], false⟩, req := [], free := 0, next := 0, arg := 0, self := 0, now := 0, hand := [] }
theorem newVm_of (c : VConf) : newVm c = vmOf c (newB c.mem.toNat 167) (newL 167) := rfl
theorem ref_New (c : VConf) (hc : fitsV c) : PureC Try.prog 28 [eConf c] (tVm (newVm c, 0)) := by
 have hM : 2048 ≤ c.mem ∧ c.mem ≤ 65536 := ⟨hc.1, hc.2.1⟩
 obtain ⟨M, hMe⟩ : ∃ M : Nat, c.mem = M := ⟨c.mem.toNat, by omega⟩
 have hMt : c.mem.toNat = M := by omega
 have hN := names_len
 have hS := specials_len
 have hA := allN_len
 have hD : decide (fitsV c) = true := decide_eq_true hc
 refine pW tG (rs := [.cell 2 36, .tmp 3]) Try.func28 rfl rfl rfl (by simp) (by simp) (fun B => ?_)
 refine zu3 ?_
 refine zp1 ?_
 refine zc rfl Try.func31 ((ref_Fits c) _) ?_
 refine zs1 ?_
 refine Ws ?_
 refine zu2 ?_
 refine Wf rfl (by rw [hD]; rfl) ?_
 refine Wj ?_
 refine zp2 ?_
 refine z2 ?_ (q := (by (simp_all; omega)))
 refine WO_obI 2 rfl (zeros_b rfl) rfl ?_
 refine Wa 18 rfl (show PV.arr 2 0 c.mem.toNat c.mem.toNat = .arr 2 0 M M by rw [hMt]) ?_
 refine WO_obI 2 rfl (show Ob.cells ((List.replicate c.mem.toNat (0 : UInt8)).flatMap cByte) 5 = .cells ((List.replicate M (0 : UInt8)).flatMap cByte) 5 by rw [hMt]) rfl ?_
 refine zs1 ?_
 refine zp1 ?_
 refine z2 ?_ (q := (by omega))
 refine Wd rfl rfl (does_store (lO tG rfl) rfl rfl rfl rfl rfl rfl (by rw [Nat.ble_eq, cB_len]; simp; omega)) ?_
 refine WO_obI 2 rfl (congrArg (fun z => Ob.cells z 5) (splice_at (x := 10) (n := 0) rfl (by simp; omega))) rfl ?_
 refine z0 ?_
 refine zc rfl Try.func45 ((ref_NamesC) _) ?_
 refine zc rfl Try.func46 ((ref_Specials) _) ?_
 refine Wd rfl rfl (does_append_clip (lO tG rfl) rfl (lO tG rfl) (lO tG rfl) rfl rfl (by exact ⟨_, rfl⟩) (by exact ⟨rfl, rfl, flatMap_len _ 1 (fun _ => rfl) _, okC_flat _ (fun _ => rfl) _⟩) (by exact flatMap_len _ 1 (fun _ => rfl) _) (by (dsimp only; omega)) (by (rw [hN, hS]; decide))) ?_
 refine Wa 23 rfl (sq_append cStr) ?_
 refine Wm 23 rfl (imp_seq _ _ _) ?_
 refine zs1 ?_
 refine zp1 ?_
 refine WO_own 7 0 3 rfl rfl ?_
 refine Wn ?_
 refine Ws ?_
 refine zu1 ?_
 refine Wl ?_
 show W _ _ _ _ _ _ _
 refine W_loopS (fun (k : Nat) => [(1, .ptr 0 0), (2, .ptr 1 0), (5, .arr 2 0 M M), (6, sq cStr allN), (7, .seq (newL k).length ((newL k).flatMap cWord) (.own 5 3)), (8, i64 k)]) (fun (k : Nat) => [.cells (cConf c) 23, .cells vmZ 36, .cells ((newB M k).flatMap cByte) 5, .dead, .dead]) (fun (k : Nat) => [.free ((newL k).length * 3)]) (fun (k : Nat) => k ≤ 167) (fun (k : Nat) => 167 - k) (0) (by omega) [4] ?_ ?_
 ·exact fitT
 ·intro k hk
  refine Ws ?_
  refine zu4 ?_
  refine Wi rfl (fun hi2 => ?_) (fun hi2 => ?_)
  ·have hlt : k < 167 := by have := oT hi2; rw [hA] at this; omega
   have hB := newB_len M k
   have hL := newL_len k
   have w1 := ar_1 hlt
   have w3 := ar_3 hlt
   refine Wj ?_
   refine Ws ?_
   refine Wl ?_
   refine zp3 ?_
   refine Wa 32 rfl (congrArg (fun z => PV.val (Value.int .i64 z)) w1) ?_
   refine zs1 ?_
   refine zu2 ?_
   refine Ws ?_
   refine zp1 ?_
   refine zc rfl Try.func45 ((ref_Names) _) ?_
   refine zs2 ?_
   refine Wi rfl (fun hi3 => ?_) (fun hi3 => ?_)
   ·have hk3 : 130 ≤ k := by have := oT hi3; rw [hN] at this; omega
    have w2 := ar_2 hlt hN hk3
    have hn : nval k = 170 + k := by unfold nval; rw [if_pos hk3]
    refine W_region rfl ?_
    refine zy2 ?_
    refine zc rfl Try.func45 ((ref_Names) _) ?_
    refine zy2 ?_
    refine Wa 42 rfl (congrArg (fun z => PV.val (Value.int .i64 z)) w2) ?_
    refine zs1 ?_
    refine zp5 ?_
    refine Wa 47 rfl (u8_mod _) ?_
    refine z2 ?_ (q := (by omega))
    refine Wd rfl rfl (does_store (lO tG rfl) rfl rfl rfl rfl rfl rfl (by rw [Nat.ble_eq, cB_len, hB]; (try dsimp only); simp; omega)) ?_
    refine WO_obI 2 rfl (congrArg (fun z => Ob.cells z 5) (splice_at rfl (by omega))) rfl ?_
    refine Wn ?_
    refine zp3 ?_
    refine Wa 51 rfl (congrArg (fun z => PV.val (Value.int .i64 z)) w3) ?_
    refine zy3 ?_
    refine Wa 54 rfl (u8_quo _ (by omega)) ?_
    refine z2 ?_ (q := (by omega))
    refine Wd rfl rfl (does_store (lO tG rfl) rfl rfl rfl rfl rfl rfl (by rw [Nat.ble_eq, cB_len, List.length_set, hB]; (try dsimp only); simp; omega)) ?_
    refine WO_obI 2 rfl (congrArg (fun z => Ob.cells z 5) (splice_at rfl (by rw [List.length_set]; omega))) rfl ?_
    refine Wn ?_
    refine Ws ?_
    refine W_drawU [0, 0, 0, 0, 0, 0, 0, 0, 0, 0, 0, 0, 0, 0, 3, 0] [0, 1, 2, 3, 4, 5, 6, 7, 8, 9, 10, 11, 12, 13, 14, 15] mG rfl (by kernel_rfl) ?_
    iterate 3 refine z3 ?_
    refine Xi tG rfl rfl rfl rfl (fun _ => rfl) (by omega) (iN cStr 1 (fun _ => rfl) [] (by omega)) ?_
    iterate 4 refine z3 ?_
    refine Xi tG rfl rfl rfl rfl (fun _ => rfl) (by omega) (iN cStr 1 (fun _ => rfl) [] (by omega)) ?_
    iterate 2 refine z3 ?_
    refine Xc rfl rfl rfl rfl (fun _ => dC rfl Try.func47 rfl rfl ((ref_flags _ k) _)) ?_
    iterate 2 refine z3 ?_
    refine Xa 69 rfl ((show PV.seq 1 _ .clip = .seq (List.length [wordN k]) (List.flatMap cWord [wordN k]) .clip from rfl)) ?_
    refine WU_does3 rfl rfl rfl rfl (does_append_own (lO tG rfl) rfl (lO tG rfl) (lO tG rfl) rfl rfl rfl rfl (by simp) (by exact ⟨_, rfl⟩) (by exact ⟨rfl, rfl, flatMap_len _ 3 (fun _ => rfl) _, okC_flat _ (fun _ => rfl) _⟩) (by (rw [hL]; dsimp only; simp; omega)) (by (simp; omega))) ?_
    refine Xa 70 rfl (sq_append cWord) ?_
    refine z3 ?_
    skip
    refine WU_nil ?_
    refine Ws ?_
    refine zp2 ?_
    refine Wv tG rfl rfl rfl (by omega) (iN cStr 1 (fun _ => rfl) [] (by omega)) ?_
    refine zy2 ?_
    refine zq 75 ?_
    refine Wn ?_
    refine Wi rfl (fun hi4 => ?_) (fun hi4 => ?_)
    ·have h1 : (allN.getD k [] = [40, 104, 97, 108, 116, 41]) = True := eq_true (oT hi4)
     refine zp4 ?_
     refine Wa 79 rfl (u8_mod _) ?_
     refine z2 ?_ (q := (by omega))
     refine Wd rfl rfl (does_store (lO tG rfl) rfl rfl rfl rfl rfl rfl (by rw [Nat.ble_eq, cB_len]; simp only [List.length_set, hB]; (try dsimp only); simp; omega)) ?_
     refine WO_obI 2 rfl (congrArg (fun z => Ob.cells z 5) (splice_at rfl (by simp only [List.length_set]; omega))) rfl ?_
     refine Wn ?_
     refine W_region rfl ?_
     refine zy4 ?_
     refine Wa 84 rfl (u8_quo _ (by omega)) ?_
     refine z2 ?_ (q := (by omega))
     refine Wd rfl rfl (does_store (lO tG rfl) rfl rfl rfl rfl rfl rfl (by rw [Nat.ble_eq, cB_len]; simp only [List.length_set, hB]; (try dsimp only); simp; omega)) ?_
     refine WO_obI 2 rfl (congrArg (fun z => Ob.cells z 5) (splice_at rfl (by simp only [List.length_set]; omega))) rfl ?_
     refine Wn ?_
     refine zp2 ?_
     refine Wv tG rfl rfl rfl (by omega) (iN cStr 1 (fun _ => rfl) [] (by omega)) ?_
     refine zy2 ?_
     refine zq 90 ?_
     refine Wn ?_
     refine Wi rfl (fun hi5 => ?_) (fun hi5 => ?_)
     ·have h2 : (allN.getD k [] = [40, 99, 97, 117, 103, 104, 116, 41]) = True := eq_true (oT hi5)
      refine zp4 ?_
      refine Wa 94 rfl (u8_mod _) ?_
      refine z2 ?_ (q := (by omega))
      refine Wd rfl rfl (does_store (lO tG rfl) rfl rfl rfl rfl rfl rfl (by rw [Nat.ble_eq, cB_len]; simp only [List.length_set, hB]; (try dsimp only); simp; omega)) ?_
      refine WO_obI 2 rfl (congrArg (fun z => Ob.cells z 5) (splice_at rfl (by simp only [List.length_set]; omega))) rfl ?_
      refine Wn ?_
      refine W_region rfl ?_
      refine zy4 ?_
      refine Wa 99 rfl (u8_quo _ (by omega)) ?_
      refine z2 ?_ (q := (by omega))
      refine Wd rfl rfl (does_store (lO tG rfl) rfl rfl rfl rfl rfl rfl (by rw [Nat.ble_eq, cB_len]; simp only [List.length_set, hB]; (try dsimp only); simp; omega)) ?_
      refine WO_obI 2 rfl (congrArg (fun z => Ob.cells z 5) (splice_at rfl (by simp only [List.length_set]; omega))) rfl ?_
      refine Wn ?_
      refine W_region rfl ?_
      refine z1 ?_
      refine WO_obI 2 rfl (congrArg (fun z => Ob.cells (List.flatMap cByte z) 5) (show _ = newB M (k + 1) from (stepB_of hn h1 h2).symm)) rfl ?_
      refine zs2 ?_
      exact ⟨k + 1, [6], (by omega), (by omega), (fitT (sub := by repeat (first | exact subL_nil | refine subL_cons (by first | exact imp_of rfl | exact imp_of (newW k) | exact imp_of (congrArg i64 (by (rw [i64w]; unfold wrap64; omega)))) ?_)))⟩
     ·have h2 : (allN.getD k [] = [40, 99, 97, 117, 103, 104, 116, 41]) = False := eq_false (oF hi5)
      refine Wj ?_
      refine W_region rfl ?_
      refine z1 ?_
      refine WO_obI 2 rfl (congrArg (fun z => Ob.cells (List.flatMap cByte z) 5) (show _ = newB M (k + 1) from (stepB_of hn h1 h2).symm)) rfl ?_
      refine zs2 ?_
      exact ⟨k + 1, [6], (by omega), (by omega), (fitT (sub := by repeat (first | exact subL_nil | refine subL_cons (by first | exact imp_of rfl | exact imp_of (newW k) | exact imp_of (congrArg i64 (by (rw [i64w]; unfold wrap64; omega)))) ?_)))⟩
    ·have h1 : (allN.getD k [] = [40, 104, 97, 108, 116, 41]) = False := eq_false (oF hi4)
     refine Wj ?_
     refine zp2 ?_
     refine Wv tG rfl rfl rfl (by omega) (iN cStr 1 (fun _ => rfl) [] (by omega)) ?_
     refine zy2 ?_
     refine zq 90 ?_
     refine Wn ?_
     refine Wi rfl (fun hi5 => ?_) (fun hi5 => ?_)
     ·have h2 : (allN.getD k [] = [40, 99, 97, 117, 103, 104, 116, 41]) = True := eq_true (oT hi5)
      refine zp4 ?_
      refine Wa 94 rfl (u8_mod _) ?_
      refine z2 ?_ (q := (by omega))
      refine Wd rfl rfl (does_store (lO tG rfl) rfl rfl rfl rfl rfl rfl (by rw [Nat.ble_eq, cB_len]; simp only [List.length_set, hB]; (try dsimp only); simp; omega)) ?_
      refine WO_obI 2 rfl (congrArg (fun z => Ob.cells z 5) (splice_at rfl (by simp only [List.length_set]; omega))) rfl ?_
      refine Wn ?_
      refine W_region rfl ?_
      refine zy4 ?_
      refine Wa 99 rfl (u8_quo _ (by omega)) ?_
      refine z2 ?_ (q := (by omega))
      refine Wd rfl rfl (does_store (lO tG rfl) rfl rfl rfl rfl rfl rfl (by rw [Nat.ble_eq, cB_len]; simp only [List.length_set, hB]; (try dsimp only); simp; omega)) ?_
      refine WO_obI 2 rfl (congrArg (fun z => Ob.cells z 5) (splice_at rfl (by simp only [List.length_set]; omega))) rfl ?_
      refine Wn ?_
      refine W_region rfl ?_
      refine z1 ?_
      refine WO_obI 2 rfl (congrArg (fun z => Ob.cells (List.flatMap cByte z) 5) (show _ = newB M (k + 1) from (stepB_of hn h1 h2).symm)) rfl ?_
      refine zs2 ?_
      exact ⟨k + 1, [6], (by omega), (by omega), (fitT (sub := by repeat (first | exact subL_nil | refine subL_cons (by first | exact imp_of rfl | exact imp_of (newW k) | exact imp_of (congrArg i64 (by (rw [i64w]; unfold wrap64; omega)))) ?_)))⟩
     ·have h2 : (allN.getD k [] = [40, 99, 97, 117, 103, 104, 116, 41]) = False := eq_false (oF hi5)
      refine Wj ?_
      refine W_region rfl ?_
      refine z1 ?_
      refine WO_obI 2 rfl (congrArg (fun z => Ob.cells (List.flatMap cByte z) 5) (show _ = newB M (k + 1) from (stepB_of hn h1 h2).symm)) rfl ?_
      refine zs2 ?_
      exact ⟨k + 1, [6], (by omega), (by omega), (fitT (sub := by repeat (first | exact subL_nil | refine subL_cons (by first | exact imp_of rfl | exact imp_of (newW k) | exact imp_of (congrArg i64 (by (rw [i64w]; unfold wrap64; omega)))) ?_)))⟩
   ·have hn : nval k = k := by have := oF hi3; rw [hN] at this; unfold nval; rw [if_neg (by omega)]
    refine Wj ?_
    refine zp5 ?_
    refine Wa 47 rfl (u8_mod _) ?_
    refine z2 ?_ (q := (by omega))
    refine Wd rfl rfl (does_store (lO tG rfl) rfl rfl rfl rfl rfl rfl (by rw [Nat.ble_eq, cB_len, hB]; (try dsimp only); simp; omega)) ?_
    refine WO_obI 2 rfl (congrArg (fun z => Ob.cells z 5) (splice_at rfl (by omega))) rfl ?_
    refine Wn ?_
    refine zp3 ?_
    refine Wa 51 rfl (congrArg (fun z => PV.val (Value.int .i64 z)) w3) ?_
    refine zy3 ?_
    refine Wa 54 rfl (u8_quo _ (by omega)) ?_
    refine z2 ?_ (q := (by omega))
    refine Wd rfl rfl (does_store (lO tG rfl) rfl rfl rfl rfl rfl rfl (by rw [Nat.ble_eq, cB_len, List.length_set, hB]; (try dsimp only); simp; omega)) ?_
    refine WO_obI 2 rfl (congrArg (fun z => Ob.cells z 5) (splice_at rfl (by rw [List.length_set]; omega))) rfl ?_
    refine Wn ?_
    refine Ws ?_
    refine W_drawU [0, 0, 0, 0, 0, 0, 0, 0, 0, 0, 0, 0, 0, 0, 3, 0] [0, 1, 2, 3, 4, 5, 6, 7, 8, 9, 10, 11, 12, 13, 14, 15] mG rfl (by kernel_rfl) ?_
    iterate 3 refine z3 ?_
    refine Xi tG rfl rfl rfl rfl (fun _ => rfl) (by omega) (iN cStr 1 (fun _ => rfl) [] (by omega)) ?_
    iterate 4 refine z3 ?_
    refine Xi tG rfl rfl rfl rfl (fun _ => rfl) (by omega) (iN cStr 1 (fun _ => rfl) [] (by omega)) ?_
    iterate 2 refine z3 ?_
    refine Xc rfl rfl rfl rfl (fun _ => dC rfl Try.func47 rfl rfl ((ref_flags _ k) _)) ?_
    iterate 2 refine z3 ?_
    refine Xa 69 rfl ((show PV.seq 1 _ .clip = .seq (List.length [wordN k]) (List.flatMap cWord [wordN k]) .clip from rfl)) ?_
    refine WU_does3 rfl rfl rfl rfl (does_append_own (lO tG rfl) rfl (lO tG rfl) (lO tG rfl) rfl rfl rfl rfl (by simp) (by exact ⟨_, rfl⟩) (by exact ⟨rfl, rfl, flatMap_len _ 3 (fun _ => rfl) _, okC_flat _ (fun _ => rfl) _⟩) (by (rw [hL]; dsimp only; simp; omega)) (by (simp; omega))) ?_
    refine Xa 70 rfl (sq_append cWord) ?_
    refine z3 ?_
    skip
    refine WU_nil ?_
    refine Ws ?_
    refine zp2 ?_
    refine Wv tG rfl rfl rfl (by omega) (iN cStr 1 (fun _ => rfl) [] (by omega)) ?_
    refine zy2 ?_
    refine zq 75 ?_
    refine Wn ?_
    refine Wi rfl (fun hi4 => ?_) (fun hi4 => ?_)
    ·have h1 : (allN.getD k [] = [40, 104, 97, 108, 116, 41]) = True := eq_true (oT hi4)
     refine zp4 ?_
     refine Wa 79 rfl (u8_mod _) ?_
     refine z2 ?_ (q := (by omega))
     refine Wd rfl rfl (does_store (lO tG rfl) rfl rfl rfl rfl rfl rfl (by rw [Nat.ble_eq, cB_len]; simp only [List.length_set, hB]; (try dsimp only); simp; omega)) ?_
     refine WO_obI 2 rfl (congrArg (fun z => Ob.cells z 5) (splice_at rfl (by simp only [List.length_set]; omega))) rfl ?_
     refine Wn ?_
     refine W_region rfl ?_
     refine zy4 ?_
     refine Wa 84 rfl (u8_quo _ (by omega)) ?_
     refine z2 ?_ (q := (by omega))
     refine Wd rfl rfl (does_store (lO tG rfl) rfl rfl rfl rfl rfl rfl (by rw [Nat.ble_eq, cB_len]; simp only [List.length_set, hB]; (try dsimp only); simp; omega)) ?_
     refine WO_obI 2 rfl (congrArg (fun z => Ob.cells z 5) (splice_at rfl (by simp only [List.length_set]; omega))) rfl ?_
     refine Wn ?_
     refine zp2 ?_
     refine Wv tG rfl rfl rfl (by omega) (iN cStr 1 (fun _ => rfl) [] (by omega)) ?_
     refine zy2 ?_
     refine zq 90 ?_
     refine Wn ?_
     refine Wi rfl (fun hi5 => ?_) (fun hi5 => ?_)
     ·have h2 : (allN.getD k [] = [40, 99, 97, 117, 103, 104, 116, 41]) = True := eq_true (oT hi5)
      refine zp4 ?_
      refine Wa 94 rfl (u8_mod _) ?_
      refine z2 ?_ (q := (by omega))
      refine Wd rfl rfl (does_store (lO tG rfl) rfl rfl rfl rfl rfl rfl (by rw [Nat.ble_eq, cB_len]; simp only [List.length_set, hB]; (try dsimp only); simp; omega)) ?_
      refine WO_obI 2 rfl (congrArg (fun z => Ob.cells z 5) (splice_at rfl (by simp only [List.length_set]; omega))) rfl ?_
      refine Wn ?_
      refine W_region rfl ?_
      refine zy4 ?_
      refine Wa 99 rfl (u8_quo _ (by omega)) ?_
      refine z2 ?_ (q := (by omega))
      refine Wd rfl rfl (does_store (lO tG rfl) rfl rfl rfl rfl rfl rfl (by rw [Nat.ble_eq, cB_len]; simp only [List.length_set, hB]; (try dsimp only); simp; omega)) ?_
      refine WO_obI 2 rfl (congrArg (fun z => Ob.cells z 5) (splice_at rfl (by simp only [List.length_set]; omega))) rfl ?_
      refine Wn ?_
      refine W_region rfl ?_
      refine z1 ?_
      refine WO_obI 2 rfl (congrArg (fun z => Ob.cells (List.flatMap cByte z) 5) (show _ = newB M (k + 1) from (stepB_of hn h1 h2).symm)) rfl ?_
      refine zs2 ?_
      exact ⟨k + 1, [6], (by omega), (by omega), (fitT (sub := by repeat (first | exact subL_nil | refine subL_cons (by first | exact imp_of rfl | exact imp_of (newW k) | exact imp_of (congrArg i64 (by (rw [i64w]; unfold wrap64; omega)))) ?_)))⟩
     ·have h2 : (allN.getD k [] = [40, 99, 97, 117, 103, 104, 116, 41]) = False := eq_false (oF hi5)
      refine Wj ?_
      refine W_region rfl ?_
      refine z1 ?_
      refine WO_obI 2 rfl (congrArg (fun z => Ob.cells (List.flatMap cByte z) 5) (show _ = newB M (k + 1) from (stepB_of hn h1 h2).symm)) rfl ?_
      refine zs2 ?_
      exact ⟨k + 1, [6], (by omega), (by omega), (fitT (sub := by repeat (first | exact subL_nil | refine subL_cons (by first | exact imp_of rfl | exact imp_of (newW k) | exact imp_of (congrArg i64 (by (rw [i64w]; unfold wrap64; omega)))) ?_)))⟩
    ·have h1 : (allN.getD k [] = [40, 104, 97, 108, 116, 41]) = False := eq_false (oF hi4)
     refine Wj ?_
     refine zp2 ?_
     refine Wv tG rfl rfl rfl (by omega) (iN cStr 1 (fun _ => rfl) [] (by omega)) ?_
     refine zy2 ?_
     refine zq 90 ?_
     refine Wn ?_
     refine Wi rfl (fun hi5 => ?_) (fun hi5 => ?_)
     ·have h2 : (allN.getD k [] = [40, 99, 97, 117, 103, 104, 116, 41]) = True := eq_true (oT hi5)
      refine zp4 ?_
      refine Wa 94 rfl (u8_mod _) ?_
      refine z2 ?_ (q := (by omega))
      refine Wd rfl rfl (does_store (lO tG rfl) rfl rfl rfl rfl rfl rfl (by rw [Nat.ble_eq, cB_len]; simp only [List.length_set, hB]; (try dsimp only); simp; omega)) ?_
      refine WO_obI 2 rfl (congrArg (fun z => Ob.cells z 5) (splice_at rfl (by simp only [List.length_set]; omega))) rfl ?_
      refine Wn ?_
      refine W_region rfl ?_
      refine zy4 ?_
      refine Wa 99 rfl (u8_quo _ (by omega)) ?_
      refine z2 ?_ (q := (by omega))
      refine Wd rfl rfl (does_store (lO tG rfl) rfl rfl rfl rfl rfl rfl (by rw [Nat.ble_eq, cB_len]; simp only [List.length_set, hB]; (try dsimp only); simp; omega)) ?_
      refine WO_obI 2 rfl (congrArg (fun z => Ob.cells z 5) (splice_at rfl (by simp only [List.length_set]; omega))) rfl ?_
      refine Wn ?_
      refine W_region rfl ?_
      refine z1 ?_
      refine WO_obI 2 rfl (congrArg (fun z => Ob.cells (List.flatMap cByte z) 5) (show _ = newB M (k + 1) from (stepB_of hn h1 h2).symm)) rfl ?_
      refine zs2 ?_
      exact ⟨k + 1, [6], (by omega), (by omega), (fitT (sub := by repeat (first | exact subL_nil | refine subL_cons (by first | exact imp_of rfl | exact imp_of (newW k) | exact imp_of (congrArg i64 (by (rw [i64w]; unfold wrap64; omega)))) ?_)))⟩
     ·have h2 : (allN.getD k [] = [40, 99, 97, 117, 103, 104, 116, 41]) = False := eq_false (oF hi5)
      refine Wj ?_
      refine W_region rfl ?_
      refine z1 ?_
      refine WO_obI 2 rfl (congrArg (fun z => Ob.cells (List.flatMap cByte z) 5) (show _ = newB M (k + 1) from (stepB_of hn h1 h2).symm)) rfl ?_
      refine zs2 ?_
      exact ⟨k + 1, [6], (by omega), (by omega), (fitT (sub := by repeat (first | exact subL_nil | refine subL_cons (by first | exact imp_of rfl | exact imp_of (newW k) | exact imp_of (congrArg i64 (by (rw [i64w]; unfold wrap64; omega)))) ?_)))⟩
  ·have hge : k = 167 := by have := oF hi2; rw [hA] at this; omega
   have hB := newB_len M k
   have eN : tVm (newVm c, 0) = tVm (vmOf c (newB M k) (newL k), 0) := by rw [hge, newVm_of, hMt]
   generalize newB M k = b0 at hB eN ⊢
   generalize newL k = l0 at eN ⊢
   refine W_exit ?_
   refine zp2 ?_
   refine Wm 102 rfl (imp_arr_arw (Nat.le_refl _)) ?_
   refine WO_freeze 102 2 _ M rfl rfl (by rw [cB_len, hB]; exact Nat.le_refl _) ?_
   refine Wa 102 rfl (show _ = sq cByte b0 from frz_b hB) ?_
   refine zs5 ?_
   refine zR ?_
   rw [eN]; rfl
end Go.Proofs.Ytlponhgbbfgkgaa
namespace Go.Proofs.Ytlponhgbbfgkgaa
open Go.RowKit
set_option maxRecDepth 100000
set_option maxHeartbeats 8000000
def cF : VConf := ⟨4096, 32, 32, 250, 2000⟩
def vF : VVm := newVm cF
theorem fits_F : fitsV cF := by unfold fitsV cF; dsimp only; decide
theorem memF : ((List.range 168).all fun i => decide (memFetch vF.mem (24 + 8 * (i : Int)) = (if i = 0 then (memFetch vF.mem 24).1 else ((nval (i - 1) : Nat) : Int), 0)) && decide (memFetch vF.mem 0 = (10, 0))) = true := by kernel_rfl
theorem mem_0 : memFetch vF.mem 0 = (10, 0) := by
 have h := List.all_eq_true.1 memF 0 (List.mem_range.2 (by decide))
 rw [Bool.and_eq_true, decide_eq_true_eq, decide_eq_true_eq] at h
 exact h.2
theorem kF {i : Nat} (hi : i < 167) : vmKind vF ((32 + 8 * i : Nat) : Int) = (((nval i : Nat) : Int), 0) := by
 have h := List.all_eq_true.1 memF (i + 1) (List.mem_range.2 (by omega))
 rw [Bool.and_eq_true, decide_eq_true_eq, decide_eq_true_eq] at h
 have h1 := h.1
 rw [if_neg (by omega), Nat.add_sub_cancel, show (24 + 8 * ((i + 1 : Nat) : Int)) = ((32 + 8 * i : Nat) : Int) by omega] at h1
 unfold vmKind
 rw [h1, if_pos rfl, if_pos (by unfold kindOk nval; split <;> (dsimp only; omega))]
theorem rdF (w sp : Str) (i : Nat) (hi : i < 167) (h : findS vF.dict w = (wordN i, (i : Int), true)) (h2 : 300 ≤ nval i) (h3 : specials.getD (nval i - 300) [] = sp) (l : Int) : rdS vF w l = (0, sp, .mk 0 0 [] []) := by
 have e : (((nval i : Int) - 300).toNat) = nval i - 300 := by omega
 unfold rdS
 rw [h]
 dsimp only
 rw [if_neg (by decide), show (wordN i).xt = ((32 + 8 * i : Nat) : Int) from rfl, kF hi]
 dsimp only
 rw [if_neg (by decide), if_pos (by omega), e, h3]
theorem rdF2 (w : Str) (i : Nat) (hi : i < 167) (h : findS vF.dict w = (wordN i, (i : Int), true)) (h2 : nval i < 300) (h3 : (wordN i).flags % 2 = 0) (l : Int) : rdS vF w l = (if fitsK (nval i) l = true then 0 else -32, [], .mk 2 ((32 + 8 * i : Nat) : Int) [] []) := by
 unfold rdS
 rw [h]
 dsimp only
 rw [if_neg (by decide), show (wordN i).xt = ((32 + 8 * i : Nat) : Int) from rfl, kF hi]
 dsimp only
 rw [if_neg (by decide), if_neg (by omega)]
 simp only [h3, and_true]
theorem rdF3 (w : Str) (h : (findS vF.dict w).2.2 = false) (l : Int) : rdS vF w l = (if (parseS w 10).2 = true then 0 else -13, [], .mk 1 (parseS w 10).1 [] []) := by
 unfold rdS
 rw [if_pos h, mem_0]
theorem r_IF (l : Int) : rdS vF [73, 70] l = (0, [73, 70], .mk 0 0 [] []) := rdF _ _ 144 (by decide) (by kernel_rfl) (by decide) (by kernel_rfl) l
theorem r_ELSE (l : Int) : rdS vF [69, 76, 83, 69] l = (0, [69, 76, 83, 69], .mk 0 0 [] []) := rdF _ _ 145 (by decide) (by kernel_rfl) (by decide) (by kernel_rfl) l
theorem r_THEN (l : Int) : rdS vF [84, 72, 69, 78] l = (0, [84, 72, 69, 78], .mk 0 0 [] []) := rdF _ _ 146 (by decide) (by kernel_rfl) (by decide) (by kernel_rfl) l
theorem r_DO (l : Int) : rdS vF [68, 79] l = (0, [68, 79], .mk 0 0 [] []) := rdF _ _ 152 (by decide) (by kernel_rfl) (by decide) (by kernel_rfl) l
theorem r_LOOP (l : Int) : rdS vF [76, 79, 79, 80] l = (0, [76, 79, 79, 80], .mk 0 0 [] []) := rdF _ _ 154 (by decide) (by kernel_rfl) (by decide) (by kernel_rfl) l
theorem r_LEAVE (l : Int) : rdS vF [76, 69, 65, 86, 69] l = (0, [76, 69, 65, 86, 69], .mk 0 0 [] []) := rdF _ _ 156 (by decide) (by kernel_rfl) (by decide) (by kernel_rfl) l
theorem r_EXIT (l : Int) : rdS vF [69, 88, 73, 84] l = (0, [69, 88, 73, 84], .mk 0 0 [] []) := rdF _ _ 166 (by decide) (by kernel_rfl) (by decide) (by kernel_rfl) l
theorem r_CREATE (l : Int) : rdS vF [67, 82, 69, 65, 84, 69] l = (0, [67, 82, 69, 65, 84, 69], .mk 0 0 [] []) := rdF _ _ 132 (by decide) (by kernel_rfl) (by decide) (by kernel_rfl) l
theorem r_I (l : Int) : rdS vF [73] l = (if fitsK 15 l = true then 0 else -32, [], .mk 2 152 [] []) := rdF2 _ 15 (by decide) (by kernel_rfl) (by decide) (by kernel_rfl) l
theorem r_J (l : Int) : rdS vF [74] l = (if fitsK 16 l = true then 0 else -32, [], .mk 2 160 [] []) := rdF2 _ 16 (by decide) (by kernel_rfl) (by decide) (by kernel_rfl) l
theorem r_DUP (l : Int) : rdS vF [68, 85, 80] l = (if fitsK 23 l = true then 0 else -32, [], .mk 2 216 [] []) := rdF2 _ 23 (by decide) (by kernel_rfl) (by decide) (by kernel_rfl) l
theorem r_one (l : Int) : rdS vF [49] l = (0, [], .mk 1 1 [] []) := (rdF3 _ (by kernel_rfl) l).trans (by rw [show parseS [49] 10 = (1, true) by kernel_rfl]; rfl)
theorem r_two (l : Int) : rdS vF [50] l = (0, [], .mk 1 2 [] []) := (rdF3 _ (by kernel_rfl) l).trans (by rw [show parseS [50] 10 = (2, true) by kernel_rfl]; rfl)
theorem r_nope (l : Int) : rdS vF [110, 111, 112, 101] l = (-13, [], .mk 1 (parseS [110, 111, 112, 101] 10).1 [] []) := (rdF3 _ (by kernel_rfl) l).trans (by rw [show (parseS [110, 111, 112, 101] 10).2 = false by kernel_rfl]; rfl)
def tabF (w : Str) (l : Int) : Int × Str × VNode :=
 if w = [68, 79] then (0, [68, 79], .mk 0 0 [] []) else if w = [73, 70] then (0, [73, 70], .mk 0 0 [] []) else if w = [84, 72, 69, 78] then (0, [84, 72, 69, 78], .mk 0 0 [] []) else if w = [76, 79, 79, 80] then (0, [76, 79, 79, 80], .mk 0 0 [] []) else if w = [73] then (if fitsK 15 l = true then 0 else -32, [], .mk 2 152 [] []) else if w = [74] then (if fitsK 16 l = true then 0 else -32, [], .mk 2 160 [] []) else if w = [76, 69, 65, 86, 69] then (0, [76, 69, 65, 86, 69], .mk 0 0 [] []) else if w = [69, 88, 73, 84] then (0, [69, 88, 73, 84], .mk 0 0 [] []) else if w = [68, 85, 80] then (if fitsK 23 l = true then 0 else -32, [], .mk 2 216 [] []) else if w = [69, 76, 83, 69] then (0, [69, 76, 83, 69], .mk 0 0 [] []) else if w = [49] then (0, [], .mk 1 1 [] []) else if w = [50] then (0, [], .mk 1 2 [] []) else if w = [110, 111, 112, 101] then (-13, [], .mk 1 (parseS [110, 111, 112, 101] 10).1 [] []) else if w = [67, 82, 69, 65, 84, 69] then (0, [67, 82, 69, 65, 84, 69], .mk 0 0 [] []) else rdS vF w l
theorem tabF_eq (w : Str) (l : Int) : rdS vF w l = tabF w l := by
 unfold tabF
 by_cases h : w = [68, 79]
 ·rw [if_pos h, h]; exact r_DO l
 rw [if_neg h]; clear h
 by_cases h : w = [73, 70]
 ·rw [if_pos h, h]; exact r_IF l
 rw [if_neg h]; clear h
 by_cases h : w = [84, 72, 69, 78]
 ·rw [if_pos h, h]; exact r_THEN l
 rw [if_neg h]; clear h
 by_cases h : w = [76, 79, 79, 80]
 ·rw [if_pos h, h]; exact r_LOOP l
 rw [if_neg h]; clear h
 by_cases h : w = [73]
 ·rw [if_pos h, h]; exact r_I l
 rw [if_neg h]; clear h
 by_cases h : w = [74]
 ·rw [if_pos h, h]; exact r_J l
 rw [if_neg h]; clear h
 by_cases h : w = [76, 69, 65, 86, 69]
 ·rw [if_pos h, h]; exact r_LEAVE l
 rw [if_neg h]; clear h
 by_cases h : w = [69, 88, 73, 84]
 ·rw [if_pos h, h]; exact r_EXIT l
 rw [if_neg h]; clear h
 by_cases h : w = [68, 85, 80]
 ·rw [if_pos h, h]; exact r_DUP l
 rw [if_neg h]; clear h
 by_cases h : w = [69, 76, 83, 69]
 ·rw [if_pos h, h]; exact r_ELSE l
 rw [if_neg h]; clear h
 by_cases h : w = [49]
 ·rw [if_pos h, h]; exact r_one l
 rw [if_neg h]; clear h
 by_cases h : w = [50]
 ·rw [if_pos h, h]; exact r_two l
 rw [if_neg h]; clear h
 by_cases h : w = [110, 111, 112, 101]
 ·rw [if_pos h, h]; exact r_nope l
 rw [if_neg h]; clear h
 by_cases h : w = [67, 82, 69, 65, 84, 69]
 ·rw [if_pos h, h]; exact r_CREATE l
 rw [if_neg h]
def tabR : Rdr := ⟨tabF, (readerS vF).tk⟩
theorem tabR_eq : readerS vF = tabR := by
 show Rdr.mk (rdS vF) _ = Rdr.mk tabF _
 rw [show rdS vF = tabF from funext fun w => funext fun l => tabF_eq w l]
 rfl
theorem sh_a : parseP tabR [[68, 85, 80], [73, 70], [49], [69, 76, 83, 69], [50], [84, 72, 69, 78]] = ([.mk 2 216 [] [], .mk 3 1 [.mk 1 1 [] []] [.mk 1 2 [] []]], 0) := by kernel_rfl
theorem sh_b : parseP tabR [[73, 70]] = ([], -22) := by kernel_rfl
theorem sh_c : parseP tabR [[110, 111, 112, 101]] = ([], -13) := by kernel_rfl
theorem sh_d : parseP tabR [[67, 82, 69, 65, 84, 69]] = ([], -32) := by kernel_rfl
theorem vrd_F : VRd vF := by
 have h : ((newL 167).all fun w => decide (w.name.length ≤ 100) && (decide (0 ≤ w.flags) && (decide (w.flags ≤ 7) && decide (0 ≤ w.xt ∧ w.xt ≤ 100000)))) = true := by kernel_rfl
 have k : ∀ w ∈ newL 167, w.name.length ≤ 100 ∧ 0 ≤ w.flags ∧ w.flags ≤ 7 ∧ 0 ≤ w.xt ∧ w.xt ≤ 100000 := fun w hw => by
  have := List.all_eq_true.1 h w hw
  simpa only [Bool.and_eq_true, decide_eq_true_eq] using this
 refine ⟨⟨by show (newL 167).length ≤ _; rw [newL_len]; omega, fun w hw => ?_⟩, fun w hw => ?_, ?_⟩
 ·have := k w hw; exact ⟨by omega, this.2.1, this.2.2.1⟩
 ·have := k w hw; unfold Fit64; omega
 ·show (newB cF.mem.toNat 167).length ≤ _; rw [newB_len]; decide
end Go.Proofs.Ytlponhgbbfgkgaa
namespace Go.Proofs.Ytlponhgbbfgkgaa
open Go.RowKit
set_option maxRecDepth 100000
set_option maxHeartbeats 8000000
theorem ws_small {ws : List Str} (h : (decide (ws.length ≤ 1000000) && ws.all fun w => decide (w.length ≤ 1000000)) = true) : WsOk ws := by
 rw [Bool.and_eq_true, decide_eq_true_eq, List.all_eq_true] at h
 exact ⟨h.1, fun w hw => by have := oT (h.2 w hw); omega⟩
def eF15 : PV := .agg (cVm vF ++ [i64 0, .seq 0 [] .any, i64 0, i64 0, i64 0, boo false, i64 0])
theorem flat_cVmX (v : VVm) (l : List PV) (h : FlatL l) : Flat (.agg (cVm v ++ l)) := by unfold Flat; exact flatL_app (flat_cVm v) h
@[simp] theorem flat_eF15 : Flat eF15 := flat_cVmX _ _ (by simp [FlatL, Flat])
theorem ref_New15 : PureC Try.prog 15 [] eF15 := by
 refine pW tG (rs := [.cell 0 59]) Try.func15 rfl rfl rfl (by simp) (by simp) (fun B => ?_)
 refine zu1 ?_
 refine zp1 ?_
 refine zc rfl Try.func28 ((ref_New cF fits_F) _) ?_
 refine zy5 ?_
 refine zs1 ?_
 refine zu3 ?_
 refine zR ?_
 rfl
def shT : List VNode := [.mk 2 216 [] [], .mk 3 1 [.mk 1 1 [] []] [.mk 1 2 [] []]]
theorem imp_node (k n : Int) : Imp (.agg [i64 k, i64 n, .seq 0 [] .clip, .seq 0 [] .clip]) (eNode (.mk k n [] [])) :=
 imp_agg ⟨Imp.refl _, Imp.refl _, imp_seq _ _ _, imp_seq _ _ _, trivial⟩
theorem lawAst_shown : PureC Try.prog 5 [] (boo true) := by
 have p1 := ast_Parse vF [[68, 85, 80], [73, 70], [49], [69, 76, 83, 69], [50], [84, 72, 69, 78]] vrd_F (ws_small (by kernel_rfl)) (by decide)
 have p2 := ast_Parse vF [[73, 70]] vrd_F (ws_small (by kernel_rfl)) (by decide)
 have p3 := ast_Parse vF [[110, 111, 112, 101]] vrd_F (ws_small (by kernel_rfl)) (by decide)
 have p4 := ast_Parse vF [[67, 82, 69, 65, 84, 69]] vrd_F (ws_small (by kernel_rfl)) (by decide)
 rw [tabR_eq, sh_a] at p1
 rw [tabR_eq, sh_b] at p2
 rw [tabR_eq, sh_c] at p3
 rw [tabR_eq, sh_d] at p4
 refine pW tG (rs := [.tmp 0]) Try.func5 rfl rfl rfl (by simp) (by simp) (fun B => ?_)
 refine zu1 ?_
 refine z8 ?_
 refine zc rfl Try.func15 ((ref_New15) _) ?_
 refine zs3 ?_
 refine zp2 ?_
 refine Wa 14 rfl (bsL cStr [_, _, _, _, _, _] rfl rfl) ?_
 refine zc rfl Try.func9 ((p1) _) ?_
 refine zs5 ?_
 refine zp2 ?_
 refine Wa 20 rfl (bsL cStr [_] rfl rfl) ?_
 refine zc rfl Try.func9 ((p2) _) ?_
 refine zs5 ?_
 refine zp2 ?_
 refine Wa 26 rfl (bsL cStr [_] rfl rfl) ?_
 refine zc rfl Try.func9 ((p3) _) ?_
 refine zs5 ?_
 refine zp2 ?_
 refine Wa 32 rfl (bsL cStr [_] rfl rfl) ?_
 refine zc rfl Try.func9 ((p4) _) ?_
 refine zs5 ?_
 refine Ws ?_
 refine zp3 ?_
 refine WO_false 38 rfl (by rfl) ?_
 refine zs4 ?_
 refine Wf rfl (by rfl) ?_
 refine Wj ?_
 refine zp3 ?_
 refine WO_true 45 rfl (by rfl) ?_
 refine zy4 ?_
 refine WO_true 49 rfl (by rfl) ?_
 refine zy4 ?_
 refine WO_true 53 rfl (by rfl) ?_
 refine z1 ?_
 refine Wv tG rfl rfl rfl (by (simp_all; done)) (iN cNode 4 (fun _ => rfl) default (by (simp_all; done))) ?_
 refine zy5 ?_
 refine WO_true 60 rfl (by rfl) ?_
 refine z1 ?_
 refine Wv tG rfl rfl rfl (by (simp_all; done)) (iN cNode 4 (fun _ => rfl) default (by (simp_all; done))) ?_
 refine zy5 ?_
 refine WO_true 67 rfl (by rfl) ?_
 refine z1 ?_
 refine Wv tG rfl rfl rfl (by (simp_all; done)) (iN cNode 4 (fun _ => rfl) default (by (simp_all; done))) ?_
 refine zy5 ?_
 refine WO_true 74 rfl (by rfl) ?_
 refine z1 ?_
 refine Wv tG rfl rfl rfl (by (simp_all; done)) (iN cNode 4 (fun _ => rfl) default (by (simp_all; done))) ?_
 refine zy5 ?_
 refine WO_true 81 rfl (by rfl) ?_
 refine z1 ?_
 refine Wv tG rfl rfl rfl (by (simp_all; done)) (iN cNode 4 (fun _ => rfl) default (by (simp_all; done))) ?_
 refine zy5 ?_
 refine z1 ?_
 refine WO_true 89 rfl (by rfl) ?_
 refine z1 ?_
 refine Wv tG rfl rfl rfl (by (simp_all; done)) (iN cNode 4 (fun _ => rfl) default (by (simp_all; done))) ?_
 refine zy2 ?_
 refine Wa 93 rfl (sqN_eq [.mk 1 1 [] []]) ?_
 refine Wv tG rfl rfl rfl (by (simp_all; done)) (iN cNode 4 (fun _ => rfl) default (by (simp_all; done))) ?_
 refine zy5 ?_
 refine WO_true 99 rfl (by rfl) ?_
 refine z1 ?_
 refine Wv tG rfl rfl rfl (by (simp_all; done)) (iN cNode 4 (fun _ => rfl) default (by (simp_all; done))) ?_
 refine zy5 ?_
 refine z1 ?_
 refine WO_true 107 rfl (by rfl) ?_
 refine z1 ?_
 refine Wv tG rfl rfl rfl (by (simp_all; done)) (iN cNode 4 (fun _ => rfl) default (by (simp_all; done))) ?_
 refine zy2 ?_
 refine Wa 111 rfl (sqN_eq [.mk 1 2 [] []]) ?_
 refine Wv tG rfl rfl rfl (by (simp_all; done)) (iN cNode 4 (fun _ => rfl) default (by (simp_all; done))) ?_
 refine zy5 ?_
 refine WO_true 117 rfl (by rfl) ?_
 refine z1 ?_
 refine zc rfl Try.func12 ((ast_May shT (okL_sz _ (by decide))) _) ?_
 refine zy2 ?_
 refine WO_true 121 rfl (by rfl) ?_
 refine z1 ?_
 refine Wm 122 rfl (imp_node 99 0) ?_
 refine z1 ?_
 refine Wa 123 rfl ((show PV.seq 1 _ .clip = .seq (List.length [VNode.mk 99 0 [] []]) (List.flatMap cNode [VNode.mk 99 0 [] []]) .clip from rfl)) ?_
 refine zc rfl Try.func12 ((ast_May [.mk 99 0 [] []] (okL_sz _ (by decide))) _) ?_
 refine zy3 ?_
 refine WO_true 127 rfl (by rfl) ?_
 refine zy2 ?_
 refine zc rfl Try.func14 ((ast_Same shT shT (okL_sz _ (by decide)) (okL_sz _ (by decide))) _) ?_
 refine zy2 ?_
 refine WO_true 132 rfl (by rfl) ?_
 refine zy2 ?_
 refine z2 ?_ (q := (by (simp_all; done)))
 refine Wa 135 rfl (sq_slice cNode 4 (fun _ => rfl) (by (simp_all; done))) ?_
 refine zc rfl Try.func14 ((ast_Same shT (shT.take 1) (okL_sz _ (by decide)) (okL_sz _ (by decide))) _) ?_
 refine zs3 ?_
 refine zR ?_
 rfl
end Go.Proofs.Ytlponhgbbfgkgaa
namespace Go.Proofs.Ytlponhgbbfgkgaa
open Go.RowKit
set_option maxRecDepth 100000
def SzR (row : PSt → PRes) : Prop := ∀ s : PSt, szL (row s).2.1 + (row s).1.rest.length ≤ s.rest.length
theorem sz_one (x : VNode) : szL [x] = szN x := by rw [szL, szL]; omega
theorem fail_r (s : PSt) (e : Int) : (s.fail e).rest = s.rest := (fail_o s e).2.2
theorem opens_r (s : PSt) : (opensP s).rest = s.rest := by unfold opensP; dsimp only; split <;> first | rfl | exact fail_r _ _
theorem body_sz {row : PSt → PRes} (h : SzR row) (s : PSt) (ends : List (List UInt8)) : szL (bodyP row s ends).2.1 + (bodyP row s ends).1.rest.length ≤ s.rest.length := by
 have h1 := h s
 unfold bodyP
 dsimp only
 split
 ·rw [(ends_o _ _).2.2]; exact h1
 ·exact h1
theorem if_sz {row : PSt → PRes} (h : SzR row) (s : PSt) : szN (ifP row s).2 + (ifP row s).1.rest.length ≤ s.rest.length + 1 := by
 have h1 := body_sz h (opensP s) [[69, 76, 83, 69], [84, 72, 69, 78]]
 rw [opens_r] at h1
 unfold ifP
 dsimp only
 split
 ·have h2 := body_sz h (bodyP row (opensP s) [[69, 76, 83, 69], [84, 72, 69, 78]]).1 [[84, 72, 69, 78]]
  rw [szN]; unfold shutP; dsimp only; omega
 ·rw [szN, szL]; unfold shutP; dsimp only; omega
theorem begin_sz {row : PSt → PRes} (h : SzR row) (s : PSt) : szN (beginP row s).2 + (beginP row s).1.rest.length ≤ s.rest.length + 1 := by
 have h1 := body_sz h (opensP s) [[85, 78, 84, 73, 76], [65, 71, 65, 73, 78], [87, 72, 73, 76, 69]]
 rw [opens_r] at h1
 unfold beginP
 dsimp only
 split
 ·rw [szN, szL]; unfold shutP; dsimp only; omega
 split
 ·have h2 := body_sz h (bodyP row (opensP s) [[85, 78, 84, 73, 76], [65, 71, 65, 73, 78], [87, 72, 73, 76, 69]]).1 [[82, 69, 80, 69, 65, 84]]
  rw [szN]; unfold shutP; dsimp only; omega
 ·rw [szN, szL]; unfold shutP; dsimp only; omega
theorem loopN_sz {row : PSt → PRes} (h : SzR row) (ask : Int) (s : PSt) : szN (loopN row ask s).2 + (loopN row ask s).1.rest.length ≤ s.rest.length + 1 := by
 have h1 := body_sz h { opensP s with loops := (opensP s).loops + 1 } [[76, 79, 79, 80], [43, 76, 79, 79, 80]]
 have h2 := congrArg List.length (opens_r s)
 unfold loopN
 dsimp only at h1 ⊢
 rw [szN, szL]; unfold shutP; dsimp only; omega
theorem bare_sz (k n : Int) : szN (.mk k n [] []) = 1 := by rw [szN, szL]
theorem name_r (s : PSt) : (nameP s).1.rest.length ≤ s.rest.length := by
 unfold nameP
 split
 ·rw [fail_r]; omega
 ·rename_i w ws h
  rw [h]
  dsimp only
  split
  ·rw [fail_r, List.length_cons]; dsimp only; omega
  ·rw [List.length_cons]; dsimp only; omega
theorem on_sz {R : Rdr} {row : PSt → PRes} (h : SzR row) {sp : List UInt8} {s : PSt} {q : PSt × VNode} (e : onP R row sp s = some q) : szN q.2 + q.1.rest.length ≤ s.rest.length + 1 := by
 have hn := name_r s
 unfold onP at e
 split at e
 ·cases e; exact if_sz h s
 split at e
 ·cases e; exact begin_sz h s
 split at e
 ·cases e; exact loopN_sz h 0 s
 split at e
 ·cases e; exact loopN_sz h 1 s
 split at e
 ·cases e; unfold leaveP; dsimp only; rw [bare_sz]; split <;> (try rw [fail_r]) <;> omega
 split at e
 ·cases e; unfold exitP; dsimp only; rw [bare_sz]; split <;> (try rw [fail_r]) <;> omega
 split at e
 ·cases e; (try dsimp only); rw [bare_sz]; omega
 split at e
 ·cases e; unfold charP; dsimp only; rw [bare_sz]; omega
 split at e
 ·cases e; unfold tickP; dsimp only; rw [bare_sz]; split <;> (try rw [fail_r]) <;> omega
 ·cases e
theorem loop_sz {R : Rdr} (hR : ∀ w l, szN (R.rd w l).2.2 = 1) : ∀ (m : Nat) (s : PSt) (acc : List VNode), szL (loopP R m s acc).2.1 + (loopP R m s acc).1.rest.length ≤ szL acc + s.rest.length
 | 0, s, acc => by rw [loopP, fail_r, szL]; (try dsimp only); omega
 | m + 1, s, acc => by
  have ih := loop_sz hR m
  have hrow : SzR (fun s => loopP R m s []) := fun s => by have := ih s []; rw [szL] at this; dsimp only; omega
  rw [loopP]
  split
  ·rw [szL]; dsimp only; omega
  split
  ·dsimp only; omega
  ·rename_i w ws h
   rw [h, List.length_cons]
   dsimp only
   split
   ·have k := ih (({ s with rest := ws } : PSt).fail (R.rd w s.loops).1) (acc ++ [(R.rd w s.loops).2.2])
    rw [fail_r, sz_app, sz_one, hR] at k
    dsimp only at k
    omega
   ·split
    ·rw [fail_r]; dsimp only; omega
    ·rename_i q hq
     have k1 := on_sz hrow hq
     rw [fail_r] at k1
     dsimp only at k1
     have k2 := ih q.1 (acc ++ [q.2])
     rw [sz_app, sz_one] at k2
     omega
theorem parse_sz {R : Rdr} (hR : ∀ w l, szN (R.rd w l).2.2 = 1) (ws : List (List UInt8)) : szL (parseP R ws).1 ≤ ws.length := by
 have h := loop_sz hR (ws.length + 1) ⟨ws, 0, 0, 0⟩ []
 rw [szL] at h
 dsimp only at h
 unfold parseP
 dsimp only
 generalize loopP R (ws.length + 1) ⟨ws, 0, 0, 0⟩ [] = P at h ⊢
 generalize (if P.1.bad = 0 ∧ P.2.2 ≠ [] then endsP P.1 P.2.2 else P.1) = z
 by_cases c : z.bad ≠ 0
 ·rw [if_pos c]; dsimp only; rw [szL]; omega
 ·rw [if_neg c]; dsimp only; omega
theorem rds_sz (v : VVm) (w : Str) (l : Int) : szN (rdS v w l).2.2 = 1 := by
 unfold rdS
 split
 ·exact bare_sz _ _
 split
 ·exact bare_sz _ _
 split
 ·exact bare_sz _ _
 ·exact bare_sz _ _
theorem parse_small (v : VVm) (ws : List Str) : szL (parseP (readerS v) ws).1 ≤ ws.length := parse_sz (fun w l => rds_sz v w l) ws
end Go.Proofs.Ytlponhgbbfgkgaa
namespace Go.Proofs.Ytlponhgbbfgkgaa
open Go.RowKit
set_option maxRecDepth 100000
theorem wf_fit {n : Int} (h : (Lit.int .i64 n).wf = true) : Fit64 n := fit_wf h
theorem rd_int64 {w : World} {cs : List Value} (h : Rd w 3 cs) : ∃ n, Fit64 n ∧ RepL (c0 w) [i64 n] cs := by
 obtain ⟨n, h1, h2⟩ := rd_int_rep Try.underlying3 h
 exact ⟨n, wf_fit h1, h2⟩
theorem rd_byte {w : World} {cs : List Value} (h : Rd w 5 cs) : ∃ b : UInt8, True ∧ RepL (c0 w) (cByte b) cs := by
 obtain ⟨n, h1, h2⟩ := rd_int_rep Try.underlying5 h
 have h3 := byte_wf h1
 refine ⟨UInt8.ofNat n.toNat, trivial, ?_⟩
 have e : ((UInt8.ofNat n.toNat).toNat : Int) = n := by rw [UInt8.toNat_ofNat']; omega
 unfold cByte
 rw [e]; exact h2
theorem str_size' (s : ByteArray) : s.size = s.data.toList.length := by show s.data.size = _; simp
theorem rd_str {w : World} {cs : List Value} (h : Rd w 9 cs) : ∃ s : Str, s.length ≤ 9223372036854775807 ∧ RepL (c0 w) [str s] cs := by
 obtain ⟨s, h1, h2⟩ := rd_string_rep Try.underlying9 h
 refine ⟨s.data.toList, by unfold maxLen at h1; have : s.size = s.data.toList.length := (str_size' s); omega, ?_⟩
 rw [← str_of]; exact h2
theorem rd_boo {w : World} {cs : List Value} (h : Rd w 4 cs) : ∃ b : Bool, True ∧ RepL (c0 w) [boo b] cs := by
 obtain ⟨b, h1⟩ := rd_bool_rep Try.underlying4 h
 exact ⟨b, trivial, h1⟩
theorem rd_bytes {w : World} {cs : List Value} (h : Rd w 24 cs) : ∃ l : List UInt8, l.length ≤ 9223372036854775807 ∧ RepL (c0 w) [sq cByte l] cs := by
 obtain ⟨l, _, h2, h3⟩ := rd_slice_rep cByte (fun _ => True) 1 Try.underlying24 (by kernel_rfl) (by omega) (fun es h => rd_byte h) h
 exact ⟨l, by unfold maxLen at h2; omega, h3⟩
theorem rd_intl {w : World} {cs : List Value} (h : Rd w 28 cs) : ∃ l : List Int, ((∀ x ∈ l, Fit64 x) ∧ l.length ≤ 9223372036854775807) ∧ RepL (c0 w) [sq cInt l] cs := by
 obtain ⟨l, h1, h2, h3⟩ := rd_slice_rep cInt Fit64 1 Try.underlying28 (by kernel_rfl) (by omega) (fun es h => rd_int64 h) h
 exact ⟨l, ⟨h1, by unfold maxLen at h2; omega⟩, h3⟩
structure OkConf (x : VConf) : Prop where
 o_mem : Fit64 x.mem
 o_data : Fit64 x.data
 o_ret : Fit64 x.ret
 o_words : Fit64 x.words
 o_out : Fit64 x.out
theorem rd_Conf {w : World} {cs : List Value} (h : Rd w 23 cs) : ∃ x : VConf, OkConf x ∧ RepL (c0 w) (cConf x) cs := by
 have h0 := rd_all Try.underlying23 [(3, 1), (3, 1), (3, 1), (3, 1), (3, 1)] (by kernel_rfl) (by kernel_rfl) (by kernel_rfl) h
 simp only [RdAll] at h0
 obtain ⟨a0, b0, e0, _, r0, t0⟩ := h0
 obtain ⟨a1, b1, e1, _, r1, t1⟩ := t0
 obtain ⟨a2, b2, e2, _, r2, t2⟩ := t1
 obtain ⟨a3, b3, e3, _, r3, t3⟩ := t2
 obtain ⟨a4, b4, e4, _, r4, t4⟩ := t3
 obtain ⟨x0, k0, p0⟩ := rd_int64 r0
 obtain ⟨x1, k1, p1⟩ := rd_int64 r1
 obtain ⟨x2, k2, p2⟩ := rd_int64 r2
 obtain ⟨x3, k3, p3⟩ := rd_int64 r3
 obtain ⟨x4, k4, p4⟩ := rd_int64 r4
 refine ⟨⟨x0, x1, x2, x3, x4⟩, ⟨k0, k1, k2, k3, k4⟩, ?_⟩
 subst e0 e1 e2 e3 e4
 have key := (RepL.append p0 (RepL.append p1 (RepL.append p2 (RepL.append p3 (RepL.append p4 (repL_nil.2 t4))))))
 exact key
structure OkPatch (x : VPatch) : Prop where
 o_place : Fit64 x.place
 o_old : x.old.length ≤ 9223372036854775807
theorem rd_Patch {w : World} {cs : List Value} (h : Rd w 113 cs) : ∃ x : VPatch, OkPatch x ∧ RepL (c0 w) (cPatch x) cs := by
 have h0 := rd_all Try.underlying113 [(3, 1), (24, 1)] (by kernel_rfl) (by kernel_rfl) (by kernel_rfl) h
 simp only [RdAll] at h0
 obtain ⟨a0, b0, e0, _, r0, t0⟩ := h0
 obtain ⟨a1, b1, e1, _, r1, t1⟩ := t0
 obtain ⟨x0, k0, p0⟩ := rd_int64 r0
 obtain ⟨x1, k1, p1⟩ := rd_bytes r1
 refine ⟨⟨x0, x1⟩, ⟨k0, k1⟩, ?_⟩
 subst e0 e1
 have key := (RepL.append p0 (RepL.append p1 (repL_nil.2 t1)))
 exact key
theorem rd_Patchs {w : World} {cs : List Value} (h : Rd w 25 cs) : ∃ l : List VPatch, ((∀ x ∈ l, OkPatch x) ∧ l.length ≤ 9223372036854775807) ∧ RepL (c0 w) [sq cPatch l] cs := by
 obtain ⟨l, h1, h2, h3⟩ := rd_slice_rep cPatch OkPatch 2 Try.underlying25 (by kernel_rfl) (by omega) (fun es h => rd_Patch h) h
 exact ⟨l, ⟨h1, by unfold maxLen at h2; omega⟩, h3⟩
structure OkMem (x : VMem) : Prop where
 o_b : x.b.length ≤ 9223372036854775807
 o_old : (∀ a ∈ x.old, OkPatch a) ∧ x.old.length ≤ 9223372036854775807
theorem rd_Mem {w : World} {cs : List Value} (h : Rd w 27 cs) : ∃ x : VMem, OkMem x ∧ RepL (c0 w) (cMem x) cs := by
 have h0 := rd_all Try.underlying27 [(24, 1), (25, 1)] (by kernel_rfl) (by kernel_rfl) (by kernel_rfl) h
 simp only [RdAll] at h0
 obtain ⟨a0, b0, e0, _, r0, t0⟩ := h0
 obtain ⟨a1, b1, e1, _, r1, t1⟩ := t0
 obtain ⟨x0, k0, p0⟩ := rd_bytes r0
 obtain ⟨x1, k1, p1⟩ := rd_Patchs r1
 refine ⟨⟨x0, x1⟩, ⟨k0, k1⟩, ?_⟩
 subst e0 e1
 have key := (RepL.append p0 (RepL.append p1 (repL_nil.2 t1)))
 exact key
structure OkPic (x : VPic) : Prop where
 o_b : x.b.length ≤ 9223372036854775807
 o_on : True
theorem rd_Pic {w : World} {cs : List Value} (h : Rd w 32 cs) : ∃ x : VPic, OkPic x ∧ RepL (c0 w) (cPic x) cs := by
 have h0 := rd_all Try.underlying32 [(24, 1), (4, 1)] (by kernel_rfl) (by kernel_rfl) (by kernel_rfl) h
 simp only [RdAll] at h0
 obtain ⟨a0, b0, e0, _, r0, t0⟩ := h0
 obtain ⟨a1, b1, e1, _, r1, t1⟩ := t0
 obtain ⟨x0, k0, p0⟩ := rd_bytes r0
 obtain ⟨x1, k1, p1⟩ := rd_boo r1
 refine ⟨⟨x0, x1⟩, ⟨k0, k1⟩, ?_⟩
 subst e0 e1
 have key := (RepL.append p0 (RepL.append p1 (repL_nil.2 t1)))
 exact key
structure OkWord (x : VWord) : Prop where
 o_name : x.name.length ≤ 9223372036854775807
 o_xt : Fit64 x.xt
 o_flags : Fit64 x.flags
theorem rd_Word {w : World} {cs : List Value} (h : Rd w 111 cs) : ∃ x : VWord, OkWord x ∧ RepL (c0 w) (cWord x) cs := by
 have h0 := rd_all Try.underlying111 [(9, 1), (3, 1), (3, 1)] (by kernel_rfl) (by kernel_rfl) (by kernel_rfl) h
 simp only [RdAll] at h0
 obtain ⟨a0, b0, e0, _, r0, t0⟩ := h0
 obtain ⟨a1, b1, e1, _, r1, t1⟩ := t0
 obtain ⟨a2, b2, e2, _, r2, t2⟩ := t1
 obtain ⟨x0, k0, p0⟩ := rd_str r0
 obtain ⟨x1, k1, p1⟩ := rd_int64 r1
 obtain ⟨x2, k2, p2⟩ := rd_int64 r2
 refine ⟨⟨x0, x1, x2⟩, ⟨k0, k1, k2⟩, ?_⟩
 subst e0 e1 e2
 have key := (RepL.append p0 (RepL.append p1 (RepL.append p2 (repL_nil.2 t2))))
 exact key
theorem rd_Words {w : World} {cs : List Value} (h : Rd w 30 cs) : ∃ l : List VWord, ((∀ x ∈ l, OkWord x) ∧ l.length ≤ 9223372036854775807) ∧ RepL (c0 w) [sq cWord l] cs := by
 obtain ⟨l, h1, h2, h3⟩ := rd_slice_rep cWord OkWord 3 Try.underlying30 (by kernel_rfl) (by omega) (fun es h => rd_Word h) h
 exact ⟨l, ⟨h1, by unfold maxLen at h2; omega⟩, h3⟩
structure OkFrame (x : VFrame) : Prop where
 o_d : Fit64 x.d
 o_r : Fit64 x.r
 o_ip : Fit64 x.ip
theorem rd_Frame {w : World} {cs : List Value} (h : Rd w 87 cs) : ∃ x : VFrame, OkFrame x ∧ RepL (c0 w) (cFrame x) cs := by
 have h0 := rd_all Try.underlying87 [(3, 1), (3, 1), (3, 1)] (by kernel_rfl) (by kernel_rfl) (by kernel_rfl) h
 simp only [RdAll] at h0
 obtain ⟨a0, b0, e0, _, r0, t0⟩ := h0
 obtain ⟨a1, b1, e1, _, r1, t1⟩ := t0
 obtain ⟨a2, b2, e2, _, r2, t2⟩ := t1
 obtain ⟨x0, k0, p0⟩ := rd_int64 r0
 obtain ⟨x1, k1, p1⟩ := rd_int64 r1
 obtain ⟨x2, k2, p2⟩ := rd_int64 r2
 refine ⟨⟨x0, x1, x2⟩, ⟨k0, k1, k2⟩, ?_⟩
 subst e0 e1 e2
 have key := (RepL.append p0 (RepL.append p1 (RepL.append p2 (repL_nil.2 t2))))
 exact key
theorem rd_Frames {w : World} {cs : List Value} (h : Rd w 29 cs) : ∃ l : List VFrame, ((∀ x ∈ l, OkFrame x) ∧ l.length ≤ 9223372036854775807) ∧ RepL (c0 w) [sq cFrame l] cs := by
 obtain ⟨l, h1, h2, h3⟩ := rd_slice_rep cFrame OkFrame 3 Try.underlying29 (by kernel_rfl) (by omega) (fun es h => rd_Frame h) h
 exact ⟨l, ⟨h1, by unfold maxLen at h2; omega⟩, h3⟩
structure OkReq (x : VReq) : Prop where
 o_kind : Fit64 x.kind
 o_arg : Fit64 x.arg
 o_hand : Fit64 x.hand
 o_rank : Fit64 x.rank
 o_delay : Fit64 x.delay
 o_id : Fit64 x.id
theorem rd_Req {w : World} {cs : List Value} (h : Rd w 171 cs) : ∃ x : VReq, OkReq x ∧ RepL (c0 w) (cReq x) cs := by
 have h0 := rd_all Try.underlying171 [(3, 1), (3, 1), (3, 1), (3, 1), (3, 1), (3, 1)] (by kernel_rfl) (by kernel_rfl) (by kernel_rfl) h
 simp only [RdAll] at h0
 obtain ⟨a0, b0, e0, _, r0, t0⟩ := h0
 obtain ⟨a1, b1, e1, _, r1, t1⟩ := t0
 obtain ⟨a2, b2, e2, _, r2, t2⟩ := t1
 obtain ⟨a3, b3, e3, _, r3, t3⟩ := t2
 obtain ⟨a4, b4, e4, _, r4, t4⟩ := t3
 obtain ⟨a5, b5, e5, _, r5, t5⟩ := t4
 obtain ⟨x0, k0, p0⟩ := rd_int64 r0
 obtain ⟨x1, k1, p1⟩ := rd_int64 r1
 obtain ⟨x2, k2, p2⟩ := rd_int64 r2
 obtain ⟨x3, k3, p3⟩ := rd_int64 r3
 obtain ⟨x4, k4, p4⟩ := rd_int64 r4
 obtain ⟨x5, k5, p5⟩ := rd_int64 r5
 refine ⟨⟨x0, x1, x2, x3, x4, x5⟩, ⟨k0, k1, k2, k3, k4, k5⟩, ?_⟩
 subst e0 e1 e2 e3 e4 e5
 have key := (RepL.append p0 (RepL.append p1 (RepL.append p2 (RepL.append p3 (RepL.append p4 (RepL.append p5 (repL_nil.2 t5)))))))
 exact key
theorem rd_Reqs {w : World} {cs : List Value} (h : Rd w 33 cs) : ∃ l : List VReq, ((∀ x ∈ l, OkReq x) ∧ l.length ≤ 9223372036854775807) ∧ RepL (c0 w) [sq cReq l] cs := by
 obtain ⟨l, h1, h2, h3⟩ := rd_slice_rep cReq OkReq 6 Try.underlying33 (by kernel_rfl) (by omega) (fun es h => rd_Req h) h
 exact ⟨l, ⟨h1, by unfold maxLen at h2; omega⟩, h3⟩
structure OkHand (x : VHand) : Prop where
 o_xt : Fit64 x.xt
 o_fuel : Fit64 x.fuel
 o_strikes : Fit64 x.strikes
 o_out : True
theorem rd_Hand {w : World} {cs : List Value} (h : Rd w 89 cs) : ∃ x : VHand, OkHand x ∧ RepL (c0 w) (cHand x) cs := by
 have h0 := rd_all Try.underlying89 [(3, 1), (3, 1), (3, 1), (4, 1)] (by kernel_rfl) (by kernel_rfl) (by kernel_rfl) h
 simp only [RdAll] at h0
 obtain ⟨a0, b0, e0, _, r0, t0⟩ := h0
 obtain ⟨a1, b1, e1, _, r1, t1⟩ := t0
 obtain ⟨a2, b2, e2, _, r2, t2⟩ := t1
 obtain ⟨a3, b3, e3, _, r3, t3⟩ := t2
 obtain ⟨x0, k0, p0⟩ := rd_int64 r0
 obtain ⟨x1, k1, p1⟩ := rd_int64 r1
 obtain ⟨x2, k2, p2⟩ := rd_int64 r2
 obtain ⟨x3, k3, p3⟩ := rd_boo r3
 refine ⟨⟨x0, x1, x2, x3⟩, ⟨k0, k1, k2, k3⟩, ?_⟩
 subst e0 e1 e2 e3
 have key := (RepL.append p0 (RepL.append p1 (RepL.append p2 (RepL.append p3 (repL_nil.2 t3)))))
 exact key
theorem rd_Hands {w : World} {cs : List Value} (h : Rd w 34 cs) : ∃ l : List VHand, ((∀ x ∈ l, OkHand x) ∧ l.length ≤ 9223372036854775807) ∧ RepL (c0 w) [sq cHand l] cs := by
 obtain ⟨l, h1, h2, h3⟩ := rd_slice_rep cHand OkHand 4 Try.underlying34 (by kernel_rfl) (by omega) (fun es h => rd_Hand h) h
 exact ⟨l, ⟨h1, by unfold maxLen at h2; omega⟩, h3⟩
structure OkVm (x : VVm) : Prop where
 o_conf : OkConf x.conf
 o_mem : OkMem x.mem
 o_here : Fit64 x.here
 o_d : (∀ a ∈ x.d, Fit64 a) ∧ x.d.length ≤ 9223372036854775807
 o_r : (∀ a ∈ x.r, Fit64 a) ∧ x.r.length ≤ 9223372036854775807
 o_f : (∀ a ∈ x.f, OkFrame a) ∧ x.f.length ≤ 9223372036854775807
 o_dict : (∀ a ∈ x.dict, OkWord a) ∧ x.dict.length ≤ 9223372036854775807
 o_last : Fit64 x.last
 o_out : x.out.length ≤ 9223372036854775807
 o_pic : OkPic x.pic
 o_req : (∀ a ∈ x.req, OkReq a) ∧ x.req.length ≤ 9223372036854775807
 o_free : Fit64 x.free
 o_next : Fit64 x.next
 o_arg : Fit64 x.arg
 o_self : Fit64 x.self
 o_now : Fit64 x.now
 o_hand : (∀ a ∈ x.hand, OkHand a) ∧ x.hand.length ≤ 9223372036854775807
theorem rd_Vm {w : World} {cs : List Value} (h : Rd w 36 cs) : ∃ x : VVm, OkVm x ∧ RepL (c0 w) (cVm x) cs := by
 have h0 := rd_all Try.underlying36 [(23, 5), (27, 2), (3, 1), (28, 1), (28, 1), (29, 1), (30, 1), (3, 1), (24, 1), (32, 2), (33, 1), (3, 1), (3, 1), (3, 1), (3, 1), (3, 1), (34, 1)] (by kernel_rfl) (by kernel_rfl) (by kernel_rfl) h
 simp only [RdAll] at h0
 obtain ⟨a0, b0, e0, _, r0, t0⟩ := h0
 obtain ⟨a1, b1, e1, _, r1, t1⟩ := t0
 obtain ⟨a2, b2, e2, _, r2, t2⟩ := t1
 obtain ⟨a3, b3, e3, _, r3, t3⟩ := t2
 obtain ⟨a4, b4, e4, _, r4, t4⟩ := t3
 obtain ⟨a5, b5, e5, _, r5, t5⟩ := t4
 obtain ⟨a6, b6, e6, _, r6, t6⟩ := t5
 obtain ⟨a7, b7, e7, _, r7, t7⟩ := t6
 obtain ⟨a8, b8, e8, _, r8, t8⟩ := t7
 obtain ⟨a9, b9, e9, _, r9, t9⟩ := t8
 obtain ⟨a10, b10, e10, _, r10, t10⟩ := t9
 obtain ⟨a11, b11, e11, _, r11, t11⟩ := t10
 obtain ⟨a12, b12, e12, _, r12, t12⟩ := t11
 obtain ⟨a13, b13, e13, _, r13, t13⟩ := t12
 obtain ⟨a14, b14, e14, _, r14, t14⟩ := t13
 obtain ⟨a15, b15, e15, _, r15, t15⟩ := t14
 obtain ⟨a16, b16, e16, _, r16, t16⟩ := t15
 obtain ⟨x0, k0, p0⟩ := rd_Conf r0
 obtain ⟨x1, k1, p1⟩ := rd_Mem r1
 obtain ⟨x2, k2, p2⟩ := rd_int64 r2
 obtain ⟨x3, k3, p3⟩ := rd_intl r3
 obtain ⟨x4, k4, p4⟩ := rd_intl r4
 obtain ⟨x5, k5, p5⟩ := rd_Frames r5
 obtain ⟨x6, k6, p6⟩ := rd_Words r6
 obtain ⟨x7, k7, p7⟩ := rd_int64 r7
 obtain ⟨x8, k8, p8⟩ := rd_bytes r8
 obtain ⟨x9, k9, p9⟩ := rd_Pic r9
 obtain ⟨x10, k10, p10⟩ := rd_Reqs r10
 obtain ⟨x11, k11, p11⟩ := rd_int64 r11
 obtain ⟨x12, k12, p12⟩ := rd_int64 r12
 obtain ⟨x13, k13, p13⟩ := rd_int64 r13
 obtain ⟨x14, k14, p14⟩ := rd_int64 r14
 obtain ⟨x15, k15, p15⟩ := rd_int64 r15
 obtain ⟨x16, k16, p16⟩ := rd_Hands r16
 refine ⟨⟨x0, x1, x2, x3, x4, x5, x6, x7, x8, x9, x10, x11, x12, x13, x14, x15, x16⟩, ⟨k0, k1, k2, k3, k4, k5, k6, k7, k8, k9, k10, k11, k12, k13, k14, k15, k16⟩, ?_⟩
 subst e0 e1 e2 e3 e4 e5 e6 e7 e8 e9 e10 e11 e12 e13 e14 e15 e16
 have key := (RepL.append p0 (RepL.append p1 (RepL.append p2 (RepL.append p3 (RepL.append p4 (RepL.append p5 (RepL.append p6 (RepL.append p7 (RepL.append p8 (RepL.append p9 (RepL.append p10 (RepL.append p11 (RepL.append p12 (RepL.append p13 (RepL.append p14 (RepL.append p15 (RepL.append p16 (repL_nil.2 t16))))))))))))))))))
 exact key
theorem okVm_in {v : VVm} (h : OkVm v) : VIn2 v :=
 { b := h.o_mem.o_b, old := h.o_mem.o_old.2, dict := h.o_dict.2, pt := fun p hp => ⟨.inr (h.o_mem.o_old.1 p hp).o_place, (h.o_mem.o_old.1 p hp).o_old⟩, f := h.o_f.2, hand := h.o_hand.2 }
end Go.Proofs.Ytlponhgbbfgkgaa
namespace Go.Proofs.Ytlponhgbbfgkgaa
open Go.RowKit
open Go.WideShapes
set_option maxRecDepth 100000
set_option maxHeartbeats 8000000
theorem vrd_of {v : VVm} (h : OkVm v) (m : may10 v = true) : VRd v := by
 unfold may10 at m
 rw [Bool.and_eq_true] at m
 have hr := m.2
 unfold right10 rightA rightC at hr
 simp only [Bool.and_eq_true] at hr
 have hd : right9 v.dict = true := by simp_all
 have hm : memRight v.mem = true := by simp_all
 unfold right9 at hd
 rw [Bool.and_eq_true, List.all_eq_true, decide_eq_true_eq] at hd
 unfold memRight at hm
 simp only [Bool.and_eq_true, decide_eq_true_eq] at hm
 refine ⟨⟨by omega, fun w hw => ?_⟩, fun w hw => (h.o_dict.1 w hw).o_xt, by omega⟩
 have q := hd.1 w hw
 unfold wordOk at q
 rw [decide_eq_true_eq] at q
 exact ⟨(h.o_dict.1 w hw).o_name, q.2.1, q.2.2⟩
def OkStrs (l : List Str) : Prop := (∀ s ∈ l, s.length ≤ 9223372036854775807) ∧ l.length ≤ 9223372036854775807
theorem rd_strs {w : World} {cs : List Value} (h : Rd w 37 cs) : ∃ l : List Str, OkStrs l ∧ RepL (c0 w) [sq cStr l] cs := by
 obtain ⟨l, h1, h2, h3⟩ := rd_slice_rep cStr (fun s => s.length ≤ 9223372036854775807) 1 Try.underlying37 (by kernel_rfl) (by omega) (fun es h => rd_str h) h
 exact ⟨l, ⟨h1, by unfold maxLen at h2; omega⟩, h3⟩
def fewW (l : List Str) (most : Int) : Bool := decide ((l.length : Int) ≤ most) && l.all (fun s => decide (s.length ≤ 40))
theorem law_few (l : List Str) (most : Int) (hl : l.length ≤ 9223372036854775807) : PureC Try.prog 7 [sq cStr l, i64 most] (boo (fewW l most)) := by
 refine pW tG (rs := [.tmp 4]) Try.func7 rfl rfl rfl (by simp) (by simp) (fun B => ?_)
 refine zu1 ?_
 refine Ws ?_
 refine zu4 ?_
 refine Wi rfl (fun hi1 => ?_) (fun hi1 => ?_)
 ·have hno : ¬ (l.length : Int) ≤ most := by have := oT hi1; omega
  refine zu1 ?_
  refine zR ?_
  exact congrArg boo (by rw [fewW, decide_eq_false hno]; rfl)
 ·have hyes : (l.length : Int) ≤ most := by have := oF hi1; omega
  refine Wj ?_
  refine Ws ?_
  refine zu1 ?_
  refine Wl ?_
  show W _ _ _ _ _ _ _
  refine W_loopS (fun (k : Nat) => [(0, sq cStr l), (5, i64 k)]) (fun (k : Nat) => []) (fun (k : Nat) => []) (fun (k : Nat) => k ≤ l.length ∧ (l.take k).all (fun s => decide (s.length ≤ 40)) = true) (fun (k : Nat) => l.length - k) (0) (by exact ⟨Nat.zero_le _, rfl⟩) [] ?_ ?_
  ·exact fitT
  ·intro k hk
   refine Ws ?_
   refine zu4 ?_
   refine Wi rfl (fun hi2 => ?_) (fun hi2 => ?_)
   ·have hlt : k < l.length := by have := oT hi2; omega
    refine Wj ?_
    refine Ws ?_
    refine Wl ?_
    refine zp2 ?_
    refine Wv tG rfl rfl rfl (by omega) (iN cStr 1 (fun _ => rfl) [] (by omega)) ?_
    refine zy2 ?_
    refine Wa 20 rfl (str_len _) ?_
    refine zs1 ?_
    refine Wi rfl (fun hi3 => ?_) (fun hi3 => ?_)
    ·have hn : l.all (fun s => decide (s.length ≤ 40)) = false := all_no [] hlt (decide_eq_false (by have := oT hi3; omega))
     refine zu1 ?_
     refine zR ?_
     rw [fewW, decide_eq_true hyes, hn]; rfl
    ·have hy : decide ((l.getD k []).length ≤ 40) = true := decide_eq_true (by have := oF hi3; omega)
     refine Wj ?_
     refine W_region rfl ?_
     refine zs3 ?_
     exact ⟨k + 1, [], (by exact ⟨by omega, all_snoc [] hlt hk.2 hy⟩), (by omega), fitT⟩
   ·have hge : l.length ≤ k := by have := oF hi2; omega
    have hall : l.all (fun s => decide (s.length ≤ 40)) = true := by have h1 := hk.2; rw [take_all' _ k hge] at h1; exact h1
    refine W_exit ?_
    refine zu1 ?_
    refine zR ?_
    rw [fewW, decide_eq_true hyes, hall]; rfl
end Go.Proofs.Ytlponhgbbfgkgaa
namespace Go.Proofs.Ytlponhgbbfgkgaa
open Go.RowKit
open Go.WideShapes
open Go.ChangeShapes Go.ChangeAt
set_option maxRecDepth 100000
set_option maxHeartbeats 8000000
def upW (a d : Int) : Int := if a > d then a else d
mutual
def deepX : VNode → Int → Int × Int
 | .mk _ _ a b, m => (IntKind.i64.wrap (1 + if m < 1 then 0 else deepG a m 0), IntKind.i64.wrap (1 + if m < 1 then 0 else deepG b m 0))
def deepG : List VNode → Int → Int → Int
 | [], _, d => d
 | x :: l, m, d => deepG l m (upW (deepX x (IntKind.i64.wrap (m - 1))).2 (upW (deepX x (IntKind.i64.wrap (m - 1))).1 d))
end
def deepS (l : List VNode) (m : Int) : Int := if m < 1 then 0 else deepG l m 0
theorem deepX_eq (x : VNode) (m : Int) : deepX x m = (IntKind.i64.wrap (1 + deepS x.a m), IntKind.i64.wrap (1 + deepS x.b m)) := by cases x; rw [deepX]; rfl
mutual
def manyX : VNode → Int → Int × Int
 | .mk _ _ a b, m => (manyG a m a.length, manyG b m b.length)
def manyG : List VNode → Int → Int → Int
 | [], _, n => n
 | x :: l, m, n => if n < m then manyG l m (IntKind.i64.wrap (IntKind.i64.wrap (n + (manyX x m).1) + (manyX x m).2)) else n
end
def manyS (l : List VNode) (m : Int) : Int := manyG l m l.length
theorem manyX_eq (x : VNode) (m : Int) : manyX x m = (manyS x.a m, manyS x.b m) := by cases x; rw [manyX]; rfl
theorem drop_get {l : List VNode} {k : Nat} (h : k < l.length) : l.drop k = l.getD k default :: l.drop (k + 1) := by
 rw [List.drop_eq_getElem_cons h, List.getD_eq_getElem?_getD, List.getElem?_eq_getElem h]; rfl
theorem deepS0 {l : List VNode} {m : Int} (h : m < 1) : deepS l m = 0 := by unfold deepS; rw [if_pos h]
theorem deepS1 {l : List VNode} {m : Int} (h : ¬ m < 1) : deepS l m = deepG l m 0 := by unfold deepS; rw [if_neg h]
theorem up_y {a d : Int} (h : decide (a > d) = true) : upW a d = a := by unfold upW; rw [if_pos (oT h)]
theorem up_n {a d : Int} (h : decide (a > d) = false) : upW a d = d := by unfold upW; rw [if_neg (oF h)]
theorem deep_c : ∀ (n : Nat) (l : List VNode) (m : Int), szL l < n → okL l → PureC Try.prog 18 [sq cNode l, i64 m] (i64 (deepS l m)) := by
 intro n
 induction n with
 | zero => intro l m h; omega
 | succ n ih =>
  intro l m hn hok
  have hl := ok_len hok
  refine pW tG (rs := [.tmp 4]) Try.func18 rfl rfl rfl (by simp) (by simp) (fun B => ?_)
  refine zu1 ?_
  refine Ws ?_
  refine zu2 ?_
  refine Wi rfl (fun hi1 => ?_) (fun hi1 => ?_)
  ·have q : m < 1 := oT hi1
   refine zu1 ?_
   refine zR ?_
   exact congrArg i64 (deepS0 q).symm
  ·have q : ¬ m < 1 := oF hi1
   refine Wj ?_
   refine zu1 ?_
   refine Ws ?_
   refine zu1 ?_
   refine Wl ?_
   show W _ _ _ _ _ _ _
   refine W_loopS (fun (x : (Nat × Int)) => [(0, sq cNode l), (1, i64 m), (5, i64 x.2), (6, i64 (x.1 : Int))]) (fun (x : (Nat × Int)) => []) (fun (x : (Nat × Int)) => []) (fun (x : (Nat × Int)) => x.1 ≤ l.length ∧ deepG (l.drop x.1) m x.2 = deepG l m 0) (fun (x : (Nat × Int)) => l.length - x.1) ((0, 0)) (by exact ⟨Nat.zero_le _, rfl⟩) [] ?_ ?_
   ·exact fitT
   ·intro x hx
    refine Ws ?_
    refine zu4 ?_
    refine Wi rfl (fun hi2 => ?_) (fun hi2 => ?_)
    ·have hlt : x.1 < l.length := by have := oT hi2; omega
     have hz := node_sz hlt
     have hq := ok_get hok hlt
     have hg := hx.2
     rw [drop_get hlt, deepG, deepX_eq] at hg
     dsimp only at hg
     refine Wj ?_
     refine Ws ?_
     refine Wl ?_
     refine zp2 ?_
     refine Wv tG rfl rfl rfl (by omega) (iN cNode 4 (fun _ => rfl) default (by omega)) ?_
     refine zy2 ?_
     refine Wa 21 rfl (sqN_eq (l.getD x.1 default).a) ?_
     refine zy2 ?_
     refine zc rfl Try.func18 ((ih _ _ (by omega) hq.1) _) ?_
     refine zs2 ?_
     refine zp2 ?_
     refine Wv tG rfl rfl rfl (by omega) (iN cNode 4 (fun _ => rfl) default (by omega)) ?_
     refine zy2 ?_
     refine Wa 30 rfl (sqN_eq (l.getD x.1 default).b) ?_
     refine zy2 ?_
     refine zc rfl Try.func18 ((ih _ _ (by omega) hq.2) _) ?_
     refine zs2 ?_
     refine Ws ?_
     refine zu3 ?_
     refine Wi rfl (fun hi3 => ?_) (fun hi3 => ?_)
     ·rw [up_y hi3] at hg
      refine W_region rfl ?_
      refine zs2 ?_
      refine zu3 ?_
      refine Wi rfl (fun hi4 => ?_) (fun hi4 => ?_)
      ·rw [up_y hi4] at hg
       refine W_region rfl ?_
       refine zs2 ?_
       refine W_region rfl ?_
       refine zs3 ?_
       exact ⟨(x.1 + 1, _), [], (by exact ⟨hlt, hg⟩), (by omega), fitT⟩
      ·rw [up_n hi4] at hg
       refine Wj ?_
       refine W_region rfl ?_
       refine zs3 ?_
       exact ⟨(x.1 + 1, _), [], (by exact ⟨hlt, hg⟩), (by omega), fitT⟩
     ·rw [up_n hi3] at hg
      refine Wj ?_
      refine zu3 ?_
      refine Wi rfl (fun hi4 => ?_) (fun hi4 => ?_)
      ·rw [up_y hi4] at hg
       refine W_region rfl ?_
       refine zs2 ?_
       refine W_region rfl ?_
       refine zs3 ?_
       exact ⟨(x.1 + 1, _), [], (by exact ⟨hlt, hg⟩), (by omega), fitT⟩
      ·rw [up_n hi4] at hg
       refine Wj ?_
       refine W_region rfl ?_
       refine zs3 ?_
       exact ⟨(x.1 + 1, _), [], (by exact ⟨hlt, hg⟩), (by omega), fitT⟩
    ·have hge : l.length ≤ x.1 := by have := oF hi2; omega
     refine W_exit ?_
     refine zu2 ?_
     refine zR ?_
     exact congrArg i64 (by rw [deepS1 q, ← hx.2, List.drop_of_length_le hge, deepG])
theorem many_c : ∀ (n : Nat) (l : List VNode) (m : Int), szL l < n → okL l → PureC Try.prog 19 [sq cNode l, i64 m] (i64 (manyS l m)) := by
 intro n
 induction n with
 | zero => intro l m h; omega
 | succ n ih =>
  intro l m hn hok
  have hl := ok_len hok
  refine pW tG (rs := [.tmp 4]) Try.func19 rfl rfl rfl (by simp) (by simp) (fun B => ?_)
  refine zu1 ?_
  refine zu3 ?_
  refine Ws ?_
  refine zu1 ?_
  refine Wl ?_
  show W _ _ _ _ _ _ _
  refine W_loopS (fun (x : (Nat × Int)) => [(0, sq cNode l), (1, i64 m), (5, i64 x.2), (6, i64 (x.1 : Int))]) (fun (x : (Nat × Int)) => []) (fun (x : (Nat × Int)) => []) (fun (x : (Nat × Int)) => x.1 ≤ l.length ∧ manyG (l.drop x.1) m x.2 = manyS l m) (fun (x : (Nat × Int)) => l.length - x.1) ((0, (l.length : Int))) (by exact ⟨Nat.zero_le _, rfl⟩) [] ?_ ?_
  ·exact fitT
  ·intro x hx
   refine Ws ?_
   refine zp5 ?_
   refine Wb 13 rfl (fun hg1 => ?_) (fun hg1 => ?_)
   ·have hlt : x.1 < l.length := by have := oT hg1; omega
    have hz := node_sz hlt
    have hq := ok_get hok hlt
    have hg := hx.2
    rw [drop_get hlt, manyG, manyX_eq] at hg
    dsimp only at hg
    refine zs4 ?_
    refine Wi rfl (fun hi1 => ?_) (fun hi1 => ?_)
    ·rw [if_pos (oT hi1)] at hg
     refine Wj ?_
     refine Ws ?_
     refine Wl ?_
     refine W_drawU [0, 0, 0, 0, 0, 1, 0, 0, 0, 0, 0, 0, 0, 1, 0, 0, 0, 0] [0, 1, 2, 3, 4, 5, 6, 7, 8, 9, 10, 11, 12, 13, 14, 15, 16, 17] mG rfl (by kernel_rfl) ?_
     iterate 3 refine z3 ?_
     refine Xi tG rfl rfl rfl rfl (fun _ => rfl) (by omega) (iN cNode 4 (fun _ => rfl) default (by omega)) ?_
     refine z3 ?_
     refine z5 ?_
     refine Xa 25 rfl (sqN_eq (l.getD x.1 default).a) ?_
     refine z3 ?_
     refine Xc rfl rfl rfl rfl (fun _ => dC rfl Try.func19 rfl rfl ((ih _ _ (by omega) hq.1) _)) ?_
     iterate 3 refine z3 ?_
     refine Xi tG rfl rfl rfl rfl (fun _ => rfl) (by omega) (iN cNode 4 (fun _ => rfl) default (by omega)) ?_
     refine z3 ?_
     refine z5 ?_
     refine Xa 33 rfl (sqN_eq (l.getD x.1 default).b) ?_
     refine z3 ?_
     refine Xc rfl rfl rfl rfl (fun _ => dC rfl Try.func19 rfl rfl ((ih _ _ (by omega) hq.2) _)) ?_
     iterate 2 refine z3 ?_
     refine WU_nil ?_
     refine W_region rfl ?_
     refine zs3 ?_
     exact ⟨(x.1 + 1, _), [], (by exact ⟨hlt, hg⟩), (by omega), fitT⟩
    ·rw [if_neg (oF hi1)] at hg
     refine W_exit ?_
     refine zu2 ?_
     refine zR ?_
     exact congrArg i64 hg
   ·have hge : l.length ≤ x.1 := by have := oF hg1; omega
    have hE : x.2 = manyS l m := by rw [← hx.2, List.drop_of_length_le hge, manyG]
    iterate 3 refine z6 ?_
    refine zs1 ?_
    refine Wf rfl rfl ?_
    refine W_exit ?_
    refine zu2 ?_
    refine zR ?_
    exact congrArg i64 hE
def fewB (l : List VNode) : Bool := decide (deepS l 40 < 40) && decide (manyS l 300 < 300)
theorem ref_Few16 (l : List VNode) (h : okL l) : PureC Try.prog 8 [sq cNode l] (boo (fewB l)) := by
 refine pW tG (rs := [.tmp 2]) Try.func8 rfl rfl rfl (by simp) (by simp) (fun B => ?_)
 refine zu1 ?_
 refine zp1 ?_
 refine zc rfl Try.func18 ((deep_c _ l 40 (Nat.lt_succ_self _) h) _) ?_
 refine zs1 ?_
 refine zp3 ?_
 refine Wb 8 rfl (fun hg1 => ?_) (fun hg1 => ?_)
 ·refine z1 ?_
  refine zc rfl Try.func19 ((many_c _ l 300 (Nat.lt_succ_self _) h) _) ?_
  refine zs3 ?_
  refine zR ?_
  exact congrArg boo (by unfold fewB; rw [hg1]; rfl)
 ·refine z6 ?_
  iterate 2 refine z6 ?_
  refine zs2 ?_
  refine zR ?_
  exact congrArg boo (by unfold fewB; rw [hg1]; rfl)
theorem rd_nodesF {w : World} {E : Type} (enc : TypeId × Value → E) : ∀ (fuel : Nat) (cs : List Value) (x : DataW E × List MemPlace), DataW.trod enc Try.prog w 0 (fun _ => true) true fuel 38 cs = some x → ∃ l : List VNode, okL l ∧ RepL (c0 w) [sq cNode l] cs := by
 intro fuel
 induction fuel using Nat.strongRecOn with
 | _ fuel ih =>
  intro cs x hx
  obtain ⟨l, h1, h2, h3⟩ := rd_slice_repQ (w := w) (cs := cs) cNode okN 4 (by omega) (fun es => ∃ n y, n < fuel ∧ DataW.trod enc Try.prog w 0 (fun _ => true) true n 62 es = some y) (fun es ⟨n, y, hn, hy⟩ => by
   obtain ⟨xs, n1, rfl, _, hl, hlen, hfs⟩ := DataW.trod_struct Try.underlying62 hy
   rw [show Try.prog.cellsOf 62 = 4 by kernel_rfl] at hl
   obtain ⟨q0, q1, q2, q3, rfl⟩ := four_list hl
   obtain ⟨y0, y1, y2, y3, rfl⟩ := four_list (show xs.length = 4 from hlen)
   have k1 : Try.prog.cellsOf 38 = 1 := by kernel_rfl
   have f0 : DataW.trod enc Try.prog w 0 (fun _ => true) true n1 3 [q0] = some y0 := by have q := hfs 0 _ rfl; simpa [cellsOf_int] using q
   have f1 : DataW.trod enc Try.prog w 0 (fun _ => true) true n1 3 [q1] = some y1 := by have q := hfs 1 _ rfl; simpa [cellsOf_int] using q
   have f2 : DataW.trod enc Try.prog w 0 (fun _ => true) true n1 38 [q2] = some y2 := by have q := hfs 2 _ rfl; simpa [k1] using q
   have f3 : DataW.trod enc Try.prog w 0 (fun _ => true) true n1 38 [q3] = some y3 := by have q := hfs 3 _ rfl; simpa [k1] using q
   obtain ⟨i0, e0, _, _⟩ := DataW.trod_int Try.underlying3 f0
   obtain ⟨i1, e1, _, _⟩ := DataW.trod_int Try.underlying3 f1
   obtain ⟨a, oa, ra⟩ := ih n1 (by omega) _ _ f2
   obtain ⟨b, ob, rb⟩ := ih n1 (by omega) _ _ f3
   cases e0
   cases e1
   refine ⟨.mk i0 i1 a b, by rw [okN]; exact ⟨oa, ob⟩, ?_⟩
   show RepL (c0 w) [i64 i0, i64 i1, sqN a, sqN b] _
   rw [sqN_eq, sqN_eq]
   exact repL_cons.2 ⟨rep_val _ _, repL_cons.2 ⟨rep_val _ _, repL_cons.2 ⟨(repL_cons.1 ra).1, rb⟩⟩⟩) (by
   rcases DataW.trod_slice Try.underlying38 hx with ⟨h0, _⟩ | ⟨a, len, cap, elems, rest, n, hn, hc, _, _, hl, hm, hlen, hel, hsp, _⟩
   ·exact .inl h0
   ·refine .inr ⟨a, len, cap, hc, hl, hm, fun i hi => ?_⟩
    rw [show Try.prog.cellsOf 62 = 4 by kernel_rfl] at hel hsp
    have key : ∀ (o : Option (List Value)) (k : Nat) (l : List (DataW E × List MemPlace)), k < l.length → o.bind (DataW.trod enc Try.prog w 0 (fun _ => true) true n 62) = l[k]? → ∃ es, o = some es ∧ ∃ n y, n < fuel ∧ DataW.trod enc Try.prog w 0 (fun _ => true) true n 62 es = some y := by
     intro o k l hk ho
     rw [List.getElem?_eq_getElem hk] at ho
     cases o with
     | none => cases ho
     | some es => exact ⟨es, rfl, n, _, by omega, ho⟩
    by_cases h1 : i < len
    ·exact key _ i elems (by omega) (hel i h1)
    ·obtain ⟨hr1, hr2⟩ := hsp rfl
     have := hr2 (i - len) (by omega)
     rw [show len + (i - len) = i from by omega] at this
     exact key _ (i - len) rest (by omega) this)
  exact ⟨l, ok_all h1 (by unfold maxLen at h2; omega), h3⟩
theorem rd_nodes {w : World} {cs : List Value} (h : Rd w 38 cs) : ∃ l : List VNode, okL l ∧ RepL (c0 w) [sq cNode l] cs := by
 obtain ⟨E, enc, fuel, x, hx⟩ := h
 exact rd_nodesF enc fuel cs x hx
structure VTellsIn where
 v : VVm
 ws : List Str
 a : List VNode
 b : List VNode
structure OkTellsIn (x : VTellsIn) : Prop where
 v : OkVm x.v
 ws : OkStrs x.ws
 a : okL x.a
 b : okL x.b
def cTellsIn (x : VTellsIn) : List PV := cVm x.v ++ ([sq cStr x.ws] ++ ([sq cNode x.a] ++ [sq cNode x.b]))
theorem rd_TellsIn {w : World} {cs : List Value} (h : Rd w 40 cs) : ∃ x : VTellsIn, OkTellsIn x ∧ RepL (c0 w) (cTellsIn x) cs := by
 have h0 := rd_all Try.underlying40 [(36, 23), (37, 1), (38, 1), (38, 1)] (by kernel_rfl) (by kernel_rfl) (by kernel_rfl) h
 simp only [RdAll] at h0
 obtain ⟨a0, b0, e0, _, r0, t0⟩ := h0
 obtain ⟨a1, b1, e1, _, r1, t1⟩ := t0
 obtain ⟨a2, b2, e2, _, r2, t2⟩ := t1
 obtain ⟨a3, b3, e3, _, r3, t3⟩ := t2
 obtain ⟨x0, k0, p0⟩ := rd_Vm r0
 obtain ⟨x1, k1, p1⟩ := rd_strs r1
 obtain ⟨x2, k2, p2⟩ := rd_nodes r2
 obtain ⟨x3, k3, p3⟩ := rd_nodes r3
 refine ⟨⟨x0, x1, x2, x3⟩, ⟨k0, k1, k2, k3⟩, ?_⟩
 subst e0 e1 e2 e3
 have key := RepL.append p0 (RepL.append p1 (RepL.append p2 (RepL.append p3 (repL_nil.2 t3))))
 rw [List.append_nil] at key
 exact key
@[simp] theorem flat_tellsIn (v : VVm) (a : List Str) (b c : List VNode) : Flat (.agg (cVm v ++ ([sq cStr a] ++ ([sq cNode b] ++ [sq cNode c])))) := by
 unfold Flat
 exact flatL_app (flat_cVm v) (flatL_app (by simp [FlatL]) (flatL_app (by simp [FlatL]) (by simp [FlatL])))
@[simp] theorem flat_tellsIn2 (v : VVm) (a : List Str) (b c : List VNode) : FlatL (cVm v ++ [sq cStr a, sq cNode b, sq cNode c]) := flatL_app (flat_cVm v) (by simp [FlatL])
theorem few_okN {l : List Str} {n : Nat} (h : fewW l n = true) : l.length ≤ n ∧ ∀ s ∈ l, s.length ≤ 40 := by
 unfold fewW at h
 rw [Bool.and_eq_true, decide_eq_true_eq, List.all_eq_true] at h
 exact ⟨by omega, fun s hs => oT (h.2 s hs)⟩
theorem law_AstTells (v : VVm) (ws : List Str) (a b : List VNode) (hv : OkVm v) (hw : OkStrs ws) (ha : okL a) (hb : okL b) : PureC Try.prog 3 [.agg (cVm v ++ ([sq cStr ws] ++ ([sq cNode a] ++ [sq cNode b])))] (boo true) := by
 obtain ⟨bm, hbm⟩ : ∃ z, may10 v = z := ⟨_, rfl⟩
 obtain ⟨bA, hbA⟩ : ∃ z, fewW ws 60 = z := ⟨_, rfl⟩
 have pm := ref_May10 v (okVm_in hv)
 have pA := law_few ws 60 hw.2
 have pB := ref_Few16 a ha
 have pC := ref_Few16 b hb
 obtain ⟨bB, hbB⟩ : ∃ z, fewB a = z := ⟨_, rfl⟩
 obtain ⟨bC, hbC⟩ : ∃ z, fewB b = z := ⟨_, rfl⟩
 rw [hbm] at pm
 rw [hbA] at pA
 rw [hbB] at pB
 rw [hbC] at pC
 refine pW tG (rs := [.tmp 2]) Try.func3 rfl rfl rfl (by simp) (by simp) (fun B => ?_)
 refine zu2 ?_
 refine zu4 ?_
 refine zu3 ?_
 refine zu3 ?_
 refine zu3 ?_
 refine z8 ?_
 refine zc rfl Try.func5 ((lawAst_shown) _) ?_
 refine zs1 ?_
 refine Ws ?_
 refine zp1 ?_
 refine zc rfl Try.func6 ((pm) _) ?_
 refine zy2 ?_
 refine Wb 24 rfl (fun hg1 => ?_) (fun hg1 => ?_)
 ·refine z6 ?_
  iterate 2 refine z6 ?_
  refine zy2 ?_
  iterate 3 refine z6 ?_
  refine zy2 ?_
  iterate 3 refine z6 ?_
  refine zs1 ?_
  refine Wt rfl rfl ?_
  refine zu2 ?_
  refine zR ?_
  rfl
 ·refine z1 ?_
  refine zc rfl Try.func7 ((pA) _) ?_
  refine zy3 ?_
  refine Wb 29 rfl (fun hg2 => ?_) (fun hg2 => ?_)
  ·refine z6 ?_
   iterate 2 refine z6 ?_
   refine zy2 ?_
   iterate 3 refine z6 ?_
   refine zs1 ?_
   refine Wt rfl rfl ?_
   refine zu2 ?_
   refine zR ?_
   rfl
  ·refine z1 ?_
   refine zc rfl Try.func8 ((pB) _) ?_
   refine zy3 ?_
   refine Wb 34 rfl (fun hg3 => ?_) (fun hg3 => ?_)
   ·refine z6 ?_
    iterate 2 refine z6 ?_
    refine zs1 ?_
    refine Wt rfl rfl ?_
    refine zu2 ?_
    refine zR ?_
    rfl
   ·refine z1 ?_
    refine zc rfl Try.func8 ((pC) _) ?_
    refine zs2 ?_
    refine Wi rfl (fun hi1 => ?_) (fun hi1 => ?_)
    ·refine zu2 ?_
     refine zR ?_
     rfl
    ·have hm : may10 v = true := by rw [hbm]; simpa using hg1
     have wA := few_okN (l := ws) (n := 60) (by rw [show ((60 : Nat) : Int) = 60 from rfl, hbA]; simpa using hg2)
     have hV := vrd_of hv hm
     obtain ⟨A, hA⟩ : ∃ z, parseP (readerS v) ws = z := ⟨_, rfl⟩
     have kA := parse_small v ws
     have hW : WsOk ws := ⟨by omega, fun s hs => by have := wA.2 s hs; omega⟩
     have p1 := ast_Parse v ws hV hW (by omega)
     have p2 := ref_Parse16 v ws hV hW
     rw [hA] at kA p1 p2
     refine Wj ?_
     refine zp2 ?_
     refine zc rfl Try.func9 ((p1) _) ?_
     refine zs5 ?_
     refine zp2 ?_
     refine zc rfl Try.func10 ((p2) _) ?_
     refine zs5 ?_
     refine zp2 ?_
     refine Wb 53 rfl (fun hg4 => ?_) (fun hg4 => ?_)
     ·refine zy2 ?_
      refine zc rfl Try.func11 ((ref_Same16 A.1 A.1 (okL_sz _ (by omega)) (okL_sz _ (by omega))) _) ?_
      refine zy2 ?_
      refine Wb 58 rfl (fun hg5 => ?_) (fun hg5 => ?_)
      ·refine zy5 ?_
       refine Wb 63 rfl (fun hg6 => ?_) (fun hg6 => ?_)
       ·refine z1 ?_
        refine zc rfl Try.func12 ((ast_May a ha) _) ?_
        refine z1 ?_
        refine zc rfl Try.func13 ((ref_May a ha) _) ?_
        refine zy3 ?_
        refine Wb 70 rfl (fun hg7 => ?_) (fun hg7 => ?_)
        ·refine zy2 ?_
         refine zc rfl Try.func14 ((ast_Same a b ha hb) _) ?_
         refine zy2 ?_
         refine zc rfl Try.func11 ((ref_Same16 a b ha hb) _) ?_
         refine zs3 ?_
         refine zR ?_
         exact congrArg boo (beq_self_eq_true _)
        ·refine z6 ?_
         iterate 6 refine z6 ?_
         refine zs2 ?_
         refine zR ?_
         exact absurd hg7 (by rw [beq_self_eq_true]; decide)
       ·refine z6 ?_
        iterate 4 refine z6 ?_
        refine zy2 ?_
        iterate 7 refine z6 ?_
        refine zs2 ?_
        refine zR ?_
        exact absurd hg6 (by rw [beq_self_eq_true]; decide)
      ·refine z6 ?_
       iterate 2 refine z6 ?_
       refine zy2 ?_
       iterate 5 refine z6 ?_
       refine zy2 ?_
       iterate 7 refine z6 ?_
       refine zs2 ?_
       refine zR ?_
       exact absurd hg5 (by rw [sameL_rfl]; decide)
     ·refine z6 ?_
      iterate 2 refine z6 ?_
      refine zy2 ?_
      iterate 3 refine z6 ?_
      refine zy2 ?_
      iterate 5 refine z6 ?_
      refine zy2 ?_
      iterate 7 refine z6 ?_
      refine zs2 ?_
      refine zR ?_
      contradiction
theorem walk_AstTells (v0 : Value) (w : World) (r0 : Reads w 40 v0) :
  Calls Try.prog 3 #[v0] w fun e w' => e = .returned (.bool true) ∧ Below w.heap.size w w' := by
 obtain ⟨cs, h1, h2⟩ := reads_struct Try.underlying40 r0
 obtain ⟨x, hx, h4⟩ := rd_TellsIn h2.2
 exact law_calls (law_AstTells x.v x.ws x.a x.b hx.v hx.ws hx.a hx.b) (repL_cons.2 ⟨reads_agg (t := 40) ⟨cs, h1, h4⟩, repL_nil.2 rfl⟩)
end Go.Proofs.Ytlponhgbbfgkgaa
