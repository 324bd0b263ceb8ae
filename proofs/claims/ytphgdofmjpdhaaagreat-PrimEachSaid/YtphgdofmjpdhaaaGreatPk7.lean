import Derived.Test.YtphgdofmjpdhaaaGreatPk6
set_option linter.unusedVariables false
set_option linter.unusedSimpArgs false
namespace Go.Proofs.YtphgdofmjpdhaaaGreat
open Go.RowKit
set_option maxRecDepth 100000
set_option maxHeartbeats 4000000
def shapeT : List (Str × Nat × Str) := [([68, 85, 80], 1, [97, 97]), ([68, 82, 79, 80], 1, []), ([83, 87, 65, 80], 2, [98, 97]), ([79, 86, 69, 82], 2, [97, 98, 97]), ([78, 73, 80], 2, [98]), ([84, 85, 67, 75], 2, [98, 97, 98]), ([82, 79, 84], 3, [98, 99, 97]), ([45, 82, 79, 84], 3, [99, 97, 98]), ([50, 68, 85, 80], 2, [97, 98, 97, 98]), ([50, 68, 82, 79, 80], 2, []), ([50, 83, 87, 65, 80], 4, [99, 100, 97, 98]), ([50, 79, 86, 69, 82], 4, [97, 98, 99, 100, 97, 98])]
def shapeK : List MKey := shapeT.map fun q => .s q.1
def shapeV : List PV := shapeT.map fun q => .agg [i64 q.2.1, str q.2.2]
theorem flat_shapes : Flat (.smap shapeK shapeV) := by
 unfold Flat shapeV
 exact flatL_map _ (fun q => by simp) _
theorem stk_shapes : PureC Tryz.prog 49 [] (.smap shapeK shapeV) := by
 refine pW tG (rs := [.tmp 0]) Tryz.func49 rfl rfl rfl (by simp; done) (by exact flat_shapes) (fun B => ?_)
 refine zu1 ?_
 refine z8 ?_
 refine Wd rfl rfl (does_makeMap rfl) ?_
 refine z1 ?_
 refine Wd rfl rfl (dI (e := 106) (key := .s [68, 85, 80]) (by kernel_rfl) rfl rfl rfl rfl (by kernel_rfl)) ?_
 refine z1 ?_
 refine Wd rfl rfl (dI (e := 106) (key := .s [68, 82, 79, 80]) (by kernel_rfl) rfl rfl rfl rfl (by kernel_rfl)) ?_
 refine z1 ?_
 refine Wd rfl rfl (dI (e := 106) (key := .s [83, 87, 65, 80]) (by kernel_rfl) rfl rfl rfl rfl (by kernel_rfl)) ?_
 refine z1 ?_
 refine Wd rfl rfl (dI (e := 106) (key := .s [79, 86, 69, 82]) (by kernel_rfl) rfl rfl rfl rfl (by kernel_rfl)) ?_
 refine z1 ?_
 refine Wd rfl rfl (dI (e := 106) (key := .s [78, 73, 80]) (by kernel_rfl) rfl rfl rfl rfl (by kernel_rfl)) ?_
 refine z1 ?_
 refine Wd rfl rfl (dI (e := 106) (key := .s [84, 85, 67, 75]) (by kernel_rfl) rfl rfl rfl rfl (by kernel_rfl)) ?_
 refine z1 ?_
 refine Wd rfl rfl (dI (e := 106) (key := .s [82, 79, 84]) (by kernel_rfl) rfl rfl rfl rfl (by kernel_rfl)) ?_
 refine z1 ?_
 refine Wd rfl rfl (dI (e := 106) (key := .s [45, 82, 79, 84]) (by kernel_rfl) rfl rfl rfl rfl (by kernel_rfl)) ?_
 refine z1 ?_
 refine Wd rfl rfl (dI (e := 106) (key := .s [50, 68, 85, 80]) (by kernel_rfl) rfl rfl rfl rfl (by kernel_rfl)) ?_
 refine z1 ?_
 refine Wd rfl rfl (dI (e := 106) (key := .s [50, 68, 82, 79, 80]) (by kernel_rfl) rfl rfl rfl rfl (by kernel_rfl)) ?_
 refine z1 ?_
 refine Wd rfl rfl (dI (e := 106) (key := .s [50, 83, 87, 65, 80]) (by kernel_rfl) rfl rfl rfl rfl (by kernel_rfl)) ?_
 refine z1 ?_
 refine Wd rfl rfl (dI (e := 106) (key := .s [50, 79, 86, 69, 82]) (by kernel_rfl) rfl rfl rfl rfl (by kernel_rfl)) ?_
 refine z1 ?_
 refine WO_freezeM 14 _ rfl rfl rfl ?_
 refine zs1 ?_
 refine zR ?_
 rfl
def shapeS (s : List Int) (tk : Nat) (lv : Str) (limit : Int) : List Int × Bool × Int :=
 if s.length < tk then (s, true, -4) else stkLaid s tk (lv.map fun c => (s.drop (s.length - tk)).getD (c.toNat - 97) 0) limit
theorem map_snoc_pv {lv : Str} {f : UInt8 → Int} {k : Nat} {q : SK} (hk : k < lv.length) : PV.seq ((lv.take k).map f ++ [f (lv.getD k 0)]).length (((lv.take k).map f ++ [f (lv.getD k 0)]).flatMap cInt) q = .seq ((lv.take (k + 1)).map f).length (((lv.take (k + 1)).map f).flatMap cInt) q := by
 rw [take_snoc' lv k 0 hk, List.map_append]; rfl
theorem stk_word (name : Str) (s : List Int) (limit : Int) (tk : Nat) (lv : Str) (hs : s.length ≤ 100000) (hm : -9223372036854775808 ≤ limit ∧ limit ≤ 9223372036854775807) (h1 : name ≠ [68, 69, 80, 84, 72]) (h2 : name ≠ [80, 73, 67, 75]) (h3 : name ≠ [82, 79, 76, 76]) (h4 : name ≠ [63, 68, 85, 80])
  (hk : lkPV shapeK shapeV (.s name) (.agg [i64 0, str []]) = (.agg [i64 tk, str lv], true)) (hl : ∀ c ∈ lv, 97 ≤ c.toNat ∧ c.toNat < 97 + tk) (hlen : lv.length ≤ 10) (htk : tk ≤ 4) :
  PureC Tryz.prog 26 [str name, sq cInt s, i64 limit] (tStk (shapeS s tk lv limit)) := by
 refine pW tG (rs := [.tmp 6, .tmp 7, .tmp 8]) Tryz.func26 rfl rfl rfl (by simp) (by simp) (fun B => ?_)
 refine zu3 ?_
 refine Ws ?_
 refine zu1 ?_
 refine Wl ?_
 refine zp1 ?_
 refine Wa 17 rfl (str_eql _ _) ?_
 refine zs1 ?_
 refine Wf rfl (by exact decide_eq_false h1) ?_
 refine Ws ?_
 refine zp1 ?_
 refine Wa 28 rfl (str_eql _ _) ?_
 refine zs1 ?_
 refine Wf rfl (by exact decide_eq_false h2) ?_
 refine W_region rfl ?_
 refine z1 ?_
 refine Wa 29 rfl (str_eql _ _) ?_
 refine zs1 ?_
 refine Wf rfl (by exact decide_eq_false h3) ?_
 refine Wj ?_
 refine z8 ?_
 refine Wc rfl rfl (dC rfl Tryz.func49 rfl rfl ((stk_shapes) _)) ?_
 refine z1 ?_
 refine Wd rfl rfl (does_lookup (b := true) (e := 106) (key := .s name) (by kernel_rfl) (lO tG rfl) (by kernel_rfl) rfl rfl rfl rfl (by kernel_rfl) (hk)) ?_
 refine zy5 ?_
 refine zs1 ?_
 refine Ws ?_
 refine zp2 ?_
 refine Wa 45 rfl (str_eql _ _) ?_
 refine Wn ?_
 refine Wf rfl (by exact decide_eq_false h4) ?_
 refine Wj ?_
 refine Ws ?_
 refine zu2 ?_
 refine Wf rfl (by rfl) ?_
 refine Wj ?_
 refine Ws ?_
 refine zu5 ?_
 refine Wi rfl (fun hi6 => ?_) (fun hi6 => ?_)
 ·have h0 : s.length < tk := by (try simp only [dnL] at *); omega
  refine zu4 ?_
  refine zR ?_
  rw [shapeS, if_pos h0]; rfl
 ·have h0 : ¬ s.length < tk := by (try simp only [dnL] at *); omega
  have w1 : IntKind.i64.wrap ((s.length : Int) - (tk : Int)) = ((s.length - tk : Nat) : Int) := by ((rw [i64w]; unfold wrap64; (try simp only [dnL] at *); omega))
  refine Wj ?_
  refine zp5 ?_
  refine z1 ?_
  refine Wa 74 rfl (congrArg (fun z => PV.val (Value.int .i64 z)) w1) ?_
  refine z2 ?_ (q := (by (simp_all; done)))
  refine Wa 75 rfl (sq_slice cInt 1 (fun _ => rfl) (by omega)) ?_
  refine Wa 75 rfl ((show _ = sq cInt (s.drop (s.length - tk)) by rw [List.take_length, Int.toNat_natCast]; rfl)) ?_
  refine zs1 ?_
  refine zp1 ?_
  refine WO_own 12 0 1 rfl rfl ?_
  refine Wn ?_
  refine Ws ?_
  refine zp2 ?_
  refine Wd rfl rfl (does_rangeStr (lO tG rfl) rfl rfl rfl) ?_
  refine Wn ?_
  refine Wl ?_
  show W _ _ _ _ _ _ _
  refine W_loopS (fun (k : Nat) => [(1, sq cInt s), (2, i64 limit), (9, .ptr 0 0), (11, sq cInt (s.drop (s.length - tk))), (78, .ptr 3 0), (12, .seq ((lv.take k).map fun c => (s.drop (s.length - tk)).getD (c.toNat - 97) 0).length (((lv.take k).map fun c => (s.drop (s.length - tk)).getD (c.toNat - 97) 0).flatMap cInt) (.own 4 1))]) (fun (k : Nat) => [.cells [i64 tk, str lv] 106, .dead, .dead]) (fun (k : Nat) => [.iter lv k, .free (((lv.take k).map fun c => (s.drop (s.length - tk)).getD (c.toNat - 97) 0).length * 1)]) (fun (k : Nat) => k ≤ lv.length) (fun (k : Nat) => lv.length - k) (0) (by omega) [2, 1] ?_ ?_
  ·exact fitT
  ·intro k hk
   refine z8 ?_
   by_cases hx1 : k < lv.length
   ·have hc := hl (lv.getD k 0) (by simp only [List.getD, List.getElem?_eq_getElem hx1, Option.getD_some]; exact List.getElem_mem hx1)
    have w2 : IntKind.i32.wrap (((lv.getD k 0).toNat : Int) - 97) = (((lv.getD k 0).toNat - 97 : Nat) : Int) := by rw [IntWalk.i32_left]; unfold wrap32; omega
    refine Wd rfl rfl (does_next rfl rfl rfl (by exact hx1) (by omega)) ?_
    refine zs1 ?_
    refine Ws ?_
    refine Wt rfl rfl ?_
    refine Wj ?_
    refine Wl ?_
    refine zu2 ?_
    refine W_region rfl ?_
    refine zy4 ?_
    refine Wa 85 rfl (congrArg (fun z => PV.val (Value.int .i32 z)) w2) ?_
    refine Wv tG rfl rfl rfl (by simp only [List.length_drop, Int.toNat_natCast]; omega) (iN cInt 1 (fun _ => rfl) 0 (by simp only [List.length_drop, Int.toNat_natCast]; omega)) ?_
    refine zy2 ?_
    refine Wa 88 rfl (bsL cInt [_] rfl rfl) ?_
    refine Wd rfl rfl (does_append_own (lO tG rfl) rfl (lO tG rfl) (lO tG rfl) rfl rfl rfl rfl (by simp) (by exact ⟨_, rfl⟩) (by exact ⟨rfl, rfl, flatMap_len _ 1 (fun _ => rfl) _, okC_flat _ (fun _ => rfl) _⟩) (by ((simp_all; omega))) (by ((simp_all; omega)))) ?_
    refine Wa 89 rfl (sq_append cInt) ?_
    refine z1 ?_
    skip
    refine Wn ?_
    exact ⟨k + 1, [3, 5], (by omega), (by omega), (fitT (sub := by repeat (first | exact subL_nil | refine subL_cons (by first | exact imp_of rfl | exact imp_of (map_snoc_pv hx1)) ?_)))⟩
   ·refine Wd rfl rfl (does_next_end rfl rfl rfl (by omega)) ?_
    refine zs1 ?_
    refine Ws ?_
    refine Wf rfl rfl ?_
    refine W_exit ?_
    refine zp5 ?_
    refine Wc rfl rfl (dC rfl Tryz.func47 rfl rfl ((stk_laid s tk _ limit hs (by omega) (by simp; omega) hm) _)) ?_
    refine zy5 ?_
    refine zs1 ?_
    refine zR ?_
    rw [shapeS, if_neg h0, take_all' lv k (by omega)]; rfl
end Go.Proofs.YtphgdofmjpdhaaaGreat
namespace Go.Proofs.YtphgdofmjpdhaaaGreat
open Go.RowKit
set_option maxRecDepth 100000
set_option maxHeartbeats 4000000
def needK (name : Str) : Nat :=
 if name = [68, 85, 80] then 1 else
 if name = [83, 87, 65, 80] then 2 else
 if name = [79, 86, 69, 82] then 2 else
 if name = [78, 73, 80] then 2 else
 if name = [84, 85, 67, 75] then 2 else
 if name = [82, 79, 84] then 3 else
 if name = [45, 82, 79, 84] then 3 else
 if name = [50, 68, 85, 80] then 2 else
 if name = [50, 83, 87, 65, 80] then 4 else
 if name = [50, 79, 86, 69, 82] then 4 else
 if name = [63, 68, 85, 80] then 1 else
 if name = [68, 69, 80, 84, 72] then 0 else
 if name = [80, 73, 67, 75] then 2 else
 if name = [82, 79, 76, 76] then 2 else
 0
theorem ref_left (name : Str) (x : List Int) (depth : Nat) (hx : needK name ≤ x.length) (hl : x.length ≤ 100000) : PureC Tryz.prog 64 [str name, sq cInt x, i64 depth] (sq cInt (leftK name x depth)) := by
 have w1 : 1 ≤ x.length → IntKind.i64.wrap ((x.length : Int) - 1) = ((x.length - 1 : Nat) : Int) := fun h => by ((rw [i64w]; unfold wrap64; (try simp only [dnL] at *); omega))
 refine pW tG (rs := [.tmp 6]) Tryz.func64 rfl rfl rfl (by simp) (by simp) (fun B => ?_)
 refine zu1 ?_
 refine Ws ?_
 refine zu1 ?_
 refine Wl ?_
 refine zp1 ?_
 refine Wa 9 rfl (str_eql _ _) ?_
 refine zs1 ?_
 refine Wi rfl (fun hi1 => ?_) (fun hi1 => ?_)
 ·have hq : name = [68, 85, 80] := oT hi1
  subst hq
  have hx2 : 1 ≤ x.length := hx
  refine Ws ?_
  refine W_drawU [0, 0, 1, 0, 0, 1, 0, 0] [0, 1, 2, 3, 4, 5, 6, 7] mG rfl (by kernel_rfl) ?_
  refine z3 ?_
  refine Xi tG rfl rfl rfl rfl (fun _ => rfl) (by omega) (iN cInt 1 (fun _ => rfl) 0 (by (simp only [dnL] at *; omega))) ?_
  refine z5 ?_
  refine z3 ?_
  refine Xi tG rfl rfl rfl rfl (fun _ => rfl) (by omega) (iN cInt 1 (fun _ => rfl) 0 (by (simp only [dnL] at *; omega))) ?_
  refine z5 ?_
  refine z3 ?_
  refine Xa 16 rfl (bsL cInt [_, _] rfl rfl) ?_
  refine z3 ?_
  refine WU_nil ?_
  refine zR ?_
  rfl
 ·refine zp1 ?_
  refine Wa 18 rfl (str_eql _ _) ?_
  refine zs1 ?_
  refine Wi rfl (fun hi2 => ?_) (fun hi2 => ?_)
  ·have hq : name = [83, 87, 65, 80] := oT hi2
   subst hq
   have hx2 : 2 ≤ x.length := hx
   refine Ws ?_
   refine W_drawU [0, 0, 1, 0, 0, 1, 0, 0] [0, 1, 2, 3, 4, 5, 6, 7] mG rfl (by kernel_rfl) ?_
   refine z3 ?_
   refine Xi tG rfl rfl rfl rfl (fun _ => rfl) (by omega) (iN cInt 1 (fun _ => rfl) 0 (by (simp only [dnL] at *; omega))) ?_
   refine z5 ?_
   refine z3 ?_
   refine Xi tG rfl rfl rfl rfl (fun _ => rfl) (by omega) (iN cInt 1 (fun _ => rfl) 0 (by (simp only [dnL] at *; omega))) ?_
   refine z5 ?_
   refine z3 ?_
   refine Xa 25 rfl (bsL cInt [_, _] rfl rfl) ?_
   refine z3 ?_
   refine WU_nil ?_
   refine zR ?_
   rfl
  ·refine zp1 ?_
   refine Wa 27 rfl (str_eql _ _) ?_
   refine zs1 ?_
   refine Wi rfl (fun hi3 => ?_) (fun hi3 => ?_)
   ·have hq : name = [79, 86, 69, 82] := oT hi3
    subst hq
    have hx2 : 2 ≤ x.length := hx
    refine Ws ?_
    refine W_drawU [0, 0, 1, 0, 0, 1, 0, 0, 1, 0, 0] [0, 1, 2, 3, 4, 5, 6, 7, 8, 9, 10] mG rfl (by kernel_rfl) ?_
    refine z3 ?_
    refine Xi tG rfl rfl rfl rfl (fun _ => rfl) (by omega) (iN cInt 1 (fun _ => rfl) 0 (by (simp only [dnL] at *; omega))) ?_
    refine z5 ?_
    refine z3 ?_
    refine Xi tG rfl rfl rfl rfl (fun _ => rfl) (by omega) (iN cInt 1 (fun _ => rfl) 0 (by (simp only [dnL] at *; omega))) ?_
    refine z5 ?_
    refine z3 ?_
    refine Xi tG rfl rfl rfl rfl (fun _ => rfl) (by omega) (iN cInt 1 (fun _ => rfl) 0 (by (simp only [dnL] at *; omega))) ?_
    refine z5 ?_
    refine z3 ?_
    refine Xa 37 rfl (bsL cInt [_, _, _] rfl rfl) ?_
    refine z3 ?_
    refine WU_nil ?_
    refine zR ?_
    rfl
   ·refine zp1 ?_
    refine Wa 39 rfl (str_eql _ _) ?_
    refine zs1 ?_
    refine Wi rfl (fun hi4 => ?_) (fun hi4 => ?_)
    ·have hq : name = [78, 73, 80] := oT hi4
     subst hq
     have hx2 : 2 ≤ x.length := hx
     refine zp1 ?_
     refine Wv tG rfl rfl rfl (by omega) (iN cInt 1 (fun _ => rfl) 0 (by (simp only [dnL] at *; omega))) ?_
     refine zy2 ?_
     refine Wa 43 rfl (bsL cInt [_] rfl rfl) ?_
     refine zs1 ?_
     refine zR ?_
     rfl
    ·refine zp1 ?_
     refine Wa 45 rfl (str_eql _ _) ?_
     refine zs1 ?_
     refine Wi rfl (fun hi5 => ?_) (fun hi5 => ?_)
     ·have hq : name = [84, 85, 67, 75] := oT hi5
      subst hq
      have hx2 : 2 ≤ x.length := hx
      refine Ws ?_
      refine W_drawU [0, 0, 1, 0, 0, 1, 0, 0, 1, 0, 0] [0, 1, 2, 3, 4, 5, 6, 7, 8, 9, 10] mG rfl (by kernel_rfl) ?_
      refine z3 ?_
      refine Xi tG rfl rfl rfl rfl (fun _ => rfl) (by omega) (iN cInt 1 (fun _ => rfl) 0 (by (simp only [dnL] at *; omega))) ?_
      refine z5 ?_
      refine z3 ?_
      refine Xi tG rfl rfl rfl rfl (fun _ => rfl) (by omega) (iN cInt 1 (fun _ => rfl) 0 (by (simp only [dnL] at *; omega))) ?_
      refine z5 ?_
      refine z3 ?_
      refine Xi tG rfl rfl rfl rfl (fun _ => rfl) (by omega) (iN cInt 1 (fun _ => rfl) 0 (by (simp only [dnL] at *; omega))) ?_
      refine z5 ?_
      refine z3 ?_
      refine Xa 55 rfl (bsL cInt [_, _, _] rfl rfl) ?_
      refine z3 ?_
      refine WU_nil ?_
      refine zR ?_
      rfl
     ·refine zp1 ?_
      refine Wa 57 rfl (str_eql _ _) ?_
      refine zs1 ?_
      refine Wi rfl (fun hi6 => ?_) (fun hi6 => ?_)
      ·have hq : name = [82, 79, 84] := oT hi6
       subst hq
       have hx2 : 3 ≤ x.length := hx
       refine Ws ?_
       refine W_drawU [0, 0, 1, 0, 0, 1, 0, 0, 1, 0, 0] [0, 1, 2, 3, 4, 5, 6, 7, 8, 9, 10] mG rfl (by kernel_rfl) ?_
       refine z3 ?_
       refine Xi tG rfl rfl rfl rfl (fun _ => rfl) (by omega) (iN cInt 1 (fun _ => rfl) 0 (by (simp only [dnL] at *; omega))) ?_
       refine z5 ?_
       refine z3 ?_
       refine Xi tG rfl rfl rfl rfl (fun _ => rfl) (by omega) (iN cInt 1 (fun _ => rfl) 0 (by (simp only [dnL] at *; omega))) ?_
       refine z5 ?_
       refine z3 ?_
       refine Xi tG rfl rfl rfl rfl (fun _ => rfl) (by omega) (iN cInt 1 (fun _ => rfl) 0 (by (simp only [dnL] at *; omega))) ?_
       refine z5 ?_
       refine z3 ?_
       refine Xa 67 rfl (bsL cInt [_, _, _] rfl rfl) ?_
       refine z3 ?_
       refine WU_nil ?_
       refine zR ?_
       rfl
      ·refine zp1 ?_
       refine Wa 69 rfl (str_eql _ _) ?_
       refine zs1 ?_
       refine Wi rfl (fun hi7 => ?_) (fun hi7 => ?_)
       ·have hq : name = [45, 82, 79, 84] := oT hi7
        subst hq
        have hx2 : 3 ≤ x.length := hx
        refine Ws ?_
        refine W_drawU [0, 0, 1, 0, 0, 1, 0, 0, 1, 0, 0] [0, 1, 2, 3, 4, 5, 6, 7, 8, 9, 10] mG rfl (by kernel_rfl) ?_
        refine z3 ?_
        refine Xi tG rfl rfl rfl rfl (fun _ => rfl) (by omega) (iN cInt 1 (fun _ => rfl) 0 (by (simp only [dnL] at *; omega))) ?_
        refine z5 ?_
        refine z3 ?_
        refine Xi tG rfl rfl rfl rfl (fun _ => rfl) (by omega) (iN cInt 1 (fun _ => rfl) 0 (by (simp only [dnL] at *; omega))) ?_
        refine z5 ?_
        refine z3 ?_
        refine Xi tG rfl rfl rfl rfl (fun _ => rfl) (by omega) (iN cInt 1 (fun _ => rfl) 0 (by (simp only [dnL] at *; omega))) ?_
        refine z5 ?_
        refine z3 ?_
        refine Xa 79 rfl (bsL cInt [_, _, _] rfl rfl) ?_
        refine z3 ?_
        refine WU_nil ?_
        refine zR ?_
        rfl
       ·refine zp1 ?_
        refine Wa 81 rfl (str_eql _ _) ?_
        refine zs1 ?_
        refine Wi rfl (fun hi8 => ?_) (fun hi8 => ?_)
        ·have hq : name = [50, 68, 85, 80] := oT hi8
         subst hq
         have hx2 : 2 ≤ x.length := hx
         refine Ws ?_
         refine W_drawU [0, 0, 1, 0, 0, 1, 0, 0, 1, 0, 0, 1, 0, 0] [0, 1, 2, 3, 4, 5, 6, 7, 8, 9, 10, 11, 12, 13] mG rfl (by kernel_rfl) ?_
         refine z3 ?_
         refine Xi tG rfl rfl rfl rfl (fun _ => rfl) (by omega) (iN cInt 1 (fun _ => rfl) 0 (by (simp only [dnL] at *; omega))) ?_
         refine z5 ?_
         refine z3 ?_
         refine Xi tG rfl rfl rfl rfl (fun _ => rfl) (by omega) (iN cInt 1 (fun _ => rfl) 0 (by (simp only [dnL] at *; omega))) ?_
         refine z5 ?_
         refine z3 ?_
         refine Xi tG rfl rfl rfl rfl (fun _ => rfl) (by omega) (iN cInt 1 (fun _ => rfl) 0 (by (simp only [dnL] at *; omega))) ?_
         refine z5 ?_
         refine z3 ?_
         refine Xi tG rfl rfl rfl rfl (fun _ => rfl) (by omega) (iN cInt 1 (fun _ => rfl) 0 (by (simp only [dnL] at *; omega))) ?_
         refine z5 ?_
         refine z3 ?_
         refine Xa 94 rfl (bsL cInt [_, _, _, _] rfl rfl) ?_
         refine z3 ?_
         refine WU_nil ?_
         refine zR ?_
         rfl
        ·refine zp1 ?_
         refine Wa 96 rfl (str_eql _ _) ?_
         refine zs1 ?_
         refine Wi rfl (fun hi9 => ?_) (fun hi9 => ?_)
         ·have hq : name = [50, 83, 87, 65, 80] := oT hi9
          subst hq
          have hx2 : 4 ≤ x.length := hx
          refine Ws ?_
          refine W_drawU [0, 0, 1, 0, 0, 1, 0, 0, 1, 0, 0, 1, 0, 0] [0, 1, 2, 3, 4, 5, 6, 7, 8, 9, 10, 11, 12, 13] mG rfl (by kernel_rfl) ?_
          refine z3 ?_
          refine Xi tG rfl rfl rfl rfl (fun _ => rfl) (by omega) (iN cInt 1 (fun _ => rfl) 0 (by (simp only [dnL] at *; omega))) ?_
          refine z5 ?_
          refine z3 ?_
          refine Xi tG rfl rfl rfl rfl (fun _ => rfl) (by omega) (iN cInt 1 (fun _ => rfl) 0 (by (simp only [dnL] at *; omega))) ?_
          refine z5 ?_
          refine z3 ?_
          refine Xi tG rfl rfl rfl rfl (fun _ => rfl) (by omega) (iN cInt 1 (fun _ => rfl) 0 (by (simp only [dnL] at *; omega))) ?_
          refine z5 ?_
          refine z3 ?_
          refine Xi tG rfl rfl rfl rfl (fun _ => rfl) (by omega) (iN cInt 1 (fun _ => rfl) 0 (by (simp only [dnL] at *; omega))) ?_
          refine z5 ?_
          refine z3 ?_
          refine Xa 109 rfl (bsL cInt [_, _, _, _] rfl rfl) ?_
          refine z3 ?_
          refine WU_nil ?_
          refine zR ?_
          rfl
         ·refine zp1 ?_
          refine Wa 111 rfl (str_eql _ _) ?_
          refine zs1 ?_
          refine Wi rfl (fun hi10 => ?_) (fun hi10 => ?_)
          ·have hq : name = [50, 79, 86, 69, 82] := oT hi10
           subst hq
           have hx2 : 4 ≤ x.length := hx
           refine Ws ?_
           refine W_drawU [0, 0, 1, 0, 0, 1, 0, 0, 1, 0, 0, 1, 0, 0, 1, 0, 0, 1, 0, 0] [0, 1, 2, 3, 4, 5, 6, 7, 8, 9, 10, 11, 12, 13, 14, 15, 16, 17, 18, 19] mG rfl (by kernel_rfl) ?_
           refine z3 ?_
           refine Xi tG rfl rfl rfl rfl (fun _ => rfl) (by omega) (iN cInt 1 (fun _ => rfl) 0 (by (simp only [dnL] at *; omega))) ?_
           refine z5 ?_
           refine z3 ?_
           refine Xi tG rfl rfl rfl rfl (fun _ => rfl) (by omega) (iN cInt 1 (fun _ => rfl) 0 (by (simp only [dnL] at *; omega))) ?_
           refine z5 ?_
           refine z3 ?_
           refine Xi tG rfl rfl rfl rfl (fun _ => rfl) (by omega) (iN cInt 1 (fun _ => rfl) 0 (by (simp only [dnL] at *; omega))) ?_
           refine z5 ?_
           refine z3 ?_
           refine Xi tG rfl rfl rfl rfl (fun _ => rfl) (by omega) (iN cInt 1 (fun _ => rfl) 0 (by (simp only [dnL] at *; omega))) ?_
           refine z5 ?_
           refine z3 ?_
           refine Xi tG rfl rfl rfl rfl (fun _ => rfl) (by omega) (iN cInt 1 (fun _ => rfl) 0 (by (simp only [dnL] at *; omega))) ?_
           refine z5 ?_
           refine z3 ?_
           refine Xi tG rfl rfl rfl rfl (fun _ => rfl) (by omega) (iN cInt 1 (fun _ => rfl) 0 (by (simp only [dnL] at *; omega))) ?_
           refine z5 ?_
           refine z3 ?_
           refine Xa 130 rfl (bsL cInt [_, _, _, _, _, _] rfl rfl) ?_
           refine z3 ?_
           refine WU_nil ?_
           refine zR ?_
           rfl
          ·refine zp1 ?_
           refine Wa 132 rfl (str_eql _ _) ?_
           refine zs1 ?_
           refine Wi rfl (fun hi11 => ?_) (fun hi11 => ?_)
           ·have hq : name = [63, 68, 85, 80] := oT hi11
            subst hq
            have hx2 : 1 ≤ x.length := hx
            refine Ws ?_
            refine zp1 ?_
            refine Wv tG rfl rfl rfl (by omega) (iN cInt 1 (fun _ => rfl) 0 (by (simp only [dnL] at *; omega))) ?_
            refine zs2 ?_
            refine Wi rfl (fun hi12 => ?_) (fun hi12 => ?_)
            ·have h0 : x.getD 0 0 = 0 := oT hi12
             refine zu2 ?_
             refine zR ?_
             (exact congrArg (sq cInt) (show _ = leftK _ _ _ from (if_pos h0).symm))
            ·have h0 : ¬ x.getD 0 0 = 0 := oF hi12
             refine Wj ?_
             refine Ws ?_
             refine W_drawU [0, 0, 1, 0, 0, 1, 0, 0] [0, 1, 2, 3, 4, 5, 6, 7] mG rfl (by kernel_rfl) ?_
             refine z3 ?_
             refine Xi tG rfl rfl rfl rfl (fun _ => rfl) (by omega) (iN cInt 1 (fun _ => rfl) 0 (by (simp only [dnL] at *; omega))) ?_
             refine z5 ?_
             refine z3 ?_
             refine Xi tG rfl rfl rfl rfl (fun _ => rfl) (by omega) (iN cInt 1 (fun _ => rfl) 0 (by (simp only [dnL] at *; omega))) ?_
             refine z5 ?_
             refine z3 ?_
             refine Xa 144 rfl (bsL cInt [_, _] rfl rfl) ?_
             refine z3 ?_
             refine WU_nil ?_
             refine zR ?_
             (exact congrArg (sq cInt) (show [x.getD 0 0, x.getD 0 0] = leftK _ _ _ from (if_neg h0).symm))
           ·refine zp1 ?_
            refine Wa 146 rfl (str_eql _ _) ?_
            refine zs1 ?_
            refine Wi rfl (fun hi13 => ?_) (fun hi13 => ?_)
            ·have hq : name = [68, 69, 80, 84, 72] := oT hi13
             subst hq
             have hx2 : 0 ≤ x.length := hx
             refine zp2 ?_
             refine Wa 148 rfl (bsL cInt [_] rfl rfl) ?_
             refine zs1 ?_
             refine zR ?_
             rfl
            ·refine zp1 ?_
             refine Wa 150 rfl (str_eql _ _) ?_
             refine zs1 ?_
             refine Wi rfl (fun hi14 => ?_) (fun hi14 => ?_)
             ·have hq : name = [80, 73, 67, 75] := oT hi14
              subst hq
              have hx2 : 2 ≤ x.length := hx
              have w2 := w1 (by omega)
              refine Ws ?_
              refine W_drawU [0, 0, 0, 0, 0, 0, 2, 0, 0, 0, 0, 3, 0] [0, 1, 2, 3, 4, 5, 7, 8, 9, 10, 6, 11, 12] mG rfl (by kernel_rfl) ?_
              iterate 5 refine z3 ?_
              refine Xa 155 rfl (congrArg (fun z => PV.val (Value.int .i64 z)) w2) ?_
              refine z4 ?_ (q := (by (simp_all; done)))
              refine Xa 156 rfl (sq_slice cInt 1 (fun _ => rfl) (by omega)) ?_
              refine Xa 156 rfl ((show _ = sq cInt (x.take (x.length - 1)) by rw [Int.toNat_natCast, List.drop_zero]; rfl)) ?_
              refine z3 ?_
              refine Xi tG rfl rfl rfl rfl (fun _ => rfl) (by omega) (iN cInt 1 (fun _ => rfl) 0 (by (simp only [dnL] at *; omega))) ?_
              iterate 2 refine z3 ?_
              refine Xa 161 rfl (bsL cInt [_] rfl rfl) ?_
              refine WU_does2 rfl rfl rfl rfl (does_append_clip (lO tG rfl) rfl (lO tG rfl) (lO tG rfl) rfl rfl (by exact ⟨_, rfl⟩) (by exact ⟨rfl, rfl, flatMap_len _ 1 (fun _ => rfl) _, okC_flat _ (fun _ => rfl) _⟩) (by rfl) (by (simp; omega)) (by (simp; omega))) ?_
              refine Xa 157 rfl (sq_none cInt) ?_
              refine WU_does3 rfl rfl rfl rfl (does_append_own (lO tG rfl) rfl (lO tG rfl) (lO tG rfl) rfl rfl rfl rfl (by simp) (by exact ⟨_, rfl⟩) (by exact ⟨rfl, rfl, flatMap_len _ 1 (fun _ => rfl) _, okC_flat _ (fun _ => rfl) _⟩) (by (simp; omega)) (by (simp; omega))) ?_
              refine Xa 162 rfl (sq_append cInt) ?_
              refine z3 ?_
              refine WU_nil ?_
              refine zR ?_
              rfl
             ·refine zp1 ?_
              refine Wa 164 rfl (str_eql _ _) ?_
              refine zs1 ?_
              refine Wi rfl (fun hi15 => ?_) (fun hi15 => ?_)
              ·have hq : name = [82, 79, 76, 76] := oT hi15
               subst hq
               have hx2 : 2 ≤ x.length := hx
               have w2 := w1 (by omega)
               refine Ws ?_
               refine W_drawU [0, 0, 0, 0, 0, 0, 2, 0, 0, 0, 0, 3, 0] [0, 1, 2, 3, 4, 5, 7, 8, 9, 10, 6, 11, 12] mG rfl (by kernel_rfl) ?_
               iterate 5 refine z3 ?_
               refine Xa 169 rfl (congrArg (fun z => PV.val (Value.int .i64 z)) w2) ?_
               refine z4 ?_ (q := (by omega))
               refine Xa 170 rfl (sq_slice cInt 1 (fun _ => rfl) (by omega)) ?_
               refine Xa 170 rfl ((show _ = sq cInt ((x.take (x.length - 1)).drop 1) by rw [Int.toNat_natCast]; rfl)) ?_
               refine z3 ?_
               refine Xi tG rfl rfl rfl rfl (fun _ => rfl) (by omega) (iN cInt 1 (fun _ => rfl) 0 (by (simp only [dnL] at *; omega))) ?_
               iterate 2 refine z3 ?_
               refine Xa 175 rfl (bsL cInt [_] rfl rfl) ?_
               refine WU_does2 rfl rfl rfl rfl (does_append_clip (lO tG rfl) rfl (lO tG rfl) (lO tG rfl) rfl rfl (by exact ⟨_, rfl⟩) (by exact ⟨rfl, rfl, flatMap_len _ 1 (fun _ => rfl) _, okC_flat _ (fun _ => rfl) _⟩) (by rfl) (by (simp; omega)) (by (simp; omega))) ?_
               refine Xa 171 rfl (sq_none cInt) ?_
               refine WU_does3 rfl rfl rfl rfl (does_append_own (lO tG rfl) rfl (lO tG rfl) (lO tG rfl) rfl rfl rfl rfl (by simp) (by exact ⟨_, rfl⟩) (by exact ⟨rfl, rfl, flatMap_len _ 1 (fun _ => rfl) _, okC_flat _ (fun _ => rfl) _⟩) (by (simp; omega)) (by (simp; omega))) ?_
               refine Xa 176 rfl (sq_append cInt) ?_
               refine z3 ?_
               refine WU_nil ?_
               refine zR ?_
               rfl
              ·refine Wj ?_
               refine zu1 ?_
               refine zR ?_
               (rw [leftK, if_neg (oF hi1), if_neg (oF hi2), if_neg (oF hi3), if_neg (oF hi4), if_neg (oF hi5), if_neg (oF hi6), if_neg (oF hi7), if_neg (oF hi8), if_neg (oF hi9), if_neg (oF hi10), if_neg (oF hi11), if_neg (oF hi13), if_neg (oF hi14), if_neg (oF hi15)]; rfl)
end Go.Proofs.YtphgdofmjpdhaaaGreat
namespace Go.Proofs.YtphgdofmjpdhaaaGreat
open Go.RowKit
set_option maxRecDepth 100000
set_option maxHeartbeats 4000000
def pickK (s : List Int) : Int := if s.length = 0 ∨ s.getD (s.length - 1) 0 < 0 ∨ (s.length : Int) - 1 ≤ s.getD (s.length - 1) 0 then (s.length : Int) + 1 else s.getD (s.length - 1) 0 + 2
theorem ref_takes (name : Str) (s : List Int) (hs : s.length ≤ 100000) : PureC Tryz.prog 63 [str name, sq cInt s] (i64 (takesK name s)) := by
 refine pW tG (rs := [.tmp 4]) Tryz.func63 rfl rfl rfl (by simp) (by simp) (fun B => ?_)
 refine zu1 ?_
 refine Ws ?_
 refine zu1 ?_
 refine Wl ?_
 refine zp1 ?_
 refine Wa 7 rfl (str_eql _ _) ?_
 refine zs1 ?_
 refine Wi rfl (fun hi1 => ?_) (fun hi1 => ?_)
 ·refine zu1 ?_
  refine zR ?_
  rw [show name = [68, 69, 80, 84, 72] from oT hi1]; rfl
 ·refine Ws ?_
  refine zp1 ?_
  refine Wa 9 rfl (str_eql _ _) ?_
  refine zs1 ?_
  refine Wi rfl (fun hi2 => ?_) (fun hi2 => ?_)
  ·refine Wj ?_
   refine Wt rfl hi2 ?_
   refine zu1 ?_
   refine zR ?_
   rw [show name = [68, 85, 80] from oT hi2]; rfl
  ·refine zp1 ?_
   refine Wa 10 rfl (str_eql _ _) ?_
   refine zs1 ?_
   refine Wi rfl (fun hi3 => ?_) (fun hi3 => ?_)
   ·refine Wj ?_
    refine Wt rfl hi3 ?_
    refine zu1 ?_
    refine zR ?_
    rw [show name = [68, 82, 79, 80] from oT hi3]; rfl
   ·refine W_region rfl ?_
    refine z1 ?_
    refine Wa 11 rfl (str_eql _ _) ?_
    refine zs1 ?_
    refine Wi rfl (fun hi4 => ?_) (fun hi4 => ?_)
    ·refine zu1 ?_
     refine zR ?_
     rw [show name = [63, 68, 85, 80] from oT hi4]; rfl
    ·refine Ws ?_
     refine zp1 ?_
     refine Wa 13 rfl (str_eql _ _) ?_
     refine zs1 ?_
     refine Wi rfl (fun hi5 => ?_) (fun hi5 => ?_)
     ·refine Wj ?_
      refine Wt rfl hi5 ?_
      refine zu1 ?_
      refine zR ?_
      rw [show name = [83, 87, 65, 80] from oT hi5]; rfl
     ·refine zp1 ?_
      refine Wa 14 rfl (str_eql _ _) ?_
      refine zs1 ?_
      refine Wi rfl (fun hi6 => ?_) (fun hi6 => ?_)
      ·refine Wj ?_
       refine Wt rfl hi6 ?_
       refine zu1 ?_
       refine zR ?_
       rw [show name = [79, 86, 69, 82] from oT hi6]; rfl
      ·refine zp1 ?_
       refine Wa 15 rfl (str_eql _ _) ?_
       refine zs1 ?_
       refine Wi rfl (fun hi7 => ?_) (fun hi7 => ?_)
       ·refine Wj ?_
        refine Wt rfl hi7 ?_
        refine zu1 ?_
        refine zR ?_
        rw [show name = [78, 73, 80] from oT hi7]; rfl
       ·refine zp1 ?_
        refine Wa 16 rfl (str_eql _ _) ?_
        refine zs1 ?_
        refine Wi rfl (fun hi8 => ?_) (fun hi8 => ?_)
        ·refine Wj ?_
         refine Wt rfl hi8 ?_
         refine zu1 ?_
         refine zR ?_
         rw [show name = [84, 85, 67, 75] from oT hi8]; rfl
        ·refine zp1 ?_
         refine Wa 17 rfl (str_eql _ _) ?_
         refine zs1 ?_
         refine Wi rfl (fun hi9 => ?_) (fun hi9 => ?_)
         ·refine Wj ?_
          refine Wt rfl hi9 ?_
          refine zu1 ?_
          refine zR ?_
          rw [show name = [50, 68, 85, 80] from oT hi9]; rfl
         ·refine W_region rfl ?_
          refine z1 ?_
          refine Wa 18 rfl (str_eql _ _) ?_
          refine zs1 ?_
          refine Wi rfl (fun hi10 => ?_) (fun hi10 => ?_)
          ·refine zu1 ?_
           refine zR ?_
           rw [show name = [50, 68, 82, 79, 80] from oT hi10]; rfl
          ·refine Ws ?_
           refine zp1 ?_
           refine Wa 20 rfl (str_eql _ _) ?_
           refine zs1 ?_
           refine Wi rfl (fun hi11 => ?_) (fun hi11 => ?_)
           ·refine Wj ?_
            refine Wt rfl hi11 ?_
            refine zu1 ?_
            refine zR ?_
            rw [show name = [82, 79, 84] from oT hi11]; rfl
           ·refine W_region rfl ?_
            refine z1 ?_
            refine Wa 21 rfl (str_eql _ _) ?_
            refine zs1 ?_
            refine Wi rfl (fun hi12 => ?_) (fun hi12 => ?_)
            ·refine zu1 ?_
             refine zR ?_
             rw [show name = [45, 82, 79, 84] from oT hi12]; rfl
            ·refine Ws ?_
             refine zp1 ?_
             refine Wa 23 rfl (str_eql _ _) ?_
             refine zs1 ?_
             refine Wi rfl (fun hi13 => ?_) (fun hi13 => ?_)
             ·refine Wj ?_
              refine Wt rfl hi13 ?_
              refine zu1 ?_
              refine zR ?_
              rw [show name = [50, 83, 87, 65, 80] from oT hi13]; rfl
             ·refine W_region rfl ?_
              refine z1 ?_
              refine Wa 24 rfl (str_eql _ _) ?_
              refine zs1 ?_
              refine Wi rfl (fun hi14 => ?_) (fun hi14 => ?_)
              ·refine zu1 ?_
               refine zR ?_
               rw [show name = [50, 79, 86, 69, 82] from oT hi14]; rfl
              ·refine Ws ?_
               refine zp1 ?_
               refine Wa 26 rfl (str_eql _ _) ?_
               refine zs1 ?_
               refine Wi rfl (fun hi15 => ?_) (fun hi15 => ?_)
               ·have hq : takesK name s = pickK s := by rw [show name = [80, 73, 67, 75] from oT hi15]; rfl
                refine Wj ?_
                refine Wt rfl hi15 ?_
                refine Ws ?_
                refine zp4 ?_
                refine Wb 31 rfl (fun hg1 => ?_) (fun hg1 => ?_)
                ·have h0 : s.length = 0 := by (try simp only [dnL] at *); omega
                 iterate 7 refine z6 ?_
                 refine zy2 ?_
                 iterate 10 refine z6 ?_
                 refine zs1 ?_
                 refine Wt rfl rfl ?_
                 refine zu4 ?_
                 refine zR ?_
                 rw [hq, pickK, if_pos (.inl h0)]; exact congrArg i64 (by ((rw [i64w]; unfold wrap64; (try simp only [dnL] at *); omega)))
                ·have h0 : ¬ s.length = 0 := by (try simp only [dnL] at *); omega
                 have w1 : IntKind.i64.wrap ((s.length : Int) - 1) = ((s.length - 1 : Nat) : Int) := by ((rw [i64w]; unfold wrap64; (try simp only [dnL] at *); omega))
                 refine zy4 ?_
                 refine Wa 35 rfl (congrArg (fun z => PV.val (Value.int .i64 z)) w1) ?_
                 refine Wv tG rfl rfl rfl (by omega) (iN cInt 1 (fun _ => rfl) 0 (by omega)) ?_
                 refine zy4 ?_
                 refine Wb 40 rfl (fun hg2 => ?_) (fun hg2 => ?_)
                 ·have h1 : s.getD (s.length - 1) 0 < 0 := oT hg2
                  iterate 10 refine z6 ?_
                  refine zs1 ?_
                  refine Wt rfl rfl ?_
                  refine zu4 ?_
                  refine zR ?_
                  rw [hq, pickK, if_pos (.inr (.inl h1))]; exact congrArg i64 (by ((rw [i64w]; unfold wrap64; (try simp only [dnL] at *); omega)))
                 ·have h1 : ¬ s.getD (s.length - 1) 0 < 0 := oF hg2
                  refine zy4 ?_
                  refine Wa 44 rfl (congrArg (fun z => PV.val (Value.int .i64 z)) w1) ?_
                  refine Wv tG rfl rfl rfl (by omega) (iN cInt 1 (fun _ => rfl) 0 (by omega)) ?_
                  refine zy4 ?_
                  refine Wa 49 rfl (congrArg (fun z => PV.val (Value.int .i64 z)) w1) ?_
                  refine zs2 ?_
                  refine Wi rfl (fun hi16 => ?_) (fun hi16 => ?_)
                  ·have h2 : ((s.length - 1 : Nat) : Int) ≤ s.getD (s.length - 1) 0 := oT hi16
                   refine zu4 ?_
                   refine zR ?_
                   rw [hq, pickK, if_pos (.inr (.inr (by omega)))]; exact congrArg i64 (by ((rw [i64w]; unfold wrap64; (try simp only [dnL] at *); omega)))
                  ·have h2 : ¬ ((s.length - 1 : Nat) : Int) ≤ s.getD (s.length - 1) 0 := oF hi16
                   refine Wj ?_
                   refine zp4 ?_
                   refine Wa 58 rfl (congrArg (fun z => PV.val (Value.int .i64 z)) w1) ?_
                   refine Wv tG rfl rfl rfl (by omega) (iN cInt 1 (fun _ => rfl) 0 (by omega)) ?_
                   refine zs3 ?_
                   refine zR ?_
                   rw [hq, pickK, if_neg (by rintro (h | h | h) <;> omega)]; exact congrArg i64 (by ((rw [i64w]; unfold wrap64; (try simp only [dnL] at *); omega)))
               ·refine W_region rfl ?_
                refine z1 ?_
                refine Wa 27 rfl (str_eql _ _) ?_
                refine zs1 ?_
                refine Wi rfl (fun hi17 => ?_) (fun hi17 => ?_)
                ·have hq : takesK name s = pickK s := by rw [show name = [82, 79, 76, 76] from oT hi17]; rfl
                 refine Ws ?_
                 refine zp4 ?_
                 refine Wb 31 rfl (fun hg1 => ?_) (fun hg1 => ?_)
                 ·have h0 : s.length = 0 := by (try simp only [dnL] at *); omega
                  iterate 7 refine z6 ?_
                  refine zy2 ?_
                  iterate 10 refine z6 ?_
                  refine zs1 ?_
                  refine Wt rfl rfl ?_
                  refine zu4 ?_
                  refine zR ?_
                  rw [hq, pickK, if_pos (.inl h0)]; exact congrArg i64 (by ((rw [i64w]; unfold wrap64; (try simp only [dnL] at *); omega)))
                 ·have h0 : ¬ s.length = 0 := by (try simp only [dnL] at *); omega
                  have w1 : IntKind.i64.wrap ((s.length : Int) - 1) = ((s.length - 1 : Nat) : Int) := by ((rw [i64w]; unfold wrap64; (try simp only [dnL] at *); omega))
                  refine zy4 ?_
                  refine Wa 35 rfl (congrArg (fun z => PV.val (Value.int .i64 z)) w1) ?_
                  refine Wv tG rfl rfl rfl (by omega) (iN cInt 1 (fun _ => rfl) 0 (by omega)) ?_
                  refine zy4 ?_
                  refine Wb 40 rfl (fun hg2 => ?_) (fun hg2 => ?_)
                  ·have h1 : s.getD (s.length - 1) 0 < 0 := oT hg2
                   iterate 10 refine z6 ?_
                   refine zs1 ?_
                   refine Wt rfl rfl ?_
                   refine zu4 ?_
                   refine zR ?_
                   rw [hq, pickK, if_pos (.inr (.inl h1))]; exact congrArg i64 (by ((rw [i64w]; unfold wrap64; (try simp only [dnL] at *); omega)))
                  ·have h1 : ¬ s.getD (s.length - 1) 0 < 0 := oF hg2
                   refine zy4 ?_
                   refine Wa 44 rfl (congrArg (fun z => PV.val (Value.int .i64 z)) w1) ?_
                   refine Wv tG rfl rfl rfl (by omega) (iN cInt 1 (fun _ => rfl) 0 (by omega)) ?_
                   refine zy4 ?_
                   refine Wa 49 rfl (congrArg (fun z => PV.val (Value.int .i64 z)) w1) ?_
                   refine zs2 ?_
                   refine Wi rfl (fun hi16 => ?_) (fun hi16 => ?_)
                   ·have h2 : ((s.length - 1 : Nat) : Int) ≤ s.getD (s.length - 1) 0 := oT hi16
                    refine zu4 ?_
                    refine zR ?_
                    rw [hq, pickK, if_pos (.inr (.inr (by omega)))]; exact congrArg i64 (by ((rw [i64w]; unfold wrap64; (try simp only [dnL] at *); omega)))
                   ·have h2 : ¬ ((s.length - 1 : Nat) : Int) ≤ s.getD (s.length - 1) 0 := oF hi16
                    refine Wj ?_
                    refine zp4 ?_
                    refine Wa 58 rfl (congrArg (fun z => PV.val (Value.int .i64 z)) w1) ?_
                    refine Wv tG rfl rfl rfl (by omega) (iN cInt 1 (fun _ => rfl) 0 (by omega)) ?_
                    refine zs3 ?_
                    refine zR ?_
                    rw [hq, pickK, if_neg (by rintro (h | h | h) <;> omega)]; exact congrArg i64 (by ((rw [i64w]; unfold wrap64; (try simp only [dnL] at *); omega)))
                ·refine Wj ?_
                 refine zu1 ?_
                 refine zR ?_
                 rw [show takesK name s = -1 from by unfold takesK; simp only [oF hi1, oF hi2, oF hi3, oF hi4, oF hi5, oF hi6, oF hi7, oF hi8, oF hi9, oF hi10, oF hi11, oF hi12, oF hi13, oF hi14, oF hi15, oF hi17, if_false, or_false]]; rfl
theorem ite_len {c : Prop} [Decidable c] {a b : List Int} {n : Nat} (ha : a.length ≤ n) (hb : b.length ≤ n) : (if c then a else b).length ≤ n := by split <;> assumption
theorem leftK_len (name : Str) (x : List Int) (d : Nat) : (leftK name x d).length ≤ x.length + 6 := by
 unfold leftK
 iterate 10 refine ite_len (by simp) ?_
 refine ite_len (ite_len (by simp) (by simp)) ?_
 refine ite_len (by simp) ?_
 refine ite_len (by simp; omega) ?_
 exact ite_len (by simp; omega) (by simp)
theorem takesK_need (name : Str) (s : List Int) (h : takesK name s ≤ (s.length : Int)) (h0 : 0 ≤ takesK name s) : needK name ≤ (takesK name s).toNat := by
 by_cases h1 : name = [68, 85, 80]
 ·subst h1; exact (show 1 ≤ 1 from Nat.le_refl _)
 by_cases h2 : name = [83, 87, 65, 80]
 ·subst h2; exact (show 2 ≤ 2 from Nat.le_refl _)
 by_cases h3 : name = [79, 86, 69, 82]
 ·subst h3; exact (show 2 ≤ 2 from Nat.le_refl _)
 by_cases h4 : name = [78, 73, 80]
 ·subst h4; exact (show 2 ≤ 2 from Nat.le_refl _)
 by_cases h5 : name = [84, 85, 67, 75]
 ·subst h5; exact (show 2 ≤ 2 from Nat.le_refl _)
 by_cases h6 : name = [82, 79, 84]
 ·subst h6; exact (show 3 ≤ 3 from Nat.le_refl _)
 by_cases h7 : name = [45, 82, 79, 84]
 ·subst h7; exact (show 3 ≤ 3 from Nat.le_refl _)
 by_cases h8 : name = [50, 68, 85, 80]
 ·subst h8; exact (show 2 ≤ 2 from Nat.le_refl _)
 by_cases h9 : name = [50, 83, 87, 65, 80]
 ·subst h9; exact (show 4 ≤ 4 from Nat.le_refl _)
 by_cases h10 : name = [50, 79, 86, 69, 82]
 ·subst h10; exact (show 4 ≤ 4 from Nat.le_refl _)
 by_cases h11 : name = [63, 68, 85, 80]
 ·subst h11; exact (show 1 ≤ 1 from Nat.le_refl _)
 by_cases h12 : name = [68, 69, 80, 84, 72]
 ·subst h12; exact (show 0 ≤ 0 from Nat.le_refl _)
 by_cases h13 : name = [80, 73, 67, 75]
 ·subst h13
  have hp : takesK [80, 73, 67, 75] s = pickK s := rfl
  rw [hp] at h h0 ⊢
  show 2 ≤ _
  unfold pickK at h h0 ⊢
  split at h
  ·omega
  ·rename_i hc
   rw [if_neg hc]; omega
 by_cases h14 : name = [82, 79, 76, 76]
 ·subst h14
  have hp : takesK [82, 79, 76, 76] s = pickK s := rfl
  rw [hp] at h h0 ⊢
  show 2 ≤ _
  unfold pickK at h h0 ⊢
  split at h
  ·omega
  ·rename_i hc
   rw [if_neg hc]; omega
 rw [needK, if_neg h1, if_neg h2, if_neg h3, if_neg h4, if_neg h5, if_neg h6, if_neg h7, if_neg h8, if_neg h9, if_neg h10, if_neg h11, if_neg h12, if_neg h13, if_neg h14]
 exact Nat.zero_le _
theorem ref_Shuffle (name : Str) (s : List Int) (limit : Int) (hs : s.length ≤ 50000) (hm : -9223372036854775808 ≤ limit ∧ limit ≤ 9223372036854775807) : PureC Tryz.prog 31 [str name, sq cInt s, i64 limit] (tStk (shuffleS name s limit)) := by
 refine pW tG (rs := [.tmp 6, .tmp 7, .tmp 8]) Tryz.func31 rfl rfl rfl (by simp) (by simp) (fun B => ?_)
 refine zu3 ?_
 refine zp2 ?_
 refine Wc rfl rfl (dC rfl Tryz.func63 rfl rfl ((ref_takes name s (by omega)) _)) ?_
 refine zs1 ?_
 refine Ws ?_
 refine zu2 ?_
 refine Wi rfl (fun hi1 => ?_) (fun hi1 => ?_)
 ·have h0 : takesK name s < 0 := oT hi1
  refine zu4 ?_
  refine zR ?_
  rw [shuffleS, if_pos h0]; rfl
 ·have h0 : ¬ takesK name s < 0 := oF hi1
  refine Wj ?_
  refine Ws ?_
  refine zu4 ?_
  refine Wi rfl (fun hi2 => ?_) (fun hi2 => ?_)
  ·have h1 : (s.length : Int) < takesK name s := oT hi2
   refine zu4 ?_
   refine zR ?_
   rw [shuffleS, if_neg h0, if_pos h1]; rfl
  ·have h1 : ¬ (s.length : Int) < takesK name s := oF hi2
   have w1 : IntKind.i64.wrap ((s.length : Int) - takesK name s) = ((s.length - (takesK name s).toNat : Nat) : Int) := by ((rw [i64w]; unfold wrap64; (try simp only [dnL] at *); omega))
   have hn := takesK_need name s (by omega) (by omega)
   have hll := leftK_len name (s.drop (s.length - (takesK name s).toNat)) s.length
   refine Wj ?_
   refine Ws ?_
   refine W_drawU [0, 0, 0, 0, 0, 0, 0, 2, 0, 0, 0, 0, 0, 0, 0, 0, 0, 0, 3, 0] [0, 1, 2, 3, 4, 5, 6, 8, 9, 10, 11, 12, 13, 14, 15, 16, 7, 17, 18, 19] mG rfl (by kernel_rfl) ?_
   iterate 6 refine z3 ?_
   refine Xa 27 rfl (congrArg (fun z => PV.val (Value.int .i64 z)) w1) ?_
   refine z4 ?_ (q := (by (simp_all; done)))
   refine Xa 28 rfl (sq_slice cInt 1 (fun _ => rfl) (by omega)) ?_
   refine Xa 28 rfl ((show _ = sq cInt (s.take (s.length - (takesK name s).toNat)) by rw [Int.toNat_natCast, List.drop_zero]; rfl)) ?_
   iterate 6 refine z3 ?_
   refine Xa 35 rfl (congrArg (fun z => PV.val (Value.int .i64 z)) w1) ?_
   refine z4 ?_ (q := (by (simp_all; done)))
   refine Xa 36 rfl (sq_slice cInt 1 (fun _ => rfl) (by omega)) ?_
   refine Xa 36 rfl ((show _ = sq cInt (s.drop (s.length - (takesK name s).toNat)) by rw [List.take_length, Int.toNat_natCast]; rfl)) ?_
   iterate 2 refine z3 ?_
   refine WU_does2 rfl rfl rfl rfl (does_append_clip (lO tG rfl) rfl (lO tG rfl) (lO tG rfl) rfl rfl (by exact ⟨_, rfl⟩) (by exact ⟨rfl, rfl, flatMap_len _ 1 (fun _ => rfl) _, okC_flat _ (fun _ => rfl) _⟩) (by rfl) (by (simp; omega)) (by (simp; omega))) ?_
   refine Xa 29 rfl (sq_none cInt) ?_
   refine Xc rfl rfl rfl rfl (fun _ => dC rfl Tryz.func64 rfl rfl ((ref_left name _ s.length (by simp only [List.length_drop]; omega) (by simp; omega)) _)) ?_
   refine WU_does3 rfl rfl rfl rfl (does_append_own (lO tG rfl) rfl (lO tG rfl) (lO tG rfl) rfl rfl rfl rfl (by simp) (by exact ⟨_, rfl⟩) (by exact ⟨rfl, rfl, flatMap_len _ 1 (fun _ => rfl) _, okC_flat _ (fun _ => rfl) _⟩) (by (simp only [List.length_take]; simp at hll; omega)) (by (simp only [List.length_take]; simp at hll; omega))) ?_
   refine Xa 40 rfl (sq_append cInt) ?_
   refine z3 ?_
   refine WU_nil ?_
   refine Ws ?_
   refine zu4 ?_
   refine Wi rfl (fun hi3 => ?_) (fun hi3 => ?_)
   ·have h2 : limit < ((s.length - (takesK name s).toNat + (leftK name (s.drop (s.length - (takesK name s).toNat)) s.length).length : Nat) : Int) := by (try simp only [dnL] at *); simp only [List.length_append, List.length_take] at hi3; omega
    refine zu4 ?_
    refine zR ?_
    rw [shuffleS, if_neg h0, if_neg h1, if_pos h2]; rfl
   ·have h2 : ¬ limit < ((s.length - (takesK name s).toNat + (leftK name (s.drop (s.length - (takesK name s).toNat)) s.length).length : Nat) : Int) := by (try simp only [dnL] at *); simp only [List.length_append, List.length_take] at hi3; omega
    refine Wj ?_
    refine zu4 ?_
    refine zR ?_
    rw [shuffleS, if_neg h0, if_neg h1, if_neg h2]; rfl
end Go.Proofs.YtphgdofmjpdhaaaGreat
namespace Go.Proofs.YtphgdofmjpdhaaaGreat
open Go.RowKit
set_option maxRecDepth 100000
set_option maxHeartbeats 4000000
theorem shuffle_of {name : Str} {s : List Int} {limit : Int} {tk : Nat} {lv : List Int} (h1 : takesK name s = (tk : Int)) (h2 : leftK name (s.drop (s.length - tk)) s.length = lv) :
  shuffleS name s limit = if s.length < tk then (s, true, -4) else stkLaid s tk lv limit := by
 have e : (takesK name s).toNat = tk := by rw [h1]; rfl
 unfold shuffleS
 rw [e, h2, h1, if_neg (by omega)]
 by_cases h : s.length < tk
 ·rw [if_pos h, if_pos (by omega)]
 ·rw [if_neg h, if_neg (by omega)]
  unfold stkLaid
  rfl
theorem stk_DEPTH (s : List Int) (limit : Int) (hs : s.length ≤ 100000) (hm : -9223372036854775808 ≤ limit ∧ limit ≤ 9223372036854775807) : PureC Tryz.prog 26 [str [68, 69, 80, 84, 72], sq cInt s, i64 limit] (tStk (shuffleS [68, 69, 80, 84, 72] s limit)) := by
 refine pW tG (rs := [.tmp 6, .tmp 7, .tmp 8]) Tryz.func26 rfl rfl rfl (by simp) (by simp) (fun B => ?_)
 refine zu3 ?_
 refine Ws ?_
 refine zu1 ?_
 refine Wl ?_
 refine zp1 ?_
 refine Wa 17 rfl (str_eql _ _) ?_
 refine zs1 ?_
 refine Wt rfl (by decide) ?_
 refine zp4 ?_
 refine Wa 21 rfl (bsL cInt [_] rfl rfl) ?_
 refine z1 ?_
 refine Wc rfl rfl (dC rfl Tryz.func47 rfl rfl ((stk_laid s 0 _ limit hs (by omega) (by simp) hm) _)) ?_
 refine zy5 ?_
 refine zs1 ?_
 refine zR ?_
 rw [shuffle_of (tk := 0) (lv := [(s.length : Int)]) rfl rfl, if_neg (by omega)]; rfl
theorem getD_drop' {s : List Int} {k : Nat} : (s.drop k).getD 0 0 = s.getD k 0 := by unfold List.getD; rw [List.getElem?_drop]; rfl
theorem getD_take' {s : List Int} {k n : Nat} (h : k < n) : (s.take n).getD k 0 = s.getD k 0 := by unfold List.getD; rw [List.getElem?_take, if_pos h]
theorem pick_bad {name : Str} {s : List Int} {limit : Int} {roll : Bool} (hp : takesK name s = pickK s) (hc : s.length = 0 ∨ s.getD (s.length - 1) 0 < 0 ∨ (s.length : Int) - 1 ≤ s.getD (s.length - 1) 0) : stkDeep s roll limit = shuffleS name s limit := by
 have e : pickK s = (s.length : Int) + 1 := by rw [pickK, if_pos hc]
 unfold shuffleS
 rw [hp, e, if_neg (by omega), if_pos (by omega)]
 unfold stkDeep
 rw [if_pos]
 unfold stkPop
 split
 ·exact .inl (by simp)
 ·rename_i h0
  refine .inr ?_
  rcases hc with hc | hc | hc
  ·exact absurd hc h0
  ·exact .inl hc
  ·refine .inr ?_
   simp only [List.length_take]; omega
theorem pick_good {name : Str} {s : List Int} {limit : Int} {roll : Bool} (hp : takesK name s = pickK s) (hl : ∀ x d, leftK name x d = if roll then (x.take (x.length - 1)).drop 1 ++ [xat x 0] else x.take (x.length - 1) ++ [xat x 0])
  (hc : ¬ (s.length = 0 ∨ s.getD (s.length - 1) 0 < 0 ∨ (s.length : Int) - 1 ≤ s.getD (s.length - 1) 0)) : stkDeep s roll limit = shuffleS name s limit := by
 have h0 : s.length ≠ 0 := fun h => hc (.inl h)
 obtain ⟨t, ht⟩ : ∃ t : Nat, s.getD (s.length - 1) 0 = t := ⟨(s.getD (s.length - 1) 0).toNat, by have : ¬ s.getD (s.length - 1) 0 < 0 := fun h => hc (.inr (.inl h)); omega⟩
 have hlt : t + 2 ≤ s.length := by have : ¬ ((s.length : Int) - 1 ≤ s.getD (s.length - 1) 0) := fun h => hc (.inr (.inr h)); omega
 have e : pickK s = ((t + 2 : Nat) : Int) := by rw [pickK, if_neg hc, ht]; rfl
 have hd : (s.drop (s.length - (t + 2))).length = t + 2 := by rw [List.length_drop]; omega
 have hx : xat (s.drop (s.length - (t + 2))) 0 = s.getD (s.length - (t + 2)) 0 := getD_drop'
 have hpop : stkPop s = ((t : Int), s.take (s.length - 1), 0) := by unfold stkPop; rw [if_neg h0, ht]
 rw [shuffle_of (tk := t + 2) (hp.trans e) (hl _ _), if_neg (by omega)]
 unfold stkDeep
 rw [hpop]
 simp only [List.length_take, Int.toNat_natCast, Nat.min_eq_left (show s.length - 1 ≤ s.length by omega)]
 rw [if_neg (by rintro (h | h | h) <;> omega), hd, hx]
 have e1 : s.length - 1 - 1 - t = s.length - (t + 2) := by omega
 rw [e1, getD_take' (by omega)]
 cases roll with
 | true =>
  simp only [if_true]
  congr 2
  rw [List.drop_take, List.drop_take, List.drop_drop]
  have e2 : s.length - (t + 2) + 1 = s.length - (t + 2) + 1 := rfl
  have e3 : s.length - 1 - (s.length - (t + 2) + 1) = t + 2 - 1 - 1 := by omega
  rw [e3]
 | false =>
  simp only [Bool.false_eq_true, if_false]
  unfold stkLaid
  have hl1 : ((s.drop (s.length - (t + 2))).take (t + 2 - 1) ++ [s.getD (s.length - (t + 2)) 0]).length = t + 2 := by rw [List.length_append, List.length_take, hd]; simp
  have e2 : s.length - (t + 2) + ((s.drop (s.length - (t + 2))).take (t + 2 - 1) ++ [s.getD (s.length - (t + 2)) 0]).length = s.length - 1 + [s.getD (s.length - (t + 2)) 0].length := by rw [hl1]; simp; omega
  rw [e2, ← List.append_assoc, ← List.take_add]
  have e3 : s.length - (t + 2) + (t + 2 - 1) = s.length - 1 := by omega
  rw [e3]
theorem pick_shuffle {name : Str} {s : List Int} {limit : Int} {roll : Bool} (hp : takesK name s = pickK s) (hl : ∀ x d, leftK name x d = if roll then (x.take (x.length - 1)).drop 1 ++ [xat x 0] else x.take (x.length - 1) ++ [xat x 0]) :
  stkDeep s roll limit = shuffleS name s limit := by
 by_cases hc : s.length = 0 ∨ s.getD (s.length - 1) 0 < 0 ∨ (s.length : Int) - 1 ≤ s.getD (s.length - 1) 0
 ·exact pick_bad hp hc
 ·exact pick_good hp hl hc
theorem stk_PICK (s : List Int) (limit : Int) (hs : s.length ≤ 100000) (hm : -9223372036854775808 ≤ limit ∧ limit ≤ 9223372036854775807) : PureC Tryz.prog 26 [str [80, 73, 67, 75], sq cInt s, i64 limit] (tStk (stkDeep s false limit)) := by
 refine pW tG (rs := [.tmp 6, .tmp 7, .tmp 8]) Tryz.func26 rfl rfl rfl (by simp) (by simp) (fun B => ?_)
 refine zu3 ?_
 refine Ws ?_
 refine zu1 ?_
 refine Wl ?_
 refine zp1 ?_
 refine Wa 17 rfl (str_eql _ _) ?_
 refine zs1 ?_
 refine Wf rfl (by decide) ?_
 refine Ws ?_
 refine zp1 ?_
 refine Wa 28 rfl (str_eql _ _) ?_
 refine zs1 ?_
 refine Wt rfl (by decide) ?_
 refine Wj ?_
 refine Wt rfl (by decide) ?_
 refine zp3 ?_
 refine Wa 32 rfl (str_eql _ _) ?_
 refine z1 ?_
 refine Wc rfl rfl (dC rfl Tryz.func48 rfl rfl ((stk_deep s _ limit hs hm) _)) ?_
 refine zy5 ?_
 refine zs1 ?_
 refine zR ?_
 rfl
theorem stk_ROLL (s : List Int) (limit : Int) (hs : s.length ≤ 100000) (hm : -9223372036854775808 ≤ limit ∧ limit ≤ 9223372036854775807) : PureC Tryz.prog 26 [str [82, 79, 76, 76], sq cInt s, i64 limit] (tStk (stkDeep s true limit)) := by
 refine pW tG (rs := [.tmp 6, .tmp 7, .tmp 8]) Tryz.func26 rfl rfl rfl (by simp) (by simp) (fun B => ?_)
 refine zu3 ?_
 refine Ws ?_
 refine zu1 ?_
 refine Wl ?_
 refine zp1 ?_
 refine Wa 17 rfl (str_eql _ _) ?_
 refine zs1 ?_
 refine Wf rfl (by decide) ?_
 refine Ws ?_
 refine zp1 ?_
 refine Wa 28 rfl (str_eql _ _) ?_
 refine zs1 ?_
 refine Wf rfl (by decide) ?_
 refine W_region rfl ?_
 refine z1 ?_
 refine Wa 29 rfl (str_eql _ _) ?_
 refine zs1 ?_
 refine Wt rfl (by decide) ?_
 refine zp3 ?_
 refine Wa 32 rfl (str_eql _ _) ?_
 refine z1 ?_
 refine Wc rfl rfl (dC rfl Tryz.func48 rfl rfl ((stk_deep s _ limit hs hm) _)) ?_
 refine zy5 ?_
 refine zs1 ?_
 refine zR ?_
 rfl
def qdupS (s : List Int) (limit : Int) : List Int × Bool × Int :=
 if s.length = 0 then (s, true, -4) else stkLaid s 1 (if s.getD (s.length - 1) 0 = 0 then [xat (s.drop (s.length - 1)) 0] else [xat (s.drop (s.length - 1)) 0, xat (s.drop (s.length - 1)) 0]) limit
theorem stk_QDUP (s : List Int) (limit : Int) (hs : s.length ≤ 100000) (hm : -9223372036854775808 ≤ limit ∧ limit ≤ 9223372036854775807) : PureC Tryz.prog 26 [str [63, 68, 85, 80], sq cInt s, i64 limit] (tStk (qdupS s limit)) := by
 refine pW tG (rs := [.tmp 6, .tmp 7, .tmp 8]) Tryz.func26 rfl rfl rfl (by simp) (by simp) (fun B => ?_)
 refine zu3 ?_
 refine Ws ?_
 refine zu1 ?_
 refine Wl ?_
 refine zp1 ?_
 refine Wa 17 rfl (str_eql _ _) ?_
 refine zs1 ?_
 refine Wf rfl (by decide) ?_
 refine Ws ?_
 refine zp1 ?_
 refine Wa 28 rfl (str_eql _ _) ?_
 refine zs1 ?_
 refine Wf rfl (by decide) ?_
 refine W_region rfl ?_
 refine z1 ?_
 refine Wa 29 rfl (str_eql _ _) ?_
 refine zs1 ?_
 refine Wf rfl (by decide) ?_
 refine Wj ?_
 refine z8 ?_
 refine Wc rfl rfl (dC rfl Tryz.func49 rfl rfl ((stk_shapes) _)) ?_
 refine z1 ?_
 refine Wd rfl rfl (does_lookup (b := true) (e := 106) (key := .s [63, 68, 85, 80]) (by kernel_rfl) (lO tG rfl) (by kernel_rfl) rfl rfl rfl rfl (by kernel_rfl) ((show lkPV shapeK shapeV (.s [63, 68, 85, 80]) (PV.agg [i64 0, str []]) = (PV.agg [i64 0, str []], false) from rfl))) ?_
 refine zy5 ?_
 refine zs1 ?_
 refine Ws ?_
 refine zp2 ?_
 refine Wa 45 rfl (str_eql _ _) ?_
 refine Wn ?_
 refine Wt rfl (by decide) ?_
 refine zu3 ?_
 refine zp4 ?_
 refine Wb 50 rfl (fun hg1 => ?_) (fun hg1 => ?_)
 ·have h0 : ¬ s.length = 0 := by (try simp only [dnL] at *); omega
  have w1 : IntKind.i64.wrap ((s.length : Int) - 1) = ((s.length - 1 : Nat) : Int) := by ((rw [i64w]; unfold wrap64; (try simp only [dnL] at *); omega))
  refine zy4 ?_
  refine Wa 54 rfl (congrArg (fun z => PV.val (Value.int .i64 z)) w1) ?_
  refine Wv tG rfl rfl rfl (by omega) (iN cInt 1 (fun _ => rfl) 0 (by omega)) ?_
  refine zs3 ?_
  refine Wi rfl (fun hi5 => ?_) (fun hi5 => ?_)
  ·have h1 : s.getD (s.length - 1) 0 = 0 := oT hi5
   refine W_region rfl ?_
   refine zs2 ?_
   refine Ws ?_
   refine zu2 ?_
   refine Wf rfl rfl ?_
   refine Wj ?_
   refine Ws ?_
   refine zu5 ?_
   refine Wf rfl (by (simp only [dnL] at *; omega)) ?_
   refine Wj ?_
   refine zp5 ?_
   refine z1 ?_
   refine Wa 74 rfl (congrArg (fun z => PV.val (Value.int .i64 z)) w1) ?_
   refine z2 ?_ (q := (by (simp_all; done)))
   refine Wa 75 rfl (sq_slice cInt 1 (fun _ => rfl) (by omega)) ?_
   refine Wa 75 rfl ((show _ = sq cInt (s.drop (s.length - 1)) by rw [List.take_length, Int.toNat_natCast]; rfl)) ?_
   refine zs1 ?_
   refine zu1 ?_
   refine Ws ?_
   refine zp2 ?_
   refine Wd rfl rfl (does_rangeStr (lO tG rfl) rfl rfl rfl) ?_
   refine Wn ?_
   refine Wl ?_
   refine W_rounds 4 ?_
   show W _ _ _ _ _ _ _
   refine z8 ?_
   refine Wd rfl rfl (does_next rfl rfl rfl (by decide) (by decide)) ?_
   refine zs1 ?_
   refine Ws ?_
   refine Wt rfl rfl ?_
   refine Wj ?_
   refine Wl ?_
   refine zu2 ?_
   refine W_region rfl ?_
   refine zy4 ?_
   refine Wa 85 rfl ((show _ = PV.val (.int .i32 0) from rfl)) ?_
   refine Wv tG rfl rfl rfl (by simp only [List.length_drop]; omega) (iN cInt 1 (fun _ => rfl) 0 (by simp only [List.length_drop]; omega)) ?_
   refine zy2 ?_
   refine Wa 88 rfl (bsL cInt [_] rfl rfl) ?_
   refine Wd rfl rfl (does_append_clip (lO tG rfl) rfl (lO tG rfl) (lO tG rfl) rfl rfl (by exact ⟨_, rfl⟩) (by exact ⟨rfl, rfl, flatMap_len _ 1 (fun _ => rfl) _, okC_flat _ (fun _ => rfl) _⟩) (by rfl) (by ((simp_all; done))) (by ((simp_all; done)))) ?_
   refine Wa 89 rfl (sq_one cInt _) ?_
   refine zs1 ?_
   show W _ _ _ _ _ _ _
   refine z8 ?_
   refine Wd rfl rfl (does_next_end rfl rfl rfl (by decide)) ?_
   refine zs1 ?_
   refine Ws ?_
   refine Wf rfl rfl ?_
   refine W_exit ?_
   refine zp5 ?_
   refine Wc rfl rfl (dC rfl Tryz.func47 rfl rfl ((stk_laid s 1 _ limit hs (by omega) (by simp) hm) _)) ?_
   refine zy5 ?_
   refine zs1 ?_
   refine zR ?_
   rw [qdupS, if_neg h0, if_pos h1]; rfl
  ·have h1 : ¬ s.getD (s.length - 1) 0 = 0 := oF hi5
   refine Wj ?_
   refine Ws ?_
   refine zu2 ?_
   refine Wf rfl rfl ?_
   refine Wj ?_
   refine Ws ?_
   refine zu5 ?_
   refine Wf rfl (by (simp only [dnL] at *; omega)) ?_
   refine Wj ?_
   refine zp5 ?_
   refine z1 ?_
   refine Wa 74 rfl (congrArg (fun z => PV.val (Value.int .i64 z)) w1) ?_
   refine z2 ?_ (q := (by (simp_all; done)))
   refine Wa 75 rfl (sq_slice cInt 1 (fun _ => rfl) (by omega)) ?_
   refine Wa 75 rfl ((show _ = sq cInt (s.drop (s.length - 1)) by rw [List.take_length, Int.toNat_natCast]; rfl)) ?_
   refine zs1 ?_
   refine zu1 ?_
   refine Ws ?_
   refine zp2 ?_
   refine Wd rfl rfl (does_rangeStr (lO tG rfl) rfl rfl rfl) ?_
   refine Wn ?_
   refine Wl ?_
   refine W_rounds 4 ?_
   show W _ _ _ _ _ _ _
   refine z8 ?_
   refine Wd rfl rfl (does_next rfl rfl rfl (by decide) (by decide)) ?_
   refine zs1 ?_
   refine Ws ?_
   refine Wt rfl rfl ?_
   refine Wj ?_
   refine Wl ?_
   refine zu2 ?_
   refine W_region rfl ?_
   refine zy4 ?_
   refine Wa 85 rfl ((show _ = PV.val (.int .i32 0) from rfl)) ?_
   refine Wv tG rfl rfl rfl (by simp only [List.length_drop]; omega) (iN cInt 1 (fun _ => rfl) 0 (by simp only [List.length_drop]; omega)) ?_
   refine zy2 ?_
   refine Wa 88 rfl (bsL cInt [_] rfl rfl) ?_
   refine Wd rfl rfl (does_append_clip (lO tG rfl) rfl (lO tG rfl) (lO tG rfl) rfl rfl (by exact ⟨_, rfl⟩) (by exact ⟨rfl, rfl, flatMap_len _ 1 (fun _ => rfl) _, okC_flat _ (fun _ => rfl) _⟩) (by rfl) (by ((simp_all; done))) (by ((simp_all; done)))) ?_
   refine Wa 89 rfl (sq_one cInt _) ?_
   refine zs1 ?_
   show W _ _ _ _ _ _ _
   refine z8 ?_
   refine Wd rfl rfl (does_next rfl rfl rfl (by decide) (by decide)) ?_
   refine zs1 ?_
   refine Ws ?_
   refine Wt rfl rfl ?_
   refine Wj ?_
   refine Wl ?_
   refine zu2 ?_
   refine W_region rfl ?_
   refine zy4 ?_
   refine Wa 85 rfl ((show _ = PV.val (.int .i32 0) from rfl)) ?_
   refine Wv tG rfl rfl rfl (by simp only [List.length_drop]; omega) (iN cInt 1 (fun _ => rfl) 0 (by simp only [List.length_drop]; omega)) ?_
   refine zy2 ?_
   refine Wa 88 rfl (bsL cInt [_] rfl rfl) ?_
   refine Wd rfl rfl (does_append_own (lO tG rfl) rfl (lO tG rfl) (lO tG rfl) rfl rfl rfl rfl (by simp) (by exact ⟨_, rfl⟩) (by exact ⟨rfl, rfl, flatMap_len _ 1 (fun _ => rfl) _, okC_flat _ (fun _ => rfl) _⟩) (by ((simp_all; done))) (by ((simp_all; done)))) ?_
   refine Wa 89 rfl (sq_append cInt) ?_
   refine zs1 ?_
   show W _ _ _ _ _ _ _
   refine z8 ?_
   refine Wd rfl rfl (does_next_end rfl rfl rfl (by decide)) ?_
   refine zs1 ?_
   refine Ws ?_
   refine Wf rfl rfl ?_
   refine W_exit ?_
   refine zp5 ?_
   refine Wc rfl rfl (dC rfl Tryz.func47 rfl rfl ((stk_laid s 1 _ limit hs (by omega) (by simp) hm) _)) ?_
   refine zy5 ?_
   refine zs1 ?_
   refine zR ?_
   rw [qdupS, if_neg h0, if_neg h1]; rfl
 ·have h0 : s.length = 0 := by (try simp only [dnL] at *); omega
  have w1 : IntKind.i64.wrap ((s.length : Int) - 1) = -1 := by ((rw [i64w]; unfold wrap64; (try simp only [dnL] at *); omega))
  iterate 7 refine z6 ?_
  refine zs1 ?_
  refine Wf rfl rfl ?_
  refine Wj ?_
  refine Ws ?_
  refine zu2 ?_
  refine Wf rfl rfl ?_
  refine Wj ?_
  refine Ws ?_
  refine zu5 ?_
  refine Wt rfl (by (simp only [dnL] at *; omega)) ?_
  refine zu4 ?_
  refine zR ?_
  rw [qdupS, if_pos h0]; rfl
def shufNames : List Str := [[68, 85, 80], [68, 82, 79, 80], [83, 87, 65, 80], [79, 86, 69, 82], [78, 73, 80], [84, 85, 67, 75], [82, 79, 84], [45, 82, 79, 84], [50, 68, 85, 80], [50, 68, 82, 79, 80], [50, 83, 87, 65, 80], [50, 79, 86, 69, 82], [63, 68, 85, 80], [80, 73, 67, 75], [82, 79, 76, 76], [68, 69, 80, 84, 72]]
theorem qdup_shuffle (s : List Int) (limit : Int) : qdupS s limit = shuffleS [63, 68, 85, 80] s limit := by
 rw [shuffle_of (tk := 1) (lv := if xat (s.drop (s.length - 1)) 0 = 0 then s.drop (s.length - 1) else [xat (s.drop (s.length - 1)) 0, xat (s.drop (s.length - 1)) 0]) rfl rfl]
 unfold qdupS
 by_cases h0 : s.length = 0
 ·rw [if_pos h0, if_pos (show s.length < 1 by omega)]
 ·rw [if_neg h0, if_neg (show ¬ s.length < 1 by omega)]
  have hx : xat (s.drop (s.length - 1)) 0 = s.getD (s.length - 1) 0 := getD_drop'
  have hd : s.drop (s.length - 1) = [s.getD (s.length - 1) 0] := by
   rw [List.drop_eq_getElem_cons (by omega), show s.length - 1 + 1 = s.length by omega, List.drop_length]
   simp [List.getD, List.getElem?_eq_getElem (show s.length - 1 < s.length by omega)]
  rw [hx, hd]
theorem stk_Shuffle (name : Str) (hn : name ∈ shufNames) (s : List Int) (limit : Int) (hs : s.length ≤ 100000) (hm : -9223372036854775808 ≤ limit ∧ limit ≤ 9223372036854775807) : PureC Tryz.prog 26 [str name, sq cInt s, i64 limit] (tStk (shuffleS name s limit)) := by
 simp only [shufNames, List.mem_cons, List.not_mem_nil, or_false] at hn
 rcases hn with rfl | rfl | rfl | rfl | rfl | rfl | rfl | rfl | rfl | rfl | rfl | rfl | rfl | rfl | rfl | rfl
 ·rw [shuffle_of (tk := 1) (lv := ([97, 97] : Str).map fun c => (s.drop (s.length - 1)).getD (c.toNat - 97) 0) rfl rfl]
  exact stk_word _ s limit 1 [97, 97] hs hm (by decide) (by decide) (by decide) (by decide) rfl (by decide) (by decide) (by decide)
 ·rw [shuffle_of (tk := 1) (lv := ([] : Str).map fun c => (s.drop (s.length - 1)).getD (c.toNat - 97) 0) rfl rfl]
  exact stk_word _ s limit 1 [] hs hm (by decide) (by decide) (by decide) (by decide) rfl (by decide) (by decide) (by decide)
 ·rw [shuffle_of (tk := 2) (lv := ([98, 97] : Str).map fun c => (s.drop (s.length - 2)).getD (c.toNat - 97) 0) rfl rfl]
  exact stk_word _ s limit 2 [98, 97] hs hm (by decide) (by decide) (by decide) (by decide) rfl (by decide) (by decide) (by decide)
 ·rw [shuffle_of (tk := 2) (lv := ([97, 98, 97] : Str).map fun c => (s.drop (s.length - 2)).getD (c.toNat - 97) 0) rfl rfl]
  exact stk_word _ s limit 2 [97, 98, 97] hs hm (by decide) (by decide) (by decide) (by decide) rfl (by decide) (by decide) (by decide)
 ·rw [shuffle_of (tk := 2) (lv := ([98] : Str).map fun c => (s.drop (s.length - 2)).getD (c.toNat - 97) 0) rfl rfl]
  exact stk_word _ s limit 2 [98] hs hm (by decide) (by decide) (by decide) (by decide) rfl (by decide) (by decide) (by decide)
 ·rw [shuffle_of (tk := 2) (lv := ([98, 97, 98] : Str).map fun c => (s.drop (s.length - 2)).getD (c.toNat - 97) 0) rfl rfl]
  exact stk_word _ s limit 2 [98, 97, 98] hs hm (by decide) (by decide) (by decide) (by decide) rfl (by decide) (by decide) (by decide)
 ·rw [shuffle_of (tk := 3) (lv := ([98, 99, 97] : Str).map fun c => (s.drop (s.length - 3)).getD (c.toNat - 97) 0) rfl rfl]
  exact stk_word _ s limit 3 [98, 99, 97] hs hm (by decide) (by decide) (by decide) (by decide) rfl (by decide) (by decide) (by decide)
 ·rw [shuffle_of (tk := 3) (lv := ([99, 97, 98] : Str).map fun c => (s.drop (s.length - 3)).getD (c.toNat - 97) 0) rfl rfl]
  exact stk_word _ s limit 3 [99, 97, 98] hs hm (by decide) (by decide) (by decide) (by decide) rfl (by decide) (by decide) (by decide)
 ·rw [shuffle_of (tk := 2) (lv := ([97, 98, 97, 98] : Str).map fun c => (s.drop (s.length - 2)).getD (c.toNat - 97) 0) rfl rfl]
  exact stk_word _ s limit 2 [97, 98, 97, 98] hs hm (by decide) (by decide) (by decide) (by decide) rfl (by decide) (by decide) (by decide)
 ·rw [shuffle_of (tk := 2) (lv := ([] : Str).map fun c => (s.drop (s.length - 2)).getD (c.toNat - 97) 0) rfl rfl]
  exact stk_word _ s limit 2 [] hs hm (by decide) (by decide) (by decide) (by decide) rfl (by decide) (by decide) (by decide)
 ·rw [shuffle_of (tk := 4) (lv := ([99, 100, 97, 98] : Str).map fun c => (s.drop (s.length - 4)).getD (c.toNat - 97) 0) rfl rfl]
  exact stk_word _ s limit 4 [99, 100, 97, 98] hs hm (by decide) (by decide) (by decide) (by decide) rfl (by decide) (by decide) (by decide)
 ·rw [shuffle_of (tk := 4) (lv := ([97, 98, 99, 100, 97, 98] : Str).map fun c => (s.drop (s.length - 4)).getD (c.toNat - 97) 0) rfl rfl]
  exact stk_word _ s limit 4 [97, 98, 99, 100, 97, 98] hs hm (by decide) (by decide) (by decide) (by decide) rfl (by decide) (by decide) (by decide)
 ·rw [← qdup_shuffle]; exact stk_QDUP s limit hs hm
 ·rw [← pick_shuffle (name := [80, 73, 67, 75]) (roll := false) rfl (fun _ _ => rfl)]; exact stk_PICK s limit hs hm
 ·rw [← pick_shuffle (name := [82, 79, 76, 76]) (roll := true) rfl (fun _ _ => rfl)]; exact stk_ROLL s limit hs hm
 ·exact stk_DEPTH s limit hs hm
end Go.Proofs.YtphgdofmjpdhaaaGreat
namespace Go.Proofs.YtphgdofmjpdhaaaGreat
open Go.RowKit
set_option maxRecDepth 100000
set_option maxHeartbeats 4000000
theorem prim_Does (n : Int) : PureC Tryz.prog 16 [i64 n] (boo (decide (23 ≤ n ∧ n ≤ 129))) := by
 refine pW tG (rs := [.tmp 2]) Tryz.func16 rfl rfl rfl (by simp) (by simp) (fun B => ?_)
 refine zu1 ?_
 refine zp3 ?_
 refine Wb 5 rfl (fun hg1 => ?_) (fun hg1 => ?_)
 ·have h0 : 23 ≤ n := oT hg1
  refine zs4 ?_
  refine zR ?_
  exact congrArg boo (by rw [Bool.eq_iff_iff, decide_eq_true_eq, decide_eq_true_eq]; omega)
 ·have h0 : ¬ 23 ≤ n := oF hg1
  iterate 2 refine z6 ?_
  refine zs2 ?_
  refine zR ?_
  exact congrArg boo (decide_eq_false (by omega)).symm
theorem fd_1 (name : Str) (x : List Int) (hx : XOk 2 x) : PureC Tryz.prog 51 ([sq cInt x] ++ [.row [str name]]) (tLv ([(twoS name (xat x 0) (xat x 1)).1], (twoS name (xat x 0) (xat x 1)).2.2)) := by
 have hl := hx.len
 refine pW tG (rs := [.tmp 3, .tmp 4]) Tryz.func51 rfl rfl rfl (by simp) (by simp) (fun B => ?_)
 refine zu2 ?_
 refine Ws ?_
 refine W_drawU [1, 0, 0, 1, 0, 0, 1, 0, 0, 0, 0, 0, 0, 0, 0] [0, 1, 2, 3, 4, 5, 6, 7, 8, 9, 10, 11, 12, 13, 14] mG rfl (by kernel_rfl) ?_
 refine z5 ?_
 refine z3 ?_
 refine Xi tG rfl rfl rfl rfl (fun _ => rfl) (by omega) (iN cInt 1 (fun _ => rfl) 0 (by (simp only [dnL] at *; omega))) ?_
 refine z5 ?_
 refine z3 ?_
 refine Xi tG rfl rfl rfl rfl (fun _ => rfl) (by omega) (iN cInt 1 (fun _ => rfl) 0 (by (simp only [dnL] at *; omega))) ?_
 refine z5 ?_
 refine Xc rfl rfl rfl rfl (fun _ => dC rfl Tryz.func52 rfl rfl ((alu_Two name _ _ (hx.fit 1)) _)) ?_
 iterate 7 refine z3 ?_
 refine WU_nil ?_
 refine zp2 ?_
 refine Wa 21 rfl (bsL cInt [_] rfl rfl) ?_
 refine zs3 ?_
 refine zR ?_
 rfl
theorem fd_2 (name : Str) (x : List Int) (hx : XOk 1 x) : PureC Tryz.prog 53 ([sq cInt x] ++ [.row [str name]]) (tLv ([(oneS name (xat x 0)).1], 0)) := by
 have hl := hx.len
 refine pW tG (rs := [.tmp 3, .tmp 4]) Tryz.func53 rfl rfl rfl (by simp) (by simp) (fun B => ?_)
 refine zu2 ?_
 refine Ws ?_
 refine W_drawU [1, 0, 0, 1, 0, 0, 0, 0, 0, 0] [0, 1, 2, 3, 4, 5, 6, 7, 8, 9] mG rfl (by kernel_rfl) ?_
 refine z5 ?_
 refine z3 ?_
 refine Xi tG rfl rfl rfl rfl (fun _ => rfl) (by omega) (iN cInt 1 (fun _ => rfl) 0 (by (simp only [dnL] at *; omega))) ?_
 refine z5 ?_
 refine Xc rfl rfl rfl rfl (fun _ => dC rfl Tryz.func54 rfl rfl ((alu_One name _ (hx.fit 0)) _)) ?_
 iterate 5 refine z3 ?_
 refine WU_nil ?_
 refine zp2 ?_
 refine Wa 16 rfl (bsL cInt [_] rfl rfl) ?_
 refine Wc rfl rfl (dC rfl Tryz.func55 rfl rfl ((prim_told _) _)) ?_
 refine zs4 ?_
 refine zR ?_
 rfl
theorem found_two (n : Int) (name : Str) (hn : n ≤ 58) : PureC Tryz.prog 27 [i64 n, str name] (deedP 2 80 [.row [fnP 51 [.row [str name]]]]) := by
 refine pW tG (rs := [.cell 4 75]) Tryz.func27 rfl rfl rfl (by simp) (by simp) (fun B => ?_)
 refine zp1 ?_
 refine WO_freezeP 3 _ rfl rfl rfl ?_
 refine zs1 ?_
 refine Ws ?_
 refine Wl ?_
 refine zu3 ?_
 refine Wt rfl (by exact decide_eq_true hn) ?_
 refine zp1 ?_
 refine Wc rfl rfl (dC rfl Tryz.func50 rfl rfl ((mk_pure 2 51 [.row [str name]] (by simp)) _)) ?_
 refine zs1 ?_
 refine zR ?_
 rfl
theorem found_one (n : Int) (name : Str) (h0 : 58 < n) (hn : n ≤ 72) : PureC Tryz.prog 27 [i64 n, str name] (deedP 1 80 [.row [fnP 53 [.row [str name]]]]) := by
 refine pW tG (rs := [.cell 4 75]) Tryz.func27 rfl rfl rfl (by simp) (by simp) (fun B => ?_)
 refine zp1 ?_
 refine WO_freezeP 3 _ rfl rfl rfl ?_
 refine zs1 ?_
 refine Ws ?_
 refine Wl ?_
 refine zu3 ?_
 refine Wf rfl (by exact decide_eq_false (by omega)) ?_
 refine zu3 ?_
 refine Wt rfl (by exact decide_eq_true hn) ?_
 refine zp1 ?_
 refine Wc rfl rfl (dC rfl Tryz.func50 rfl rfl ((mk_pure 1 53 [.row [str name]] (by simp)) _)) ?_
 refine zs1 ?_
 refine zR ?_
 rfl
def doR (v : VVm) (k : Nat) (r : VVm × List Int × Int) : VVm × Int :=
 if v.d.length < k then (v, -4) else if r.2.2 ≠ 0 then (v, r.2.2) else
 if v.conf.data < ((v.d.length - k + r.2.1.length : Nat) : Int) then (v, -3) else ({ r.1 with d := v.d.take (v.d.length - k) ++ r.2.1 }, 0)
theorem do_bad (v : VVm) (n : Int) (hn : ¬ (23 ≤ n ∧ n ≤ 129)) : PureC Tryz.prog 14 [eVm v, i64 n] (tVm (v, -24)) := by
 refine pW tG (rs := [.cell 4 36, .tmp 5]) Tryz.func14 rfl rfl rfl (by simp) (by simp) (fun B => ?_)
 refine zu3 ?_
 refine Ws ?_
 refine zp1 ?_
 refine Wc rfl rfl (dC rfl Tryz.func16 rfl rfl ((prim_Does n) _)) ?_
 refine zs1 ?_
 refine Wt rfl (by rw [decide_eq_false hn]; rfl) ?_
 refine zu3 ?_
 refine zR ?_
 rfl
theorem names_130 : names.length = 130 := names_len
theorem do_shuffle (v : VVm) (n : Int) (h0 : 23 ≤ n) (h1 : n ≤ 38) (hs : names.getD n.toNat [] ∈ shufNames) (hd : v.d.length ≤ 100000) (hm : Fit64 v.conf.data) :
  PureC Tryz.prog 14 [eVm v, i64 n] (tVm ({ v with d := (shuffleS (names.getD n.toNat []) v.d v.conf.data).1 }, (shuffleS (names.getD n.toNat []) v.d v.conf.data).2.2)) := by
 have hN := names_130
 refine pW tG (rs := [.cell 4 36, .tmp 5]) Tryz.func14 rfl rfl rfl (by simp) (by simp) (fun B => ?_)
 refine zu3 ?_
 refine Ws ?_
 refine zp1 ?_
 refine Wc rfl rfl (dC rfl Tryz.func16 rfl rfl ((prim_Does n) _)) ?_
 refine zs1 ?_
 refine Wf rfl (by rw [decide_eq_true ⟨h0, by omega⟩]; rfl) ?_
 refine Wj ?_
 refine z8 ?_
 refine Wc rfl rfl (dC rfl Tryz.func25 rfl rfl ((vm_Names) _)) ?_
 refine z1 ?_
 refine Wv tG rfl rfl rfl (by omega) (iR cStr 1 (fun _ => rfl) [] (by omega)) ?_
 refine zs2 ?_
 refine zu3 ?_
 refine Ws ?_
 refine zu2 ?_
 refine Wt rfl (by exact decide_eq_true h1) ?_
 refine zp5 ?_
 refine z1 ?_
 refine Wc rfl rfl (dC rfl Tryz.func26 rfl rfl ((stk_Shuffle _ hs _ _ hd hm) _)) ?_
 refine zy5 ?_
 refine zs2 ?_
 refine zu3 ?_
 refine zu4 ?_
 refine zR ?_
 rfl
theorem do_deed (v : VVm) (n : Int) (k : Nat) (f : FuncId) (cap : List PV) (r : VVm × List Int × Int) (h0 : 39 ≤ n) (h1 : n ≤ 129) (hdl : v.d.length ≤ 100000) (hm : Fit64 v.conf.data) (hk : k ≤ 10) (hc : FlatL cap)
  (hf : PureC Tryz.prog 27 [i64 n, str (names.getD n.toNat [])] (deedP k f cap)) (hr : r.2.1.length ≤ 10)
  (hd : k ≤ v.d.length → ∀ (H : List Ob) (i : Nat), H[i]? = some (.cells (cVm v) 36) → Callable Tryz.prog f (.ptr i 0 :: ([sq cInt (v.d.drop (v.d.length - k))] ++ cap)) H (tLv r.2) (H.set i (.cells (cVm r.1) 36))) :
  PureC Tryz.prog 14 [eVm v, i64 n] (tVm (doR v k r)) := by
 have hN := names_130
 have ht : (v.d.take (v.d.length - k)).length = v.d.length - k := by rw [List.length_take]; omega
 refine pW tG (rs := [.cell 4 36, .tmp 5]) Tryz.func14 rfl rfl rfl (by simp) (by simp) (fun B => ?_)
 refine zu3 ?_
 refine Ws ?_
 refine zp1 ?_
 refine Wc rfl rfl (dC rfl Tryz.func16 rfl rfl ((prim_Does n) _)) ?_
 refine zs1 ?_
 refine Wf rfl (by rw [decide_eq_true ⟨by omega, h1⟩]; rfl) ?_
 refine Wj ?_
 refine z8 ?_
 refine Wc rfl rfl (dC rfl Tryz.func25 rfl rfl ((vm_Names) _)) ?_
 refine z1 ?_
 refine Wv tG rfl rfl rfl (by omega) (iR cStr 1 (fun _ => rfl) [] (by omega)) ?_
 refine zs2 ?_
 refine zu3 ?_
 refine Ws ?_
 refine zu2 ?_
 refine Wf rfl (by exact decide_eq_false (by omega)) ?_
 refine Wj ?_
 refine zp2 ?_
 refine Wc rfl rfl (dC rfl Tryz.func27 rfl rfl ((hf) _)) ?_
 refine zs2 ?_
 refine Ws ?_
 refine zp5 ?_
 refine zs1 ?_
 refine Wi rfl (fun hi3 => ?_) (fun hi3 => ?_)
 ·have q0 : v.d.length < k := by (try simp only [dnL] at *); omega
  refine zu3 ?_
  refine zR ?_
  rw [doR, if_pos q0]; rfl
 ·have q0 : ¬ v.d.length < k := by (try simp only [dnL] at *); omega
  have w1 : IntKind.i64.wrap ((v.d.length : Int) - (k : Int)) = ((v.d.length - k : Nat) : Int) := by ((rw [i64w]; unfold wrap64; (try simp only [dnL] at *); omega))
  have w2 : IntKind.i64.wrap (((v.d.length - k : Nat) : Int) + (r.2.1.length : Int)) = ((v.d.length - k + r.2.1.length : Nat) : Int) := by ((rw [i64w]; unfold wrap64; (try simp only [dnL] at *); omega))
  refine Wj ?_
  refine zp5 ?_
  refine z1 ?_
  refine Wa 56 rfl (congrArg (fun z => PV.val (Value.int .i64 z)) w1) ?_
  refine zs1 ?_
  refine Ws ?_
  refine V.W_drawU [0, 10, 0, 4, 0, 0, 0, 9, 0, 0, 0, 0, 0] [0, 1, 2, 3, 4, 5, 6, 7, 8, 9, 10, 11, 12] mG rfl (by kernel_rfl) ?_
  refine V.z3 ?_
  refine V.WU_rd 3 rfl rfl rfl rfl rfl (fun H2 h2 => does_load_ptr (lO tG rfl) rfl rfl h2 rfl) ?_
  refine V.z3 ?_
  refine V.WU_rd 0 rfl rfl rfl rfl rfl (fun H2 h2 => does_load_ptr (lO tG rfl) rfl rfl h2 rfl) ?_
  refine V.z3 ?_
  refine V.z4 ?_ (q := (by (simp_all; done)))
  refine V.Xa 63 rfl (sq_slice cInt 1 (fun _ => rfl) (by omega)) ?_
  refine V.Xa 63 rfl ((show _ = sq cInt (v.d.drop (v.d.length - k)) by rw [List.take_length, Int.toNat_natCast]; rfl)) ?_
  refine V.Xc rfl rfl rfl rfl (fun _ => dC rfl Tryz.func28 rfl rfl ((clone_ints _ (by simp; omega)) _)) ?_
  refine V.WU_wrC 2 rfl rfl rfl rfl (doesCWs rfl rfl (hd (by omega) _ 2 rfl)) rfl ?_
  iterate 5 refine V.z3 ?_
  refine V.WU_nil ?_
  refine Ws ?_
  refine zu2 ?_
  refine Wi rfl (fun hi4 => ?_) (fun hi4 => ?_)
  ·have q1 : r.2.2 ≠ 0 := bne_iff_ne.1 hi4
   refine zu4 ?_
   refine zR ?_
   rw [doR, if_neg q0, if_pos q1]; rfl
  ·have q1 : ¬ r.2.2 ≠ 0 := fun h => h (bne_eq_false_iff_eq.1 hi4)
   refine Wj ?_
   refine Ws ?_
   refine zp4 ?_
   refine Wa 75 rfl (congrArg (fun z => PV.val (Value.int .i64 z)) w2) ?_
   refine zs4 ?_
   refine Wi rfl (fun hi5 => ?_) (fun hi5 => ?_)
   ·have q2 : v.conf.data < ((v.d.length - k + r.2.1.length : Nat) : Int) := oT hi5
    refine zu3 ?_
    refine zR ?_
    rw [doR, if_neg q0, if_neg q1, if_pos q2]; rfl
   ·have q2 : ¬ v.conf.data < ((v.d.length - k + r.2.1.length : Nat) : Int) := oF hi5
    refine Wj ?_
    refine zp3 ?_
    refine z2 ?_ (q := (by (simp_all; done)))
    refine Wa 84 rfl (sq_slice cInt 1 (fun _ => rfl) (by omega)) ?_
    refine Wa 84 rfl ((show _ = sq cInt (v.d.take (v.d.length - k)) by rw [Int.toNat_natCast, List.drop_zero]; rfl)) ?_
    refine zy2 ?_
    refine Wa 86 rfl (bsL cRow [_, _] rfl rfl) ?_
    refine Wc rfl rfl (dC rfl Tryz.func29 rfl rfl ((concat2 _ _ (by rw [ht]; omega) (by omega)) _)) ?_
    refine zs2 ?_
    refine zu3 ?_
    refine zR ?_
    rw [doR, if_neg q0, if_neg q1, if_neg q2]; rfl
end Go.Proofs.YtphgdofmjpdhaaaGreat
namespace Go.Proofs.YtphgdofmjpdhaaaGreat
open Go.RowKit
set_option maxRecDepth 100000
set_option maxHeartbeats 4000000
structure VmOk (v : VVm) : Prop where
 mem : MemOk v.mem
 old : v.mem.old.length + 1 ≤ 1000000
 here : HereOk v.mem v.here
 out2 : 0 ≤ v.conf.out ∧ v.conf.out ≤ 900000
 out : v.out.length ≤ 1000000
 pic : v.pic.b.length ≤ 1000000
 req : v.req.length ≤ 100000
 hand : v.hand.length ≤ 1000000
 d : v.d.length ≤ 50000
 fit : ∀ a ∈ v.d, Fit64 a
 data : Fit64 v.conf.data
theorem VmOk.out1 {v : VVm} (h : VmOk v) : 0 ≤ v.conf.out ∧ v.conf.out ≤ 1000000 := by have := h.out2; omega
theorem VmOk.x {v : VVm} (h : VmOk v) {k : Nat} (hk : k ≤ v.d.length) : XOk k (v.d.drop (v.d.length - k)) :=
 ⟨by rw [List.length_drop]; omega, fun a ha => h.fit a (List.mem_of_mem_drop ha)⟩
theorem memText_len2 (m : VMem) (a n : Int) : (memText m a n).1.length ≤ m.b.length := by
 unfold memText
 split
 ·simp only [List.length_take, List.length_drop]; omega
 ·simp
theorem digL_len2 (b : Nat) : ∀ k u, (digL b k u).length ≤ k + 1 := by
 intro k
 induction k with
 | zero => intro u; simp [digL]
 | succ k ih => intro u; unfold digL; split <;> simp; have := ih (u / b); omega
theorem ushowL_len2 (u b : Nat) : (ushowL u b).length ≤ 900 := by
 unfold ushowL
 have := digL_len2 b 64 u
 simp only [List.length_reverse, List.length_map]
 omega
theorem showS_len (n b : Int) : (showS n b).1.length ≤ 1000 := by
 unfold showS
 split
 ·simp only
  split
  ·have := ushowL_len2 (U n) b.toNat; omega
  ·have := ushowL_len2 (U (wrap64 (-n))) b.toNat; simp only [List.length_cons]; omega
 ·simp
theorem doS_deed {v : VVm} {n : Int} (h0 : 39 ≤ n) (h1 : n ≤ 129) : doS v n = doR v (takesS n (names.getD n.toNat [])) (doneS v n (names.getD n.toNat []) (v.d.drop (v.d.length - takesS n (names.getD n.toNat [])))) := by
 unfold doS doR
 rw [if_neg (by omega)]
 simp only
 rw [if_neg (by omega)]
theorem doR_congr {v : VVm} {k : Nat} {r r' : VVm × List Int × Int} (h1 : r'.2.2 = r.2.2) (h2 : r.2.2 = 0 → r' = r) : doR v k r' = doR v k r := by
 by_cases h : r.2.2 = 0
 ·rw [h2 h]
 ·unfold doR
  rw [h1]
  simp only [h, ne_eq, not_false_eq_true, if_true]
theorem body_code (v : VVm) (x : List Int) : (v, pBodyP v x).2.2 = (pBody v x).2.2 := by
 unfold pBodyP pBody
 split <;> rfl
theorem body_eq (v : VVm) (x : List Int) (h : (pBody v x).2.2 = 0) : (v, pBodyP v x) = pBody v x := by
 unfold pBodyP pBody at *
 split at h
 ·cases h
 ·rename_i hc; rw [if_neg hc, if_neg hc]
theorem ushowS_len (n b : Int) : (ushowS n b).1.length ≤ 1000 := by
 unfold ushowS
 split
 ·have := ushowL_len2 (U n) b.toNat; simp only; omega
 ·simp
theorem do_two (v : VVm) (hv : VmOk v) (n : Int) (h0 : 39 ≤ n) (h1 : n ≤ 58) : PureC Tryz.prog 14 [eVm v, i64 n] (tVm (doS v n)) := by
 have hk : takesS n (names.getD n.toNat []) = 2 := by unfold takesS; rw [if_pos h1]
 rw [doS_deed h0 (by omega), hk]
 have e : ∀ x, doneS v n (names.getD n.toNat []) x = (v, [(twoS (names.getD n.toNat []) (xat x 0) (xat x 1)).1], (twoS (names.getD n.toNat []) (xat x 0) (xat x 1)).2.2) := fun x => by unfold doneS; rw [if_pos h1]
 rw [e]
 exact do_deed v n 2 80 _ _ h0 (by omega) (by have := hv.d; omega) hv.data (by omega) (by simp) (found_two n _ h1) (by simp) (fun hk H i hi => ⟨⟨_, Tryz.func80, rfl, rfl⟩, d_pure 51 [.row [str (names.getD n.toNat [])]] v _ _ (by simp) (fun H => ⟨⟨_, Tryz.func51, rfl, rfl⟩, fd_1 _ _ (hv.x hk) H⟩) H i hi⟩)
theorem do_one (v : VVm) (hv : VmOk v) (n : Int) (h0 : 58 < n) (h1 : n ≤ 72) : PureC Tryz.prog 14 [eVm v, i64 n] (tVm (doS v n)) := by
 have hk : takesS n (names.getD n.toNat []) = 1 := by unfold takesS; rw [if_neg (by omega), if_pos h1]
 rw [doS_deed (by omega) (by omega), hk]
 have e : ∀ x, doneS v n (names.getD n.toNat []) x = (v, [(oneS (names.getD n.toNat []) (xat x 0)).1], 0) := fun x => by unfold doneS; rw [if_neg (by omega), if_pos h1]
 rw [e]
 exact do_deed v n 1 80 _ _ (by omega) (by omega) (by have := hv.d; omega) hv.data (by omega) (by simp) (found_one n _ h0 h1) (by simp) (fun hk H i hi => ⟨⟨_, Tryz.func80, rfl, rfl⟩, d_pure 53 [.row [str (names.getD n.toNat [])]] v _ _ (by simp) (fun H => ⟨⟨_, Tryz.func53, rfl, rfl⟩, fd_2 _ _ (hv.x hk) H⟩) H i hi⟩)
theorem ds_73 (v : VVm) (x : List Int) : doneS v 73 [47, 77, 79, 68] x = (v, pDivMod x) := by kernel_rfl
theorem do_73 (v : VVm) (hv : VmOk v) : PureC Tryz.prog 14 [eVm v, i64 73] (tVm (doS v 73)) := by
 have hk : takesS 73 (names.getD (73 : Int).toNat []) = 2 := by kernel_rfl
 have hn : names.getD (73 : Int).toNat [] = [47, 77, 79, 68] := by kernel_rfl
 rw [doS_deed (by decide) (by decide), hk, hn, ds_73]
 refine do_deed v 73 2 80 [.row [fnP 89 capA]] _ (by decide) (by decide) (by have := hv.d; omega) hv.data (by decide) (by simp) (by rw [hn]; exact found_rk 73 _ _ _ _ (by decide) (by simp)  rfl) (by (show List.length _ ≤ _; simp [pFetch, pFetchB, pPut, pLay, pPic, pDig, pAll, pCount, pDivMod, pStarMod, pStar, pUM, pM, pUMod, pSRem, pFMod, pSD, pWithin, pBodyP])) (fun hk H i hi => ?_)
 have hx := hv.x hk
 generalize v.d.drop (v.d.length - 2) = x at hx ⊢
 exact ⟨⟨_, Tryz.func80, rfl, rfl⟩, d_pure 89 capA v x (v, pDivMod x).2 (by simp) (fun H => ⟨⟨_, Tryz.func89, rfl, rfl⟩, rk_3 x hx H⟩) H i hi⟩
theorem ds_75 (v : VVm) (x : List Int) : doneS v 75 [42, 47, 77, 79, 68] x = (v, pStarMod x) := by kernel_rfl
theorem do_75 (v : VVm) (hv : VmOk v) : PureC Tryz.prog 14 [eVm v, i64 75] (tVm (doS v 75)) := by
 have hk : takesS 75 (names.getD (75 : Int).toNat []) = 3 := by kernel_rfl
 have hn : names.getD (75 : Int).toNat [] = [42, 47, 77, 79, 68] := by kernel_rfl
 rw [doS_deed (by decide) (by decide), hk, hn, ds_75]
 refine do_deed v 75 3 80 [.row [fnP 90 capAB]] _ (by decide) (by decide) (by have := hv.d; omega) hv.data (by decide) (by simp) (by rw [hn]; exact found_rk 75 _ _ _ _ (by decide) (by simp)  rfl) (by (show List.length _ ≤ _; simp [pFetch, pFetchB, pPut, pLay, pPic, pDig, pAll, pCount, pDivMod, pStarMod, pStar, pUM, pM, pUMod, pSRem, pFMod, pSD, pWithin, pBodyP])) (fun hk H i hi => ?_)
 have hx := hv.x hk
 generalize v.d.drop (v.d.length - 3) = x at hx ⊢
 exact ⟨⟨_, Tryz.func80, rfl, rfl⟩, d_pure 90 capAB v x (v, pStarMod x).2 (by simp) (fun H => ⟨⟨_, Tryz.func90, rfl, rfl⟩, rk_4 x hx H⟩) H i hi⟩
theorem ds_74 (v : VVm) (x : List Int) : doneS v 74 [42, 47] x = (v, pStar x) := by kernel_rfl
theorem do_74 (v : VVm) (hv : VmOk v) : PureC Tryz.prog 14 [eVm v, i64 74] (tVm (doS v 74)) := by
 have hk : takesS 74 (names.getD (74 : Int).toNat []) = 3 := by kernel_rfl
 have hn : names.getD (74 : Int).toNat [] = [42, 47] := by kernel_rfl
 rw [doS_deed (by decide) (by decide), hk, hn, ds_74]
 refine do_deed v 74 3 80 [.row [fnP 91 capB]] _ (by decide) (by decide) (by have := hv.d; omega) hv.data (by decide) (by simp) (by rw [hn]; exact found_rk 74 _ _ _ _ (by decide) (by simp)  rfl) (by (show List.length _ ≤ _; simp [pFetch, pFetchB, pPut, pLay, pPic, pDig, pAll, pCount, pDivMod, pStarMod, pStar, pUM, pM, pUMod, pSRem, pFMod, pSD, pWithin, pBodyP])) (fun hk H i hi => ?_)
 have hx := hv.x hk
 generalize v.d.drop (v.d.length - 3) = x at hx ⊢
 exact ⟨⟨_, Tryz.func80, rfl, rfl⟩, d_pure 91 capB v x (v, pStar x).2 (by simp) (fun H => ⟨⟨_, Tryz.func91, rfl, rfl⟩, rk_5 x hx H⟩) H i hi⟩
theorem ds_76 (v : VVm) (x : List Int) : doneS v 76 [85, 77, 42] x = (v, pUM x) := by kernel_rfl
theorem do_76 (v : VVm) (hv : VmOk v) : PureC Tryz.prog 14 [eVm v, i64 76] (tVm (doS v 76)) := by
 have hk : takesS 76 (names.getD (76 : Int).toNat []) = 2 := by kernel_rfl
 have hn : names.getD (76 : Int).toNat [] = [85, 77, 42] := by kernel_rfl
 rw [doS_deed (by decide) (by decide), hk, hn, ds_76]
 refine do_deed v 76 2 80 [.row [fnP 92 []]] _ (by decide) (by decide) (by have := hv.d; omega) hv.data (by decide) (by simp) (by rw [hn]; exact found_rk 76 _ _ _ _ (by decide) (by simp)  rfl) (by (show List.length _ ≤ _; simp [pFetch, pFetchB, pPut, pLay, pPic, pDig, pAll, pCount, pDivMod, pStarMod, pStar, pUM, pM, pUMod, pSRem, pFMod, pSD, pWithin, pBodyP])) (fun hk H i hi => ?_)
 have hx := hv.x hk
 generalize v.d.drop (v.d.length - 2) = x at hx ⊢
 exact ⟨⟨_, Tryz.func80, rfl, rfl⟩, d_pure 92 [] v x (v, pUM x).2 (by simp) (fun H => ⟨⟨_, Tryz.func92, rfl, rfl⟩, rk_6 x hx H⟩) H i hi⟩
theorem ds_78 (v : VVm) (x : List Int) : doneS v 78 [77, 42] x = (v, pM x) := by kernel_rfl
theorem do_78 (v : VVm) (hv : VmOk v) : PureC Tryz.prog 14 [eVm v, i64 78] (tVm (doS v 78)) := by
 have hk : takesS 78 (names.getD (78 : Int).toNat []) = 2 := by kernel_rfl
 have hn : names.getD (78 : Int).toNat [] = [77, 42] := by kernel_rfl
 rw [doS_deed (by decide) (by decide), hk, hn, ds_78]
 refine do_deed v 78 2 80 [.row [fnP 94 []]] _ (by decide) (by decide) (by have := hv.d; omega) hv.data (by decide) (by simp) (by rw [hn]; exact found_rk 78 _ _ _ _ (by decide) (by simp)  rfl) (by (show List.length _ ≤ _; simp [pFetch, pFetchB, pPut, pLay, pPic, pDig, pAll, pCount, pDivMod, pStarMod, pStar, pUM, pM, pUMod, pSRem, pFMod, pSD, pWithin, pBodyP])) (fun hk H i hi => ?_)
 have hx := hv.x hk
 generalize v.d.drop (v.d.length - 2) = x at hx ⊢
 exact ⟨⟨_, Tryz.func80, rfl, rfl⟩, d_pure 94 [] v x (v, pM x).2 (by simp) (fun H => ⟨⟨_, Tryz.func94, rfl, rfl⟩, rk_7 x hx H⟩) H i hi⟩
theorem ds_77 (v : VVm) (x : List Int) : doneS v 77 [85, 77, 47, 77, 79, 68] x = (v, pUMod x) := by kernel_rfl
theorem do_77 (v : VVm) (hv : VmOk v) : PureC Tryz.prog 14 [eVm v, i64 77] (tVm (doS v 77)) := by
 have hk : takesS 77 (names.getD (77 : Int).toNat []) = 3 := by kernel_rfl
 have hn : names.getD (77 : Int).toNat [] = [85, 77, 47, 77, 79, 68] := by kernel_rfl
 rw [doS_deed (by decide) (by decide), hk, hn, ds_77]
 refine do_deed v 77 3 80 [.row [fnP 95 capA]] _ (by decide) (by decide) (by have := hv.d; omega) hv.data (by decide) (by simp) (by rw [hn]; exact found_rk 77 _ _ _ _ (by decide) (by simp)  rfl) (by (show List.length _ ≤ _; simp [pFetch, pFetchB, pPut, pLay, pPic, pDig, pAll, pCount, pDivMod, pStarMod, pStar, pUM, pM, pUMod, pSRem, pFMod, pSD, pWithin, pBodyP])) (fun hk H i hi => ?_)
 have hx := hv.x hk
 generalize v.d.drop (v.d.length - 3) = x at hx ⊢
 exact ⟨⟨_, Tryz.func80, rfl, rfl⟩, d_pure 95 capA v x (v, pUMod x).2 (by simp) (fun H => ⟨⟨_, Tryz.func95, rfl, rfl⟩, rk_8 x hx H⟩) H i hi⟩
theorem ds_79 (v : VVm) (x : List Int) : doneS v 79 [83, 77, 47, 82, 69, 77] x = (v, pSRem x) := by kernel_rfl
theorem do_79 (v : VVm) (hv : VmOk v) : PureC Tryz.prog 14 [eVm v, i64 79] (tVm (doS v 79)) := by
 have hk : takesS 79 (names.getD (79 : Int).toNat []) = 3 := by kernel_rfl
 have hn : names.getD (79 : Int).toNat [] = [83, 77, 47, 82, 69, 77] := by kernel_rfl
 rw [doS_deed (by decide) (by decide), hk, hn, ds_79]
 refine do_deed v 79 3 80 [.row [fnP 97 capA]] _ (by decide) (by decide) (by have := hv.d; omega) hv.data (by decide) (by simp) (by rw [hn]; exact found_rk 79 _ _ _ _ (by decide) (by simp)  rfl) (by (show List.length _ ≤ _; simp [pFetch, pFetchB, pPut, pLay, pPic, pDig, pAll, pCount, pDivMod, pStarMod, pStar, pUM, pM, pUMod, pSRem, pFMod, pSD, pWithin, pBodyP])) (fun hk H i hi => ?_)
 have hx := hv.x hk
 generalize v.d.drop (v.d.length - 3) = x at hx ⊢
 exact ⟨⟨_, Tryz.func80, rfl, rfl⟩, d_pure 97 capA v x (v, pSRem x).2 (by simp) (fun H => ⟨⟨_, Tryz.func97, rfl, rfl⟩, rk_9 x hx H⟩) H i hi⟩
theorem ds_80 (v : VVm) (x : List Int) : doneS v 80 [70, 77, 47, 77, 79, 68] x = (v, pFMod x) := by kernel_rfl
theorem do_80 (v : VVm) (hv : VmOk v) : PureC Tryz.prog 14 [eVm v, i64 80] (tVm (doS v 80)) := by
 have hk : takesS 80 (names.getD (80 : Int).toNat []) = 3 := by kernel_rfl
 have hn : names.getD (80 : Int).toNat [] = [70, 77, 47, 77, 79, 68] := by kernel_rfl
 rw [doS_deed (by decide) (by decide), hk, hn, ds_80]
 refine do_deed v 80 3 80 [.row [fnP 99 capA]] _ (by decide) (by decide) (by have := hv.d; omega) hv.data (by decide) (by simp) (by rw [hn]; exact found_rk 80 _ _ _ _ (by decide) (by simp)  rfl) (by (show List.length _ ≤ _; simp [pFetch, pFetchB, pPut, pLay, pPic, pDig, pAll, pCount, pDivMod, pStarMod, pStar, pUM, pM, pUMod, pSRem, pFMod, pSD, pWithin, pBodyP])) (fun hk H i hi => ?_)
 have hx := hv.x hk
 generalize v.d.drop (v.d.length - 3) = x at hx ⊢
 exact ⟨⟨_, Tryz.func80, rfl, rfl⟩, d_pure 99 capA v x (v, pFMod x).2 (by simp) (fun H => ⟨⟨_, Tryz.func99, rfl, rfl⟩, rk_10 x hx H⟩) H i hi⟩
theorem ds_81 (v : VVm) (x : List Int) : doneS v 81 [83, 62, 68] x = (v, pSD x) := by kernel_rfl
theorem do_81 (v : VVm) (hv : VmOk v) : PureC Tryz.prog 14 [eVm v, i64 81] (tVm (doS v 81)) := by
 have hk : takesS 81 (names.getD (81 : Int).toNat []) = 1 := by kernel_rfl
 have hn : names.getD (81 : Int).toNat [] = [83, 62, 68] := by kernel_rfl
 rw [doS_deed (by decide) (by decide), hk, hn, ds_81]
 refine do_deed v 81 1 80 [.row [fnP 100 []]] _ (by decide) (by decide) (by have := hv.d; omega) hv.data (by decide) (by simp) (by rw [hn]; exact found_rk 81 _ _ _ _ (by decide) (by simp)  rfl) (by (show List.length _ ≤ _; simp [pFetch, pFetchB, pPut, pLay, pPic, pDig, pAll, pCount, pDivMod, pStarMod, pStar, pUM, pM, pUMod, pSRem, pFMod, pSD, pWithin, pBodyP])) (fun hk H i hi => ?_)
 have hx := hv.x hk
 generalize v.d.drop (v.d.length - 1) = x at hx ⊢
 exact ⟨⟨_, Tryz.func80, rfl, rfl⟩, d_pure 100 [] v x (v, pSD x).2 (by simp) (fun H => ⟨⟨_, Tryz.func100, rfl, rfl⟩, rk_11 x hx H⟩) H i hi⟩
theorem ds_82 (v : VVm) (x : List Int) : doneS v 82 [87, 73, 84, 72, 73, 78] x = (v, pWithin x) := by kernel_rfl
theorem do_82 (v : VVm) (hv : VmOk v) : PureC Tryz.prog 14 [eVm v, i64 82] (tVm (doS v 82)) := by
 have hk : takesS 82 (names.getD (82 : Int).toNat []) = 3 := by kernel_rfl
 have hn : names.getD (82 : Int).toNat [] = [87, 73, 84, 72, 73, 78] := by kernel_rfl
 rw [doS_deed (by decide) (by decide), hk, hn, ds_82]
 refine do_deed v 82 3 80 [.row [fnP 102 []]] _ (by decide) (by decide) (by have := hv.d; omega) hv.data (by decide) (by simp) (by rw [hn]; exact found_rk 82 _ _ _ _ (by decide) (by simp)  rfl) (by (show List.length _ ≤ _; simp [pFetch, pFetchB, pPut, pLay, pPic, pDig, pAll, pCount, pDivMod, pStarMod, pStar, pUM, pM, pUMod, pSRem, pFMod, pSD, pWithin, pBodyP])) (fun hk H i hi => ?_)
 have hx := hv.x hk
 generalize v.d.drop (v.d.length - 3) = x at hx ⊢
 exact ⟨⟨_, Tryz.func80, rfl, rfl⟩, d_pure 102 [] v x (v, pWithin x).2 (by simp) (fun H => ⟨⟨_, Tryz.func102, rfl, rfl⟩, rk_12 x hx H⟩) H i hi⟩
theorem ds_83 (v : VVm) (x : List Int) : doneS v 83 [64] x = pFetch v x := by kernel_rfl
theorem do_83 (v : VVm) (hv : VmOk v) : PureC Tryz.prog 14 [eVm v, i64 83] (tVm (doS v 83)) := by
 have hk : takesS 83 (names.getD (83 : Int).toNat []) = 1 := by kernel_rfl
 have hn : names.getD (83 : Int).toNat [] = [64] := by kernel_rfl
 rw [doS_deed (by decide) (by decide), hk, hn, ds_83]
 refine do_deed v 83 1 216 [.row [fnP 105 []]] _ (by decide) (by decide) (by have := hv.d; omega) hv.data (by decide) (by simp) (by rw [hn]; exact found_me 83 _ _ _ _ (by decide) (by simp) rfl rfl) (by (show List.length _ ≤ _; simp [pFetch, pFetchB, pPut, pLay, pPic, pDig, pAll, pCount, pDivMod, pStarMod, pStar, pUM, pM, pUMod, pSRem, pFMod, pSD, pWithin, pBodyP])) (fun hk H i hi => ?_)
 have hx := hv.x hk
 generalize v.d.drop (v.d.length - 1) = x at hx ⊢
 exact ⟨⟨_, Tryz.func216, rfl, rfl⟩, d_fetches 105 [] v x _ hx.len (by simp) (fun H => ⟨⟨_, Tryz.func105, rfl, rfl⟩, (mem_Fetch v.mem _ (memOk_len hv.mem) (hx.fit 0)) H⟩) H i hi⟩
theorem ds_86 (v : VVm) (x : List Int) : doneS v 86 [67, 64] x = pFetchB v x := by kernel_rfl
theorem do_86 (v : VVm) (hv : VmOk v) : PureC Tryz.prog 14 [eVm v, i64 86] (tVm (doS v 86)) := by
 have hk : takesS 86 (names.getD (86 : Int).toNat []) = 1 := by kernel_rfl
 have hn : names.getD (86 : Int).toNat [] = [67, 64] := by kernel_rfl
 rw [doS_deed (by decide) (by decide), hk, hn, ds_86]
 refine do_deed v 86 1 216 [.row [fnP 106 []]] _ (by decide) (by decide) (by have := hv.d; omega) hv.data (by decide) (by simp) (by rw [hn]; exact found_me 86 _ _ _ _ (by decide) (by simp) rfl rfl) (by (show List.length _ ≤ _; simp [pFetch, pFetchB, pPut, pLay, pPic, pDig, pAll, pCount, pDivMod, pStarMod, pStar, pUM, pM, pUMod, pSRem, pFMod, pSD, pWithin, pBodyP])) (fun hk H i hi => ?_)
 have hx := hv.x hk
 generalize v.d.drop (v.d.length - 1) = x at hx ⊢
 exact ⟨⟨_, Tryz.func216, rfl, rfl⟩, d_fetches 106 [] v x _ hx.len (by simp) (fun H => ⟨⟨_, Tryz.func106, rfl, rfl⟩, (mem_FetchByte v.mem _ hv.mem (hx.fit 0)) H⟩) H i hi⟩
theorem ds_84 (v : VVm) (x : List Int) : doneS v 84 [33] x = pPut v (memStore v.mem (xat x 1) (xat x 0)) := by kernel_rfl
theorem do_84 (v : VVm) (hv : VmOk v) : PureC Tryz.prog 14 [eVm v, i64 84] (tVm (doS v 84)) := by
 have hk : takesS 84 (names.getD (84 : Int).toNat []) = 2 := by kernel_rfl
 have hn : names.getD (84 : Int).toNat [] = [33] := by kernel_rfl
 rw [doS_deed (by decide) (by decide), hk, hn, ds_84]
 refine do_deed v 84 2 220 [.row [fnP 108 []]] _ (by decide) (by decide) (by have := hv.d; omega) hv.data (by decide) (by simp) (by rw [hn]; exact found_me 84 _ _ _ _ (by decide) (by simp) rfl rfl) (by (show List.length _ ≤ _; simp [pFetch, pFetchB, pPut, pLay, pPic, pDig, pAll, pCount, pDivMod, pStarMod, pStar, pUM, pM, pUMod, pSRem, pFMod, pSD, pWithin, pBodyP])) (fun hk H i hi => ?_)
 have hx := hv.x hk
 generalize v.d.drop (v.d.length - 2) = x at hx ⊢
 exact ⟨⟨_, Tryz.func220, rfl, rfl⟩, d_changes 108 [] v x _ (by simp) (fun H => ⟨⟨_, Tryz.func108, rfl, rfl⟩, me_1 v x hv.mem hx H⟩) H i hi⟩
theorem ds_87 (v : VVm) (x : List Int) : doneS v 87 [67, 33] x = pPut v (memStoreByte v.mem (xat x 1) (xat x 0)) := by kernel_rfl
theorem do_87 (v : VVm) (hv : VmOk v) : PureC Tryz.prog 14 [eVm v, i64 87] (tVm (doS v 87)) := by
 have hk : takesS 87 (names.getD (87 : Int).toNat []) = 2 := by kernel_rfl
 have hn : names.getD (87 : Int).toNat [] = [67, 33] := by kernel_rfl
 rw [doS_deed (by decide) (by decide), hk, hn, ds_87]
 refine do_deed v 87 2 220 [.row [fnP 110 []]] _ (by decide) (by decide) (by have := hv.d; omega) hv.data (by decide) (by simp) (by rw [hn]; exact found_me 87 _ _ _ _ (by decide) (by simp) rfl rfl) (by (show List.length _ ≤ _; simp [pFetch, pFetchB, pPut, pLay, pPic, pDig, pAll, pCount, pDivMod, pStarMod, pStar, pUM, pM, pUMod, pSRem, pFMod, pSD, pWithin, pBodyP])) (fun hk H i hi => ?_)
 have hx := hv.x hk
 generalize v.d.drop (v.d.length - 2) = x at hx ⊢
 exact ⟨⟨_, Tryz.func220, rfl, rfl⟩, d_changes 110 [] v x _ (by simp) (fun H => ⟨⟨_, Tryz.func110, rfl, rfl⟩, me_2 v x hv.mem hx H⟩) H i hi⟩
theorem ds_85 (v : VVm) (x : List Int) : doneS v 85 [43, 33] x = pPut v (pAddTo v x) := by kernel_rfl
theorem do_85 (v : VVm) (hv : VmOk v) : PureC Tryz.prog 14 [eVm v, i64 85] (tVm (doS v 85)) := by
 have hk : takesS 85 (names.getD (85 : Int).toNat []) = 2 := by kernel_rfl
 have hn : names.getD (85 : Int).toNat [] = [43, 33] := by kernel_rfl
 rw [doS_deed (by decide) (by decide), hk, hn, ds_85]
 refine do_deed v 85 2 220 [.row [fnP 112 []]] _ (by decide) (by decide) (by have := hv.d; omega) hv.data (by decide) (by simp) (by rw [hn]; exact found_me 85 _ _ _ _ (by decide) (by simp) rfl rfl) (by (show List.length _ ≤ _; simp [pFetch, pFetchB, pPut, pLay, pPic, pDig, pAll, pCount, pDivMod, pStarMod, pStar, pUM, pM, pUMod, pSRem, pFMod, pSD, pWithin, pBodyP])) (fun hk H i hi => ?_)
 have hx := hv.x hk
 generalize v.d.drop (v.d.length - 2) = x at hx ⊢
 exact ⟨⟨_, Tryz.func220, rfl, rfl⟩, d_changes 112 [] v x _ (by simp) (fun H => ⟨⟨_, Tryz.func112, rfl, rfl⟩, me_3 v x hv.mem hx H⟩) H i hi⟩
theorem ds_88 (v : VVm) (x : List Int) : doneS v 88 [50, 64] x = pFetch2 v x := by kernel_rfl
theorem do_88 (v : VVm) (hv : VmOk v) : PureC Tryz.prog 14 [eVm v, i64 88] (tVm (doS v 88)) := by
 have hk : takesS 88 (names.getD (88 : Int).toNat []) = 1 := by kernel_rfl
 have hn : names.getD (88 : Int).toNat [] = [50, 64] := by kernel_rfl
 rw [doS_deed (by decide) (by decide), hk, hn, ds_88]
 refine do_deed v 88 1 113 [] _ (by decide) (by decide) (by have := hv.d; omega) hv.data (by decide) (by simp) (by rw [hn]; exact found_me 88 _ _ _ _ (by decide) (by simp) rfl rfl) (by unfold pFetch2; split <;> simp) (fun hk H i hi => ?_)
 have hx := hv.x hk
 generalize v.d.drop (v.d.length - 1) = x at hx ⊢
 exact ⟨⟨_, Tryz.func113, rfl, rfl⟩, me_4 v x hv.mem hx H i hi⟩
theorem ds_89 (v : VVm) (x : List Int) : doneS v 89 [50, 33] x = pPut v (pStore2 v x) := by kernel_rfl
theorem do_89 (v : VVm) (hv : VmOk v) : PureC Tryz.prog 14 [eVm v, i64 89] (tVm (doS v 89)) := by
 have hk : takesS 89 (names.getD (89 : Int).toNat []) = 3 := by kernel_rfl
 have hn : names.getD (89 : Int).toNat [] = [50, 33] := by kernel_rfl
 rw [doS_deed (by decide) (by decide), hk, hn, ds_89]
 refine do_deed v 89 3 220 [.row [fnP 114 []]] _ (by decide) (by decide) (by have := hv.d; omega) hv.data (by decide) (by simp) (by rw [hn]; exact found_me 89 _ _ _ _ (by decide) (by simp) rfl rfl) (by (show List.length _ ≤ _; simp [pFetch, pFetchB, pPut, pLay, pPic, pDig, pAll, pCount, pDivMod, pStarMod, pStar, pUM, pM, pUMod, pSRem, pFMod, pSD, pWithin, pBodyP])) (fun hk H i hi => ?_)
 have hx := hv.x hk
 generalize v.d.drop (v.d.length - 3) = x at hx ⊢
 exact ⟨⟨_, Tryz.func220, rfl, rfl⟩, d_changes 114 [] v x _ (by simp) (fun H => ⟨⟨_, Tryz.func114, rfl, rfl⟩, me_5 v x hv.mem hv.old hx H⟩) H i hi⟩
theorem ds_90 (v : VVm) (x : List Int) : doneS v 90 [70, 73, 76, 76] x = pPut v (memFill v.mem (xat x 0) (xat x 1) (xat x 2)) := by kernel_rfl
theorem do_90 (v : VVm) (hv : VmOk v) : PureC Tryz.prog 14 [eVm v, i64 90] (tVm (doS v 90)) := by
 have hk : takesS 90 (names.getD (90 : Int).toNat []) = 3 := by kernel_rfl
 have hn : names.getD (90 : Int).toNat [] = [70, 73, 76, 76] := by kernel_rfl
 rw [doS_deed (by decide) (by decide), hk, hn, ds_90]
 refine do_deed v 90 3 220 [.row [fnP 115 []]] _ (by decide) (by decide) (by have := hv.d; omega) hv.data (by decide) (by simp) (by rw [hn]; exact found_me 90 _ _ _ _ (by decide) (by simp) rfl rfl) (by (show List.length _ ≤ _; simp [pFetch, pFetchB, pPut, pLay, pPic, pDig, pAll, pCount, pDivMod, pStarMod, pStar, pUM, pM, pUMod, pSRem, pFMod, pSD, pWithin, pBodyP])) (fun hk H i hi => ?_)
 have hx := hv.x hk
 generalize v.d.drop (v.d.length - 3) = x at hx ⊢
 exact ⟨⟨_, Tryz.func220, rfl, rfl⟩, d_changes 115 [] v x _ (by simp) (fun H => ⟨⟨_, Tryz.func115, rfl, rfl⟩, me_6 v x hv.mem hx H⟩) H i hi⟩
theorem ds_91 (v : VVm) (x : List Int) : doneS v 91 [77, 79, 86, 69] x = pPut v (memMove v.mem (xat x 0) (xat x 1) (xat x 2)) := by kernel_rfl
theorem do_91 (v : VVm) (hv : VmOk v) : PureC Tryz.prog 14 [eVm v, i64 91] (tVm (doS v 91)) := by
 have hk : takesS 91 (names.getD (91 : Int).toNat []) = 3 := by kernel_rfl
 have hn : names.getD (91 : Int).toNat [] = [77, 79, 86, 69] := by kernel_rfl
 rw [doS_deed (by decide) (by decide), hk, hn, ds_91]
 refine do_deed v 91 3 220 [.row [fnP 117 []]] _ (by decide) (by decide) (by have := hv.d; omega) hv.data (by decide) (by simp) (by rw [hn]; exact found_me 91 _ _ _ _ (by decide) (by simp) rfl rfl) (by (show List.length _ ≤ _; simp [pFetch, pFetchB, pPut, pLay, pPic, pDig, pAll, pCount, pDivMod, pStarMod, pStar, pUM, pM, pUMod, pSRem, pFMod, pSD, pWithin, pBodyP])) (fun hk H i hi => ?_)
 have hx := hv.x hk
 generalize v.d.drop (v.d.length - 3) = x at hx ⊢
 exact ⟨⟨_, Tryz.func220, rfl, rfl⟩, d_changes 117 [] v x _ (by simp) (fun H => ⟨⟨_, Tryz.func117, rfl, rfl⟩, me_7 v x hv.mem hx H⟩) H i hi⟩
theorem ds_92 (v : VVm) (x : List Int) : doneS v 92 [67, 79, 85, 78, 84] x = pCount v x := by kernel_rfl
theorem do_92 (v : VVm) (hv : VmOk v) : PureC Tryz.prog 14 [eVm v, i64 92] (tVm (doS v 92)) := by
 have hk : takesS 92 (names.getD (92 : Int).toNat []) = 1 := by kernel_rfl
 have hn : names.getD (92 : Int).toNat [] = [67, 79, 85, 78, 84] := by kernel_rfl
 rw [doS_deed (by decide) (by decide), hk, hn, ds_92]
 refine do_deed v 92 1 119 [] _ (by decide) (by decide) (by have := hv.d; omega) hv.data (by decide) (by simp) (by rw [hn]; exact found_me 92 _ _ _ _ (by decide) (by simp) rfl rfl) (by (show List.length _ ≤ _; simp [pFetch, pFetchB, pPut, pLay, pPic, pDig, pAll, pCount, pDivMod, pStarMod, pStar, pUM, pM, pUMod, pSRem, pFMod, pSD, pWithin, pBodyP])) (fun hk H i hi => ?_)
 have hx := hv.x hk
 generalize v.d.drop (v.d.length - 1) = x at hx ⊢
 exact ⟨⟨_, Tryz.func119, rfl, rfl⟩, me_8 v x hv.mem hx H i hi⟩
theorem ds_93 (v : VVm) (x : List Int) : doneS v 93 [72, 69, 82, 69] x = (v, [v.here], 0) := by kernel_rfl
theorem do_93 (v : VVm) (hv : VmOk v) : PureC Tryz.prog 14 [eVm v, i64 93] (tVm (doS v 93)) := by
 have hk : takesS 93 (names.getD (93 : Int).toNat []) = 0 := by kernel_rfl
 have hn : names.getD (93 : Int).toNat [] = [72, 69, 82, 69] := by kernel_rfl
 rw [doS_deed (by decide) (by decide), hk, hn, ds_93]
 refine do_deed v 93 0 223 [.row [fnP 126 []]] _ (by decide) (by decide) (by have := hv.d; omega) hv.data (by decide) (by simp) (by rw [hn]; exact found_sp 93 _ _ _ _ (by decide) (by simp) rfl rfl rfl) (by (show List.length _ ≤ _; simp [pFetch, pFetchB, pPut, pLay, pPic, pDig, pAll, pCount, pDivMod, pStarMod, pStar, pUM, pM, pUMod, pSRem, pFMod, pSD, pWithin, pBodyP])) (fun hk H i hi => ?_)
 have hx := hv.x hk
 generalize v.d.drop (v.d.length - 0) = x at hx ⊢
 exact ⟨⟨_, Tryz.func223, rfl, rfl⟩, d_shown 126 [] v x _ (by simp) (fun H => ⟨⟨_, Tryz.func126, rfl, rfl⟩, sp_3 v H⟩) H i hi⟩
theorem ds_94 (v : VVm) (x : List Int) : doneS v 94 [65, 76, 76, 79, 84] x = pLay v (pAllot v x) := by kernel_rfl
theorem do_94 (v : VVm) (hv : VmOk v) : PureC Tryz.prog 14 [eVm v, i64 94] (tVm (doS v 94)) := by
 have hk : takesS 94 (names.getD (94 : Int).toNat []) = 1 := by kernel_rfl
 have hn : names.getD (94 : Int).toNat [] = [65, 76, 76, 79, 84] := by kernel_rfl
 rw [doS_deed (by decide) (by decide), hk, hn, ds_94]
 refine do_deed v 94 1 224 [.row [fnP 128 []]] _ (by decide) (by decide) (by have := hv.d; omega) hv.data (by decide) (by simp) (by rw [hn]; exact found_sp 94 _ _ _ _ (by decide) (by simp) rfl rfl rfl) (by (show List.length _ ≤ _; simp [pFetch, pFetchB, pPut, pLay, pPic, pDig, pAll, pCount, pDivMod, pStarMod, pStar, pUM, pM, pUMod, pSRem, pFMod, pSD, pWithin, pBodyP])) (fun hk H i hi => ?_)
 have hx := hv.x hk
 generalize v.d.drop (v.d.length - 1) = x at hx ⊢
 exact ⟨⟨_, Tryz.func224, rfl, rfl⟩, d_lays 128 [] v x _ (by simp) (fun H => ⟨⟨_, Tryz.func128, rfl, rfl⟩, sp_4 v x hv.mem hv.here hx H⟩) H i hi⟩
theorem ds_95 (v : VVm) (x : List Int) : doneS v 95 [44] x = pLay v (spcComma v.mem v.here (xat x 0)) := by kernel_rfl
theorem do_95 (v : VVm) (hv : VmOk v) : PureC Tryz.prog 14 [eVm v, i64 95] (tVm (doS v 95)) := by
 have hk : takesS 95 (names.getD (95 : Int).toNat []) = 1 := by kernel_rfl
 have hn : names.getD (95 : Int).toNat [] = [44] := by kernel_rfl
 rw [doS_deed (by decide) (by decide), hk, hn, ds_95]
 refine do_deed v 95 1 224 [.row [fnP 131 []]] _ (by decide) (by decide) (by have := hv.d; omega) hv.data (by decide) (by simp) (by rw [hn]; exact found_sp 95 _ _ _ _ (by decide) (by simp) rfl rfl rfl) (by (show List.length _ ≤ _; simp [pFetch, pFetchB, pPut, pLay, pPic, pDig, pAll, pCount, pDivMod, pStarMod, pStar, pUM, pM, pUMod, pSRem, pFMod, pSD, pWithin, pBodyP])) (fun hk H i hi => ?_)
 have hx := hv.x hk
 generalize v.d.drop (v.d.length - 1) = x at hx ⊢
 exact ⟨⟨_, Tryz.func224, rfl, rfl⟩, d_lays 131 [] v x _ (by simp) (fun H => ⟨⟨_, Tryz.func131, rfl, rfl⟩, sp_5 v x hv.mem hv.here hx H⟩) H i hi⟩
theorem ds_96 (v : VVm) (x : List Int) : doneS v 96 [67, 44] x = pLay v (spcLay v.mem v.here [loB (xat x 0)]) := by kernel_rfl
theorem do_96 (v : VVm) (hv : VmOk v) : PureC Tryz.prog 14 [eVm v, i64 96] (tVm (doS v 96)) := by
 have hk : takesS 96 (names.getD (96 : Int).toNat []) = 1 := by kernel_rfl
 have hn : names.getD (96 : Int).toNat [] = [67, 44] := by kernel_rfl
 rw [doS_deed (by decide) (by decide), hk, hn, ds_96]
 refine do_deed v 96 1 224 [.row [fnP 133 []]] _ (by decide) (by decide) (by have := hv.d; omega) hv.data (by decide) (by simp) (by rw [hn]; exact found_sp 96 _ _ _ _ (by decide) (by simp) rfl rfl rfl) (by (show List.length _ ≤ _; simp [pFetch, pFetchB, pPut, pLay, pPic, pDig, pAll, pCount, pDivMod, pStarMod, pStar, pUM, pM, pUMod, pSRem, pFMod, pSD, pWithin, pBodyP])) (fun hk H i hi => ?_)
 have hx := hv.x hk
 generalize v.d.drop (v.d.length - 1) = x at hx ⊢
 exact ⟨⟨_, Tryz.func224, rfl, rfl⟩, d_lays 133 [] v x _ (by simp) (fun H => ⟨⟨_, Tryz.func133, rfl, rfl⟩, sp_6 v x hv.mem hv.here hx H⟩) H i hi⟩
theorem ds_97 (v : VVm) (x : List Int) : doneS v 97 [65, 76, 73, 71, 78] x = pLay v (spcAlign v.mem v.here) := by kernel_rfl
theorem do_97 (v : VVm) (hv : VmOk v) : PureC Tryz.prog 14 [eVm v, i64 97] (tVm (doS v 97)) := by
 have hk : takesS 97 (names.getD (97 : Int).toNat []) = 0 := by kernel_rfl
 have hn : names.getD (97 : Int).toNat [] = [65, 76, 73, 71, 78] := by kernel_rfl
 rw [doS_deed (by decide) (by decide), hk, hn, ds_97]
 refine do_deed v 97 0 224 [.row [fnP 135 []]] _ (by decide) (by decide) (by have := hv.d; omega) hv.data (by decide) (by simp) (by rw [hn]; exact found_sp 97 _ _ _ _ (by decide) (by simp) rfl rfl rfl) (by (show List.length _ ≤ _; simp [pFetch, pFetchB, pPut, pLay, pPic, pDig, pAll, pCount, pDivMod, pStarMod, pStar, pUM, pM, pUMod, pSRem, pFMod, pSD, pWithin, pBodyP])) (fun hk H i hi => ?_)
 have hx := hv.x hk
 generalize v.d.drop (v.d.length - 0) = x at hx ⊢
 exact ⟨⟨_, Tryz.func224, rfl, rfl⟩, d_lays 135 [] v x _ (by simp) (fun H => ⟨⟨_, Tryz.func135, rfl, rfl⟩, sp_7 v x hv.mem hv.here H⟩) H i hi⟩
theorem ds_98 (v : VVm) (x : List Int) : doneS v 98 [66, 65, 83, 69] x = (v, [0], 0) := by kernel_rfl
theorem do_98 (v : VVm) (hv : VmOk v) : PureC Tryz.prog 14 [eVm v, i64 98] (tVm (doS v 98)) := by
 have hk : takesS 98 (names.getD (98 : Int).toNat []) = 0 := by kernel_rfl
 have hn : names.getD (98 : Int).toNat [] = [66, 65, 83, 69] := by kernel_rfl
 rw [doS_deed (by decide) (by decide), hk, hn, ds_98]
 refine do_deed v 98 0 223 [.row [fnP 125 [.row [i64 (0)]]]] _ (by decide) (by decide) (by have := hv.d; omega) hv.data (by decide) (by simp) (by rw [hn]; exact found_sp 98 _ _ _ _ (by decide) (by simp) rfl rfl rfl) (by (show List.length _ ≤ _; simp [pFetch, pFetchB, pPut, pLay, pPic, pDig, pAll, pCount, pDivMod, pStarMod, pStar, pUM, pM, pUMod, pSRem, pFMod, pSD, pWithin, pBodyP])) (fun hk H i hi => ?_)
 have hx := hv.x hk
 generalize v.d.drop (v.d.length - 0) = x at hx ⊢
 exact ⟨⟨_, Tryz.func223, rfl, rfl⟩, d_shown 125 [.row [i64 (0)]] v x (0) (by simp) (fun H => ⟨⟨_, Tryz.func125, rfl, rfl⟩, d_always v (0) H⟩) H i hi⟩
theorem ds_99 (v : VVm) (x : List Int) : doneS v 99 [83, 84, 65, 84, 69] x = (v, [8], 0) := by kernel_rfl
theorem do_99 (v : VVm) (hv : VmOk v) : PureC Tryz.prog 14 [eVm v, i64 99] (tVm (doS v 99)) := by
 have hk : takesS 99 (names.getD (99 : Int).toNat []) = 0 := by kernel_rfl
 have hn : names.getD (99 : Int).toNat [] = [83, 84, 65, 84, 69] := by kernel_rfl
 rw [doS_deed (by decide) (by decide), hk, hn, ds_99]
 refine do_deed v 99 0 223 [.row [fnP 125 [.row [i64 (8)]]]] _ (by decide) (by decide) (by have := hv.d; omega) hv.data (by decide) (by simp) (by rw [hn]; exact found_sp 99 _ _ _ _ (by decide) (by simp) rfl rfl rfl) (by (show List.length _ ≤ _; simp [pFetch, pFetchB, pPut, pLay, pPic, pDig, pAll, pCount, pDivMod, pStarMod, pStar, pUM, pM, pUMod, pSRem, pFMod, pSD, pWithin, pBodyP])) (fun hk H i hi => ?_)
 have hx := hv.x hk
 generalize v.d.drop (v.d.length - 0) = x at hx ⊢
 exact ⟨⟨_, Tryz.func223, rfl, rfl⟩, d_shown 125 [.row [i64 (8)]] v x (8) (by simp) (fun H => ⟨⟨_, Tryz.func125, rfl, rfl⟩, d_always v (8) H⟩) H i hi⟩
theorem ds_100 (v : VVm) (x : List Int) : doneS v 100 [84, 82, 85, 69] x = (v, [-1], 0) := by kernel_rfl
theorem do_100 (v : VVm) (hv : VmOk v) : PureC Tryz.prog 14 [eVm v, i64 100] (tVm (doS v 100)) := by
 have hk : takesS 100 (names.getD (100 : Int).toNat []) = 0 := by kernel_rfl
 have hn : names.getD (100 : Int).toNat [] = [84, 82, 85, 69] := by kernel_rfl
 rw [doS_deed (by decide) (by decide), hk, hn, ds_100]
 refine do_deed v 100 0 223 [.row [fnP 125 [.row [i64 (-1)]]]] _ (by decide) (by decide) (by have := hv.d; omega) hv.data (by decide) (by simp) (by rw [hn]; exact found_sp 100 _ _ _ _ (by decide) (by simp) rfl rfl rfl) (by (show List.length _ ≤ _; simp [pFetch, pFetchB, pPut, pLay, pPic, pDig, pAll, pCount, pDivMod, pStarMod, pStar, pUM, pM, pUMod, pSRem, pFMod, pSD, pWithin, pBodyP])) (fun hk H i hi => ?_)
 have hx := hv.x hk
 generalize v.d.drop (v.d.length - 0) = x at hx ⊢
 exact ⟨⟨_, Tryz.func223, rfl, rfl⟩, d_shown 125 [.row [i64 (-1)]] v x (-1) (by simp) (fun H => ⟨⟨_, Tryz.func125, rfl, rfl⟩, d_always v (-1) H⟩) H i hi⟩
theorem ds_101 (v : VVm) (x : List Int) : doneS v 101 [70, 65, 76, 83, 69] x = (v, [0], 0) := by kernel_rfl
theorem do_101 (v : VVm) (hv : VmOk v) : PureC Tryz.prog 14 [eVm v, i64 101] (tVm (doS v 101)) := by
 have hk : takesS 101 (names.getD (101 : Int).toNat []) = 0 := by kernel_rfl
 have hn : names.getD (101 : Int).toNat [] = [70, 65, 76, 83, 69] := by kernel_rfl
 rw [doS_deed (by decide) (by decide), hk, hn, ds_101]
 refine do_deed v 101 0 223 [.row [fnP 125 [.row [i64 (0)]]]] _ (by decide) (by decide) (by have := hv.d; omega) hv.data (by decide) (by simp) (by rw [hn]; exact found_sp 101 _ _ _ _ (by decide) (by simp) rfl rfl rfl) (by (show List.length _ ≤ _; simp [pFetch, pFetchB, pPut, pLay, pPic, pDig, pAll, pCount, pDivMod, pStarMod, pStar, pUM, pM, pUMod, pSRem, pFMod, pSD, pWithin, pBodyP])) (fun hk H i hi => ?_)
 have hx := hv.x hk
 generalize v.d.drop (v.d.length - 0) = x at hx ⊢
 exact ⟨⟨_, Tryz.func223, rfl, rfl⟩, d_shown 125 [.row [i64 (0)]] v x (0) (by simp) (fun H => ⟨⟨_, Tryz.func125, rfl, rfl⟩, d_always v (0) H⟩) H i hi⟩
theorem ds_102 (v : VVm) (x : List Int) : doneS v 102 [66, 76] x = (v, [32], 0) := by kernel_rfl
theorem do_102 (v : VVm) (hv : VmOk v) : PureC Tryz.prog 14 [eVm v, i64 102] (tVm (doS v 102)) := by
 have hk : takesS 102 (names.getD (102 : Int).toNat []) = 0 := by kernel_rfl
 have hn : names.getD (102 : Int).toNat [] = [66, 76] := by kernel_rfl
 rw [doS_deed (by decide) (by decide), hk, hn, ds_102]
 refine do_deed v 102 0 223 [.row [fnP 125 [.row [i64 (32)]]]] _ (by decide) (by decide) (by have := hv.d; omega) hv.data (by decide) (by simp) (by rw [hn]; exact found_sp 102 _ _ _ _ (by decide) (by simp) rfl rfl rfl) (by (show List.length _ ≤ _; simp [pFetch, pFetchB, pPut, pLay, pPic, pDig, pAll, pCount, pDivMod, pStarMod, pStar, pUM, pM, pUMod, pSRem, pFMod, pSD, pWithin, pBodyP])) (fun hk H i hi => ?_)
 have hx := hv.x hk
 generalize v.d.drop (v.d.length - 0) = x at hx ⊢
 exact ⟨⟨_, Tryz.func223, rfl, rfl⟩, d_shown 125 [.row [i64 (32)]] v x (32) (by simp) (fun H => ⟨⟨_, Tryz.func125, rfl, rfl⟩, d_always v (32) H⟩) H i hi⟩
theorem ds_103 (v : VVm) (x : List Int) : doneS v 103 [68, 69, 67, 73, 77, 65, 76] x = pPut v (memStore v.mem 0 10) := by kernel_rfl
theorem do_103 (v : VVm) (hv : VmOk v) : PureC Tryz.prog 14 [eVm v, i64 103] (tVm (doS v 103)) := by
 have hk : takesS 103 (names.getD (103 : Int).toNat []) = 0 := by kernel_rfl
 have hn : names.getD (103 : Int).toNat [] = [68, 69, 67, 73, 77, 65, 76] := by kernel_rfl
 rw [doS_deed (by decide) (by decide), hk, hn, ds_103]
 refine do_deed v 103 0 121 [.row [i64 10]] _ (by decide) (by decide) (by have := hv.d; omega) hv.data (by decide) (by simp) (by rw [hn]; exact found_sp 103 _ _ _ _ (by decide) (by simp) rfl rfl rfl) (by (show List.length _ ≤ _; simp [pFetch, pFetchB, pPut, pLay, pPic, pDig, pAll, pCount, pDivMod, pStarMod, pStar, pUM, pM, pUMod, pSRem, pFMod, pSD, pWithin, pBodyP])) (fun hk H i hi => ?_)
 have hx := hv.x hk
 generalize v.d.drop (v.d.length - 0) = x at hx ⊢
 exact ⟨⟨_, Tryz.func121, rfl, rfl⟩, d_base v x 10 hv.mem H i hi⟩
theorem ds_104 (v : VVm) (x : List Int) : doneS v 104 [72, 69, 88] x = pPut v (memStore v.mem 0 16) := by kernel_rfl
theorem do_104 (v : VVm) (hv : VmOk v) : PureC Tryz.prog 14 [eVm v, i64 104] (tVm (doS v 104)) := by
 have hk : takesS 104 (names.getD (104 : Int).toNat []) = 0 := by kernel_rfl
 have hn : names.getD (104 : Int).toNat [] = [72, 69, 88] := by kernel_rfl
 rw [doS_deed (by decide) (by decide), hk, hn, ds_104]
 refine do_deed v 104 0 121 [.row [i64 16]] _ (by decide) (by decide) (by have := hv.d; omega) hv.data (by decide) (by simp) (by rw [hn]; exact found_sp 104 _ _ _ _ (by decide) (by simp) rfl rfl rfl) (by (show List.length _ ≤ _; simp [pFetch, pFetchB, pPut, pLay, pPic, pDig, pAll, pCount, pDivMod, pStarMod, pStar, pUM, pM, pUMod, pSRem, pFMod, pSD, pWithin, pBodyP])) (fun hk H i hi => ?_)
 have hx := hv.x hk
 generalize v.d.drop (v.d.length - 0) = x at hx ⊢
 exact ⟨⟨_, Tryz.func121, rfl, rfl⟩, d_base v x 16 hv.mem H i hi⟩
theorem ds_105 (v : VVm) (x : List Int) : doneS v 105 [69, 77, 73, 84] x = pPrint v ([loB (xat x 0)], 0) := by kernel_rfl
theorem do_105 (v : VVm) (hv : VmOk v) : PureC Tryz.prog 14 [eVm v, i64 105] (tVm (doS v 105)) := by
 have hk : takesS 105 (names.getD (105 : Int).toNat []) = 1 := by kernel_rfl
 have hn : names.getD (105 : Int).toNat [] = [69, 77, 73, 84] := by kernel_rfl
 rw [doS_deed (by decide) (by decide), hk, hn, ds_105]
 refine do_deed v 105 1 227 [.row [fnP 143 []]] _ (by decide) (by decide) (by have := hv.d; omega) hv.data (by decide) (by simp) (by rw [hn]; exact found_pr 105 _ _ _ _ (by decide) (by simp) rfl rfl rfl rfl) (by unfold pPrint; split <;> simp) (fun hk H i hi => ?_)
 have hx := hv.x hk
 generalize v.d.drop (v.d.length - 1) = x at hx ⊢
 exact ⟨⟨_, Tryz.func227, rfl, rfl⟩, d_puts 143 [] v x ([loB (xat x 0)], 0) hv.out1 hv.out (by simp) (by simp) (fun H => ⟨⟨_, Tryz.func143, rfl, rfl⟩, pr_3 v x hx H⟩) H i hi⟩
theorem ds_106 (v : VVm) (x : List Int) : doneS v 106 [67, 82] x = pPrint v ([10], 0) := by kernel_rfl
theorem do_106 (v : VVm) (hv : VmOk v) : PureC Tryz.prog 14 [eVm v, i64 106] (tVm (doS v 106)) := by
 have hk : takesS 106 (names.getD (106 : Int).toNat []) = 0 := by kernel_rfl
 have hn : names.getD (106 : Int).toNat [] = [67, 82] := by kernel_rfl
 rw [doS_deed (by decide) (by decide), hk, hn, ds_106]
 refine do_deed v 106 0 227 [.row [fnP 142 [.row [str [10]]]]] _ (by decide) (by decide) (by have := hv.d; omega) hv.data (by decide) (by simp) (by rw [hn]; exact found_pr 106 _ _ _ _ (by decide) (by simp) rfl rfl rfl rfl) (by unfold pPrint; split <;> simp) (fun hk H i hi => ?_)
 have hx := hv.x hk
 generalize v.d.drop (v.d.length - 0) = x at hx ⊢
 exact ⟨⟨_, Tryz.func227, rfl, rfl⟩, d_puts 142 [.row [str [10]]] v x ([10], 0) hv.out1 hv.out (by simp) (by simp) (fun H => ⟨⟨_, Tryz.func142, rfl, rfl⟩, d_text [10] v x H⟩) H i hi⟩
theorem ds_107 (v : VVm) (x : List Int) : doneS v 107 [83, 80, 65, 67, 69] x = pPrint v ([32], 0) := by kernel_rfl
theorem do_107 (v : VVm) (hv : VmOk v) : PureC Tryz.prog 14 [eVm v, i64 107] (tVm (doS v 107)) := by
 have hk : takesS 107 (names.getD (107 : Int).toNat []) = 0 := by kernel_rfl
 have hn : names.getD (107 : Int).toNat [] = [83, 80, 65, 67, 69] := by kernel_rfl
 rw [doS_deed (by decide) (by decide), hk, hn, ds_107]
 refine do_deed v 107 0 227 [.row [fnP 142 [.row [str [32]]]]] _ (by decide) (by decide) (by have := hv.d; omega) hv.data (by decide) (by simp) (by rw [hn]; exact found_pr 107 _ _ _ _ (by decide) (by simp) rfl rfl rfl rfl) (by unfold pPrint; split <;> simp) (fun hk H i hi => ?_)
 have hx := hv.x hk
 generalize v.d.drop (v.d.length - 0) = x at hx ⊢
 exact ⟨⟨_, Tryz.func227, rfl, rfl⟩, d_puts 142 [.row [str [32]]] v x ([32], 0) hv.out1 hv.out (by simp) (by simp) (fun H => ⟨⟨_, Tryz.func142, rfl, rfl⟩, d_text [32] v x H⟩) H i hi⟩
theorem ds_108 (v : VVm) (x : List Int) : doneS v 108 [83, 80, 65, 67, 69, 83] x = pPrint v (pSpaces v x, 0) := by kernel_rfl
theorem do_108 (v : VVm) (hv : VmOk v) : PureC Tryz.prog 14 [eVm v, i64 108] (tVm (doS v 108)) := by
 have hk : takesS 108 (names.getD (108 : Int).toNat []) = 1 := by kernel_rfl
 have hn : names.getD (108 : Int).toNat [] = [83, 80, 65, 67, 69, 83] := by kernel_rfl
 rw [doS_deed (by decide) (by decide), hk, hn, ds_108]
 refine do_deed v 108 1 227 [.row [fnP 144 []]] _ (by decide) (by decide) (by have := hv.d; omega) hv.data (by decide) (by simp) (by rw [hn]; exact found_pr 108 _ _ _ _ (by decide) (by simp) rfl rfl rfl rfl) (by unfold pPrint; split <;> simp) (fun hk H i hi => ?_)
 have hx := hv.x hk
 generalize v.d.drop (v.d.length - 1) = x at hx ⊢
 exact ⟨⟨_, Tryz.func227, rfl, rfl⟩, d_puts 144 [] v x (pSpaces v x, 0) hv.out1 hv.out (by have := hv.out2; simp only [pSpaces, List.length_replicate]; omega) (by simp) (fun H => ⟨⟨_, Tryz.func144, rfl, rfl⟩, pr_4 v x hv.out2 hx H⟩) H i hi⟩
theorem ds_109 (v : VVm) (x : List Int) : doneS v 109 [84, 89, 80, 69] x = pPrint v (memText v.mem (xat x 0) (xat x 1)) := by kernel_rfl
theorem do_109 (v : VVm) (hv : VmOk v) : PureC Tryz.prog 14 [eVm v, i64 109] (tVm (doS v 109)) := by
 have hk : takesS 109 (names.getD (109 : Int).toNat []) = 2 := by kernel_rfl
 have hn : names.getD (109 : Int).toNat [] = [84, 89, 80, 69] := by kernel_rfl
 rw [doS_deed (by decide) (by decide), hk, hn, ds_109]
 refine do_deed v 109 2 227 [.row [fnP 146 []]] _ (by decide) (by decide) (by have := hv.d; omega) hv.data (by decide) (by simp) (by rw [hn]; exact found_pr 109 _ _ _ _ (by decide) (by simp) rfl rfl rfl rfl) (by unfold pPrint; split <;> simp) (fun hk H i hi => ?_)
 have hx := hv.x hk
 generalize v.d.drop (v.d.length - 2) = x at hx ⊢
 exact ⟨⟨_, Tryz.func227, rfl, rfl⟩, d_puts 146 [] v x (memText v.mem (xat x 0) (xat x 1)) hv.out1 hv.out (by have := memText_len2 v.mem (xat x 0) (xat x 1); have := hv.mem.b; omega) (by simp) (fun H => ⟨⟨_, Tryz.func146, rfl, rfl⟩, pr_5 v x hv.mem hx H⟩) H i hi⟩
theorem ds_110 (v : VVm) (x : List Int) : doneS v 110 [46] x = pPrint v (pDot (showS (xat x 0) (baseS v))) := by kernel_rfl
theorem do_110 (v : VVm) (hv : VmOk v) : PureC Tryz.prog 14 [eVm v, i64 110] (tVm (doS v 110)) := by
 have hk : takesS 110 (names.getD (110 : Int).toNat []) = 1 := by kernel_rfl
 have hn : names.getD (110 : Int).toNat [] = [46] := by kernel_rfl
 rw [doS_deed (by decide) (by decide), hk, hn, ds_110]
 refine do_deed v 110 1 227 [.row [fnP 139 [.row [fnP 148 []]]]] _ (by decide) (by decide) (by have := hv.d; omega) hv.data (by decide) (by simp) (by rw [hn]; exact found_pr 110 _ _ _ _ (by decide) (by simp) rfl rfl rfl rfl) (by unfold pPrint; split <;> simp) (fun hk H i hi => ?_)
 have hx := hv.x hk
 generalize v.d.drop (v.d.length - 1) = x at hx ⊢
 exact ⟨⟨_, Tryz.func227, rfl, rfl⟩, d_puts 139 [.row [fnP 148 []]] v x (pDot (showS (xat x 0) (baseS v))) hv.out1 hv.out (by have := showS_len (xat x 0) (baseS v); simp only [pDot, List.length_append, List.length_singleton]; omega) (by simp) (fun H => ⟨⟨_, Tryz.func139, rfl, rfl⟩, d_number 148 [] v x (showS (xat x 0) (baseS v)) hx.len (memOk_len hv.mem) (by have := showS_len (xat x 0) (baseS v); omega) (by simp) (fun H => ⟨⟨_, Tryz.func148, rfl, rfl⟩, k_Show _ _ (hx.fit 0) H⟩) H⟩) H i hi⟩
theorem ds_111 (v : VVm) (x : List Int) : doneS v 111 [85, 46] x = pPrint v (pDot (ushowS (xat x 0) (baseS v))) := by kernel_rfl
theorem do_111 (v : VVm) (hv : VmOk v) : PureC Tryz.prog 14 [eVm v, i64 111] (tVm (doS v 111)) := by
 have hk : takesS 111 (names.getD (111 : Int).toNat []) = 1 := by kernel_rfl
 have hn : names.getD (111 : Int).toNat [] = [85, 46] := by kernel_rfl
 rw [doS_deed (by decide) (by decide), hk, hn, ds_111]
 refine do_deed v 111 1 227 [.row [fnP 139 [.row [fnP 149 []]]]] _ (by decide) (by decide) (by have := hv.d; omega) hv.data (by decide) (by simp) (by rw [hn]; exact found_pr 111 _ _ _ _ (by decide) (by simp) rfl rfl rfl rfl) (by unfold pPrint; split <;> simp) (fun hk H i hi => ?_)
 have hx := hv.x hk
 generalize v.d.drop (v.d.length - 1) = x at hx ⊢
 exact ⟨⟨_, Tryz.func227, rfl, rfl⟩, d_puts 139 [.row [fnP 149 []]] v x (pDot (ushowS (xat x 0) (baseS v))) hv.out1 hv.out (by have := ushowS_len (xat x 0) (baseS v); simp only [pDot, List.length_append, List.length_singleton]; omega) (by simp) (fun H => ⟨⟨_, Tryz.func139, rfl, rfl⟩, d_number 149 [] v x (ushowS (xat x 0) (baseS v)) hx.len (memOk_len hv.mem) (by have := ushowS_len (xat x 0) (baseS v); omega) (by simp) (fun H => ⟨⟨_, Tryz.func149, rfl, rfl⟩, k_UShow _ _ (hx.fit 0) H⟩) H⟩) H i hi⟩
theorem ds_112 (v : VVm) (x : List Int) : doneS v 112 [60, 35] x = (withP v ⟨[], true⟩, [], 0) := by kernel_rfl
theorem do_112 (v : VVm) (hv : VmOk v) : PureC Tryz.prog 14 [eVm v, i64 112] (tVm (doS v 112)) := by
 have hk : takesS 112 (names.getD (112 : Int).toNat []) = 0 := by kernel_rfl
 have hn : names.getD (112 : Int).toNat [] = [60, 35] := by kernel_rfl
 rw [doS_deed (by decide) (by decide), hk, hn, ds_112]
 refine do_deed v 112 0 152 [] _ (by decide) (by decide) (by have := hv.d; omega) hv.data (by decide) (by simp) (by rw [hn]; exact found_pi 112 _ _ _ _ (by decide) (by simp) rfl rfl rfl rfl rfl) (by (show List.length _ ≤ _; simp [pFetch, pFetchB, pPut, pLay, pPic, pDig, pAll, pCount, pDivMod, pStarMod, pStar, pUM, pM, pUMod, pSRem, pFMod, pSD, pWithin, pBodyP])) (fun hk H i hi => ?_)
 have hx := hv.x hk
 generalize v.d.drop (v.d.length - 0) = x at hx ⊢
 exact ⟨⟨_, Tryz.func152, rfl, rfl⟩, pi_2 v x H i hi⟩
theorem ds_113 (v : VVm) (x : List Int) : doneS v 113 [35] x = pDig v x := by kernel_rfl
theorem do_113 (v : VVm) (hv : VmOk v) : PureC Tryz.prog 14 [eVm v, i64 113] (tVm (doS v 113)) := by
 have hk : takesS 113 (names.getD (113 : Int).toNat []) = 2 := by kernel_rfl
 have hn : names.getD (113 : Int).toNat [] = [35] := by kernel_rfl
 rw [doS_deed (by decide) (by decide), hk, hn, ds_113]
 refine do_deed v 113 2 154 [] _ (by decide) (by decide) (by have := hv.d; omega) hv.data (by decide) (by simp) (by rw [hn]; exact found_pi 113 _ _ _ _ (by decide) (by simp) rfl rfl rfl rfl rfl) (by (show List.length _ ≤ _; simp [pFetch, pFetchB, pPut, pLay, pPic, pDig, pAll, pCount, pDivMod, pStarMod, pStar, pUM, pM, pUMod, pSRem, pFMod, pSD, pWithin, pBodyP])) (fun hk H i hi => ?_)
 have hx := hv.x hk
 generalize v.d.drop (v.d.length - 2) = x at hx ⊢
 exact ⟨⟨_, Tryz.func154, rfl, rfl⟩, pi_3 v x hv.pic (memOk_len hv.mem) hx H i hi⟩
theorem ds_114 (v : VVm) (x : List Int) : doneS v 114 [35, 83] x = pAll v x := by kernel_rfl
theorem do_114 (v : VVm) (hv : VmOk v) : PureC Tryz.prog 14 [eVm v, i64 114] (tVm (doS v 114)) := by
 have hk : takesS 114 (names.getD (114 : Int).toNat []) = 2 := by kernel_rfl
 have hn : names.getD (114 : Int).toNat [] = [35, 83] := by kernel_rfl
 rw [doS_deed (by decide) (by decide), hk, hn, ds_114]
 refine do_deed v 114 2 156 [] _ (by decide) (by decide) (by have := hv.d; omega) hv.data (by decide) (by simp) (by rw [hn]; exact found_pi 114 _ _ _ _ (by decide) (by simp) rfl rfl rfl rfl rfl) (by (show List.length _ ≤ _; simp [pFetch, pFetchB, pPut, pLay, pPic, pDig, pAll, pCount, pDivMod, pStarMod, pStar, pUM, pM, pUMod, pSRem, pFMod, pSD, pWithin, pBodyP])) (fun hk H i hi => ?_)
 have hx := hv.x hk
 generalize v.d.drop (v.d.length - 2) = x at hx ⊢
 exact ⟨⟨_, Tryz.func156, rfl, rfl⟩, pi_4 v x hv.pic (memOk_len hv.mem) hx H i hi⟩
theorem ds_115 (v : VVm) (x : List Int) : doneS v 115 [72, 79, 76, 68] x = pPic v (picHold v.pic (xat x 0)) := by kernel_rfl
theorem do_115 (v : VVm) (hv : VmOk v) : PureC Tryz.prog 14 [eVm v, i64 115] (tVm (doS v 115)) := by
 have hk : takesS 115 (names.getD (115 : Int).toNat []) = 1 := by kernel_rfl
 have hn : names.getD (115 : Int).toNat [] = [72, 79, 76, 68] := by kernel_rfl
 rw [doS_deed (by decide) (by decide), hk, hn, ds_115]
 refine do_deed v 115 1 151 [.row [fnP 158 []]] _ (by decide) (by decide) (by have := hv.d; omega) hv.data (by decide) (by simp) (by rw [hn]; exact found_pi 115 _ _ _ _ (by decide) (by simp) rfl rfl rfl rfl rfl) (by (show List.length _ ≤ _; simp [pFetch, pFetchB, pPut, pLay, pPic, pDig, pAll, pCount, pDivMod, pStarMod, pStar, pUM, pM, pUMod, pSRem, pFMod, pSD, pWithin, pBodyP])) (fun hk H i hi => ?_)
 have hx := hv.x hk
 generalize v.d.drop (v.d.length - 1) = x at hx ⊢
 exact ⟨⟨_, Tryz.func151, rfl, rfl⟩, d_lay 158 [] v x _ hx.len (by simp) (fun H => ⟨⟨_, Tryz.func158, rfl, rfl⟩, pic_Hold v.pic _ hv.pic H⟩) H i hi⟩
theorem ds_116 (v : VVm) (x : List Int) : doneS v 116 [83, 73, 71, 78] x = pPic v (picSign v.pic (xat x 0)) := by kernel_rfl
theorem do_116 (v : VVm) (hv : VmOk v) : PureC Tryz.prog 14 [eVm v, i64 116] (tVm (doS v 116)) := by
 have hk : takesS 116 (names.getD (116 : Int).toNat []) = 1 := by kernel_rfl
 have hn : names.getD (116 : Int).toNat [] = [83, 73, 71, 78] := by kernel_rfl
 rw [doS_deed (by decide) (by decide), hk, hn, ds_116]
 refine do_deed v 116 1 151 [.row [fnP 159 []]] _ (by decide) (by decide) (by have := hv.d; omega) hv.data (by decide) (by simp) (by rw [hn]; exact found_pi 116 _ _ _ _ (by decide) (by simp) rfl rfl rfl rfl rfl) (by (show List.length _ ≤ _; simp [pFetch, pFetchB, pPut, pLay, pPic, pDig, pAll, pCount, pDivMod, pStarMod, pStar, pUM, pM, pUMod, pSRem, pFMod, pSD, pWithin, pBodyP])) (fun hk H i hi => ?_)
 have hx := hv.x hk
 generalize v.d.drop (v.d.length - 1) = x at hx ⊢
 exact ⟨⟨_, Tryz.func151, rfl, rfl⟩, d_lay 159 [] v x _ hx.len (by simp) (fun H => ⟨⟨_, Tryz.func159, rfl, rfl⟩, pic_Sign v.pic _ hv.pic H⟩) H i hi⟩
theorem ds_117 (v : VVm) (x : List Int) : doneS v 117 [35, 62] x = pEnd v := by kernel_rfl
theorem do_117 (v : VVm) (hv : VmOk v) : PureC Tryz.prog 14 [eVm v, i64 117] (tVm (doS v 117)) := by
 have hk : takesS 117 (names.getD (117 : Int).toNat []) = 2 := by kernel_rfl
 have hn : names.getD (117 : Int).toNat [] = [35, 62] := by kernel_rfl
 rw [doS_deed (by decide) (by decide), hk, hn, ds_117]
 refine do_deed v 117 2 160 [] _ (by decide) (by decide) (by have := hv.d; omega) hv.data (by decide) (by simp) (by rw [hn]; exact found_pi 117 _ _ _ _ (by decide) (by simp) rfl rfl rfl rfl rfl) (by unfold pEnd; split <;> simp) (fun hk H i hi => ?_)
 have hx := hv.x hk
 generalize v.d.drop (v.d.length - 2) = x at hx ⊢
 exact ⟨⟨_, Tryz.func160, rfl, rfl⟩, pi_5 v x hv.pic hv.mem H i hi⟩
theorem ds_118 (v : VVm) (x : List Int) : doneS v 118 [62, 66, 79, 68, 89] x = pBody v x := by kernel_rfl
theorem do_118 (v : VVm) (hv : VmOk v) : PureC Tryz.prog 14 [eVm v, i64 118] (tVm (doS v 118)) := by
 have hk : takesS 118 (names.getD (118 : Int).toNat []) = 1 := by kernel_rfl
 have hn : names.getD (118 : Int).toNat [] = [62, 66, 79, 68, 89] := by kernel_rfl
 rw [doS_deed (by decide) (by decide), hk, hn, ds_118]
 rw [← doR_congr (r' := (v, pBodyP v (v.d.drop (v.d.length - 1)))) (body_code v _) (body_eq v _)]
 refine do_deed v 118 1 163 [] _ (by decide) (by decide) (by have := hv.d; omega) hv.data (by decide) (by simp) (by rw [hn]; exact found_ot 118 _ _ _ _ (by decide) (by simp) rfl rfl rfl rfl rfl rfl) (by (show List.length _ ≤ _; simp [pFetch, pFetchB, pPut, pLay, pPic, pDig, pAll, pCount, pDivMod, pStarMod, pStar, pUM, pM, pUMod, pSRem, pFMod, pSD, pWithin, pBodyP])) (fun hk H i hi => ?_)
 have hx := hv.x hk
 generalize v.d.drop (v.d.length - 1) = x at hx ⊢
 exact ⟨⟨_, Tryz.func163, rfl, rfl⟩, ot_1 v x (memOk_len hv.mem) hx H i hi⟩
theorem ds_119 (v : VVm) (x : List Int) : doneS v 119 [65, 66, 79, 82, 84] x = (v, [], -1) := by kernel_rfl
theorem do_119 (v : VVm) (hv : VmOk v) : PureC Tryz.prog 14 [eVm v, i64 119] (tVm (doS v 119)) := by
 have hk : takesS 119 (names.getD (119 : Int).toNat []) = 0 := by kernel_rfl
 have hn : names.getD (119 : Int).toNat [] = [65, 66, 79, 82, 84] := by kernel_rfl
 rw [doS_deed (by decide) (by decide), hk, hn, ds_119]
 refine do_deed v 119 0 80 [.row [fnP 165 []]] _ (by decide) (by decide) (by have := hv.d; omega) hv.data (by decide) (by simp) (by rw [hn]; exact found_ot 119 _ _ _ _ (by decide) (by simp) rfl rfl rfl rfl rfl rfl) (by (show List.length _ ≤ _; simp [pFetch, pFetchB, pPut, pLay, pPic, pDig, pAll, pCount, pDivMod, pStarMod, pStar, pUM, pM, pUMod, pSRem, pFMod, pSD, pWithin, pBodyP])) (fun hk H i hi => ?_)
 have hx := hv.x hk
 generalize v.d.drop (v.d.length - 0) = x at hx ⊢
 exact ⟨⟨_, Tryz.func80, rfl, rfl⟩, d_pure 165 [] v x (v, [], -1).2 (by simp) (fun H => ⟨⟨_, Tryz.func165, rfl, rfl⟩, ot_2 x H⟩) H i hi⟩
theorem ds_120 (v : VVm) (x : List Int) : doneS v 120 [80, 79, 83, 84] x = pPost v x := by kernel_rfl
theorem do_120 (v : VVm) (hv : VmOk v) : PureC Tryz.prog 14 [eVm v, i64 120] (tVm (doS v 120)) := by
 have hk : takesS 120 (names.getD (120 : Int).toNat []) = 3 := by kernel_rfl
 have hn : names.getD (120 : Int).toNat [] = [80, 79, 83, 84] := by kernel_rfl
 rw [doS_deed (by decide) (by decide), hk, hn, ds_120]
 refine do_deed v 120 3 244 [.row [i64 1], .row [i64 3]] _ (by decide) (by decide) (by have := hv.d; omega) hv.data (by decide) (by simp) (by rw [hn]; exact found_ot 120 _ _ _ _ (by decide) (by simp) rfl rfl rfl rfl rfl rfl) (by unfold pPost; split; simp; split <;> simp) (fun hk H i hi => ?_)
 have hx := hv.x hk
 generalize v.d.drop (v.d.length - 3) = x at hx ⊢
 exact ⟨⟨_, Tryz.func244, rfl, rfl⟩, d_post v x hv.req hv.hand hx H i hi⟩
theorem ds_121 (v : VVm) (x : List Int) : doneS v 121 [65, 70, 84, 69, 82] x = pTimer 2 v x := by kernel_rfl
theorem do_121 (v : VVm) (hv : VmOk v) : PureC Tryz.prog 14 [eVm v, i64 121] (tVm (doS v 121)) := by
 have hk : takesS 121 (names.getD (121 : Int).toNat []) = 4 := by kernel_rfl
 have hn : names.getD (121 : Int).toNat [] = [65, 70, 84, 69, 82] := by kernel_rfl
 rw [doS_deed (by decide) (by decide), hk, hn, ds_121]
 refine do_deed v 121 4 244 [.row [i64 2], .row [i64 4]] _ (by decide) (by decide) (by have := hv.d; omega) hv.data (by decide) (by simp) (by rw [hn]; exact found_ot 121 _ _ _ _ (by decide) (by simp) rfl rfl rfl rfl rfl rfl) (by unfold pTimer; split; simp; split; simp; split; simp; split <;> simp) (fun hk H i hi => ?_)
 have hx := hv.x hk
 generalize v.d.drop (v.d.length - 4) = x at hx ⊢
 exact ⟨⟨_, Tryz.func244, rfl, rfl⟩, d_timer 2 (by decide) v x hv.req hv.hand hx H i hi⟩
theorem ds_122 (v : VVm) (x : List Int) : doneS v 122 [69, 86, 69, 82, 89] x = pTimer 3 v x := by kernel_rfl
theorem do_122 (v : VVm) (hv : VmOk v) : PureC Tryz.prog 14 [eVm v, i64 122] (tVm (doS v 122)) := by
 have hk : takesS 122 (names.getD (122 : Int).toNat []) = 4 := by kernel_rfl
 have hn : names.getD (122 : Int).toNat [] = [69, 86, 69, 82, 89] := by kernel_rfl
 rw [doS_deed (by decide) (by decide), hk, hn, ds_122]
 refine do_deed v 122 4 244 [.row [i64 3], .row [i64 4]] _ (by decide) (by decide) (by have := hv.d; omega) hv.data (by decide) (by simp) (by rw [hn]; exact found_ot 122 _ _ _ _ (by decide) (by simp) rfl rfl rfl rfl rfl rfl) (by unfold pTimer; split; simp; split; simp; split; simp; split <;> simp) (fun hk H i hi => ?_)
 have hx := hv.x hk
 generalize v.d.drop (v.d.length - 4) = x at hx ⊢
 exact ⟨⟨_, Tryz.func244, rfl, rfl⟩, d_timer 3 (by decide) v x hv.req hv.hand hx H i hi⟩
theorem ds_123 (v : VVm) (x : List Int) : doneS v 123 [67, 65, 78, 67, 69, 76] x = pCancel v x := by kernel_rfl
theorem do_123 (v : VVm) (hv : VmOk v) : PureC Tryz.prog 14 [eVm v, i64 123] (tVm (doS v 123)) := by
 have hk : takesS 123 (names.getD (123 : Int).toNat []) = 1 := by kernel_rfl
 have hn : names.getD (123 : Int).toNat [] = [67, 65, 78, 67, 69, 76] := by kernel_rfl
 rw [doS_deed (by decide) (by decide), hk, hn, ds_123]
 refine do_deed v 123 1 244 [.row [i64 4], .row [i64 1]] _ (by decide) (by decide) (by have := hv.d; omega) hv.data (by decide) (by simp) (by rw [hn]; exact found_ot 123 _ _ _ _ (by decide) (by simp) rfl rfl rfl rfl rfl rfl) (by unfold pCancel; split <;> simp) (fun hk H i hi => ?_)
 have hx := hv.x hk
 generalize v.d.drop (v.d.length - 1) = x at hx ⊢
 exact ⟨⟨_, Tryz.func244, rfl, rfl⟩, d_cancel v x hv.req hx H i hi⟩
theorem ds_124 (v : VVm) (x : List Int) : doneS v 124 [65, 82, 71] x = (v, [v.arg], 0) := by kernel_rfl
theorem do_124 (v : VVm) (hv : VmOk v) : PureC Tryz.prog 14 [eVm v, i64 124] (tVm (doS v 124)) := by
 have hk : takesS 124 (names.getD (124 : Int).toNat []) = 0 := by kernel_rfl
 have hn : names.getD (124 : Int).toNat [] = [65, 82, 71] := by kernel_rfl
 rw [doS_deed (by decide) (by decide), hk, hn, ds_124]
 refine do_deed v 124 0 223 [.row [fnP 167 []]] _ (by decide) (by decide) (by have := hv.d; omega) hv.data (by decide) (by simp) (by rw [hn]; exact found_ot 124 _ _ _ _ (by decide) (by simp) rfl rfl rfl rfl rfl rfl) (by (show List.length _ ≤ _; simp [pFetch, pFetchB, pPut, pLay, pPic, pDig, pAll, pCount, pDivMod, pStarMod, pStar, pUM, pM, pUMod, pSRem, pFMod, pSD, pWithin, pBodyP])) (fun hk H i hi => ?_)
 have hx := hv.x hk
 generalize v.d.drop (v.d.length - 0) = x at hx ⊢
 exact ⟨⟨_, Tryz.func223, rfl, rfl⟩, d_shown 167 [] v x _ (by simp) (fun H => ⟨⟨_, Tryz.func167, rfl, rfl⟩, ot_3 v H⟩) H i hi⟩
theorem ds_125 (v : VVm) (x : List Int) : doneS v 125 [83, 69, 76, 70] x = (v, [v.self], 0) := by kernel_rfl
theorem do_125 (v : VVm) (hv : VmOk v) : PureC Tryz.prog 14 [eVm v, i64 125] (tVm (doS v 125)) := by
 have hk : takesS 125 (names.getD (125 : Int).toNat []) = 0 := by kernel_rfl
 have hn : names.getD (125 : Int).toNat [] = [83, 69, 76, 70] := by kernel_rfl
 rw [doS_deed (by decide) (by decide), hk, hn, ds_125]
 refine do_deed v 125 0 223 [.row [fnP 168 []]] _ (by decide) (by decide) (by have := hv.d; omega) hv.data (by decide) (by simp) (by rw [hn]; exact found_ot 125 _ _ _ _ (by decide) (by simp) rfl rfl rfl rfl rfl rfl) (by (show List.length _ ≤ _; simp [pFetch, pFetchB, pPut, pLay, pPic, pDig, pAll, pCount, pDivMod, pStarMod, pStar, pUM, pM, pUMod, pSRem, pFMod, pSD, pWithin, pBodyP])) (fun hk H i hi => ?_)
 have hx := hv.x hk
 generalize v.d.drop (v.d.length - 0) = x at hx ⊢
 exact ⟨⟨_, Tryz.func223, rfl, rfl⟩, d_shown 168 [] v x _ (by simp) (fun H => ⟨⟨_, Tryz.func168, rfl, rfl⟩, ot_4 v H⟩) H i hi⟩
theorem ds_126 (v : VVm) (x : List Int) : doneS v 126 [78, 79, 87] x = (v, [v.now], 0) := by kernel_rfl
theorem do_126 (v : VVm) (hv : VmOk v) : PureC Tryz.prog 14 [eVm v, i64 126] (tVm (doS v 126)) := by
 have hk : takesS 126 (names.getD (126 : Int).toNat []) = 0 := by kernel_rfl
 have hn : names.getD (126 : Int).toNat [] = [78, 79, 87] := by kernel_rfl
 rw [doS_deed (by decide) (by decide), hk, hn, ds_126]
 refine do_deed v 126 0 223 [.row [fnP 169 []]] _ (by decide) (by decide) (by have := hv.d; omega) hv.data (by decide) (by simp) (by rw [hn]; exact found_ot 126 _ _ _ _ (by decide) (by simp) rfl rfl rfl rfl rfl rfl) (by (show List.length _ ≤ _; simp [pFetch, pFetchB, pPut, pLay, pPic, pDig, pAll, pCount, pDivMod, pStarMod, pStar, pUM, pM, pUMod, pSRem, pFMod, pSD, pWithin, pBodyP])) (fun hk H i hi => ?_)
 have hx := hv.x hk
 generalize v.d.drop (v.d.length - 0) = x at hx ⊢
 exact ⟨⟨_, Tryz.func223, rfl, rfl⟩, d_shown 169 [] v x _ (by simp) (fun H => ⟨⟨_, Tryz.func169, rfl, rfl⟩, ot_5 v H⟩) H i hi⟩
theorem ds_127 (v : VVm) (x : List Int) : doneS v 127 [83, 69, 84, 45, 83, 84, 65, 84, 69] x = pSetState v x := by kernel_rfl
theorem do_127 (v : VVm) (hv : VmOk v) : PureC Tryz.prog 14 [eVm v, i64 127] (tVm (doS v 127)) := by
 have hk : takesS 127 (names.getD (127 : Int).toNat []) = 2 := by kernel_rfl
 have hn : names.getD (127 : Int).toNat [] = [83, 69, 84, 45, 83, 84, 65, 84, 69] := by kernel_rfl
 rw [doS_deed (by decide) (by decide), hk, hn, ds_127]
 refine do_deed v 127 2 170 [] _ (by decide) (by decide) (by have := hv.d; omega) hv.data (by decide) (by simp) (by rw [hn]; exact found_ot 127 _ _ _ _ (by decide) (by simp) rfl rfl rfl rfl rfl rfl) (by unfold pSetState pPut; split <;> simp) (fun hk H i hi => ?_)
 have hx := hv.x hk
 generalize v.d.drop (v.d.length - 2) = x at hx ⊢
 exact ⟨⟨_, Tryz.func170, rfl, rfl⟩, ot_6 v x hv.mem hx H i hi⟩
theorem ds_128 (v : VVm) (x : List Int) : doneS v 128 [65, 84, 45, 83, 84, 65, 84, 69] x = pAtState v x := by kernel_rfl
theorem do_128 (v : VVm) (hv : VmOk v) : PureC Tryz.prog 14 [eVm v, i64 128] (tVm (doS v 128)) := by
 have hk : takesS 128 (names.getD (128 : Int).toNat []) = 3 := by kernel_rfl
 have hn : names.getD (128 : Int).toNat [] = [65, 84, 45, 83, 84, 65, 84, 69] := by kernel_rfl
 rw [doS_deed (by decide) (by decide), hk, hn, ds_128]
 refine do_deed v 128 3 172 [] _ (by decide) (by decide) (by have := hv.d; omega) hv.data (by decide) (by simp) (by rw [hn]; exact found_ot 128 _ _ _ _ (by decide) (by simp) rfl rfl rfl rfl rfl rfl) (by unfold pAtState pPut; split <;> simp) (fun hk H i hi => ?_)
 have hx := hv.x hk
 generalize v.d.drop (v.d.length - 3) = x at hx ⊢
 exact ⟨⟨_, Tryz.func172, rfl, rfl⟩, ot_7 v x hv.mem hx H i hi⟩
theorem ds_129 (v : VVm) (x : List Int) : doneS v 129 [71, 69, 84, 45, 83, 84, 65, 84, 69] x = pFetch v x := by kernel_rfl
theorem do_129 (v : VVm) (hv : VmOk v) : PureC Tryz.prog 14 [eVm v, i64 129] (tVm (doS v 129)) := by
 have hk : takesS 129 (names.getD (129 : Int).toNat []) = 1 := by kernel_rfl
 have hn : names.getD (129 : Int).toNat [] = [71, 69, 84, 45, 83, 84, 65, 84, 69] := by kernel_rfl
 rw [doS_deed (by decide) (by decide), hk, hn, ds_129]
 refine do_deed v 129 1 216 [.row [fnP 105 []]] _ (by decide) (by decide) (by have := hv.d; omega) hv.data (by decide) (by simp) (by rw [hn]; exact found_ot 129 _ _ _ _ (by decide) (by simp) rfl rfl rfl rfl rfl rfl) (by (show List.length _ ≤ _; simp [pFetch, pFetchB, pPut, pLay, pPic, pDig, pAll, pCount, pDivMod, pStarMod, pStar, pUM, pM, pUMod, pSRem, pFMod, pSD, pWithin, pBodyP])) (fun hk H i hi => ?_)
 have hx := hv.x hk
 generalize v.d.drop (v.d.length - 1) = x at hx ⊢
 exact ⟨⟨_, Tryz.func216, rfl, rfl⟩, d_fetches 105 [] v x _ hx.len (by simp) (fun H => ⟨⟨_, Tryz.func105, rfl, rfl⟩, (mem_Fetch v.mem _ (memOk_len hv.mem) (hx.fit 0)) H⟩) H i hi⟩
theorem shuf_mem {n : Int} (h0 : 23 ≤ n) (h1 : n ≤ 38) : names.getD n.toNat [] ∈ shufNames := by
 have : n = 23 ∨ n = 24 ∨ n = 25 ∨ n = 26 ∨ n = 27 ∨ n = 28 ∨ n = 29 ∨ n = 30 ∨ n = 31 ∨ n = 32 ∨ n = 33 ∨ n = 34 ∨ n = 35 ∨ n = 36 ∨ n = 37 ∨ n = 38 := by omega
 rcases this with rfl | rfl | rfl | rfl | rfl | rfl | rfl | rfl | rfl | rfl | rfl | rfl | rfl | rfl | rfl | rfl <;> decide
theorem prim_Do (v : VVm) (hv : VmOk v) (n : Int) : PureC Tryz.prog 14 [eVm v, i64 n] (tVm (doS v n)) := by
 by_cases h : 23 ≤ n ∧ n ≤ 129
 ·by_cases h1 : n ≤ 38
  ·have hs : names.getD n.toNat [] ∈ shufNames := shuf_mem h.1 h1
   have e : doS v n = ({ v with d := (shuffleS (names.getD n.toNat []) v.d v.conf.data).1 }, (shuffleS (names.getD n.toNat []) v.d v.conf.data).2.2) := by
    unfold doS; rw [if_neg (by omega)]; simp only; rw [if_pos h1]
   rw [e]
   exact do_shuffle v n h.1 h1 hs (by have := hv.d; omega) hv.data
  ·by_cases h2 : n ≤ 58
   ·exact do_two v hv n (by omega) h2
   ·by_cases h3 : n ≤ 72
    ·exact do_one v hv n (by omega) h3
    ·have : n = 73 ∨ n = 74 ∨ n = 75 ∨ n = 76 ∨ n = 77 ∨ n = 78 ∨ n = 79 ∨ n = 80 ∨ n = 81 ∨ n = 82 ∨ n = 83 ∨ n = 84 ∨ n = 85 ∨ n = 86 ∨ n = 87 ∨ n = 88 ∨ n = 89 ∨ n = 90 ∨ n = 91 ∨ n = 92 ∨ n = 93 ∨ n = 94 ∨ n = 95 ∨ n = 96 ∨ n = 97 ∨ n = 98 ∨ n = 99 ∨ n = 100 ∨ n = 101 ∨ n = 102 ∨ n = 103 ∨ n = 104 ∨ n = 105 ∨ n = 106 ∨ n = 107 ∨ n = 108 ∨ n = 109 ∨ n = 110 ∨ n = 111 ∨ n = 112 ∨ n = 113 ∨ n = 114 ∨ n = 115 ∨ n = 116 ∨ n = 117 ∨ n = 118 ∨ n = 119 ∨ n = 120 ∨ n = 121 ∨ n = 122 ∨ n = 123 ∨ n = 124 ∨ n = 125 ∨ n = 126 ∨ n = 127 ∨ n = 128 ∨ n = 129 := by omega
     rcases this with rfl | rfl | rfl | rfl | rfl | rfl | rfl | rfl | rfl | rfl | rfl | rfl | rfl | rfl | rfl | rfl | rfl | rfl | rfl | rfl | rfl | rfl | rfl | rfl | rfl | rfl | rfl | rfl | rfl | rfl | rfl | rfl | rfl | rfl | rfl | rfl | rfl | rfl | rfl | rfl | rfl | rfl | rfl | rfl | rfl | rfl | rfl | rfl | rfl | rfl | rfl | rfl | rfl | rfl | rfl | rfl | rfl
     ·exact do_73 v hv
     ·exact do_74 v hv
     ·exact do_75 v hv
     ·exact do_76 v hv
     ·exact do_77 v hv
     ·exact do_78 v hv
     ·exact do_79 v hv
     ·exact do_80 v hv
     ·exact do_81 v hv
     ·exact do_82 v hv
     ·exact do_83 v hv
     ·exact do_84 v hv
     ·exact do_85 v hv
     ·exact do_86 v hv
     ·exact do_87 v hv
     ·exact do_88 v hv
     ·exact do_89 v hv
     ·exact do_90 v hv
     ·exact do_91 v hv
     ·exact do_92 v hv
     ·exact do_93 v hv
     ·exact do_94 v hv
     ·exact do_95 v hv
     ·exact do_96 v hv
     ·exact do_97 v hv
     ·exact do_98 v hv
     ·exact do_99 v hv
     ·exact do_100 v hv
     ·exact do_101 v hv
     ·exact do_102 v hv
     ·exact do_103 v hv
     ·exact do_104 v hv
     ·exact do_105 v hv
     ·exact do_106 v hv
     ·exact do_107 v hv
     ·exact do_108 v hv
     ·exact do_109 v hv
     ·exact do_110 v hv
     ·exact do_111 v hv
     ·exact do_112 v hv
     ·exact do_113 v hv
     ·exact do_114 v hv
     ·exact do_115 v hv
     ·exact do_116 v hv
     ·exact do_117 v hv
     ·exact do_118 v hv
     ·exact do_119 v hv
     ·exact do_120 v hv
     ·exact do_121 v hv
     ·exact do_122 v hv
     ·exact do_123 v hv
     ·exact do_124 v hv
     ·exact do_125 v hv
     ·exact do_126 v hv
     ·exact do_127 v hv
     ·exact do_128 v hv
     ·exact do_129 v hv
 ·have e : doS v n = (v, -24) := by unfold doS; rw [if_pos (by omega)]
  rw [e]; exact do_bad v n h
end Go.Proofs.YtphgdofmjpdhaaaGreat
