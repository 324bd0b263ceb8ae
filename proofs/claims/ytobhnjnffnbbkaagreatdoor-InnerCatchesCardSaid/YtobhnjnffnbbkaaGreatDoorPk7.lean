import Derived.Test.YtobhnjnffnbbkaaGreatDoorPk6
set_option linter.unusedVariables false
set_option linter.unusedSimpArgs false
namespace Go.Proofs.YtobhnjnffnbbkaaGreatDoor
open Go.RowKit
set_option maxRecDepth 100000
set_option maxHeartbeats 4000000
theorem shuffle_of {name : Str} {s : List Int} {limit : Int} {tk : Nat} {lv : List Int} (h1 : takesK name s = (tk : Int)) (h2 : leftK name (s.drop (s.length - tk)) s.length = lv) :
  shuffleS name s limit = if s.length < tk then (s, true, -4) else stkLaid s tk lv limit := by
 have e : (takesK name s).toNat = tk := by rw [h1]; rfl
 unfold shuffleS
 rw [e, h2, h1, if_neg (by omega)]
 by_cases h : s.length < tk
 ·rw [if_pos h, if_pos (by omega)]
 ·rw [if_neg h, if_neg (by omega)]
  unfold stkLaid
  rfl
theorem stk_DEPTH (s : List Int) (limit : Int) (hs : s.length ≤ 100000) (hm : -9223372036854775808 ≤ limit ∧ limit ≤ 9223372036854775807) : PureC Tryz.prog 110 [str [68, 69, 80, 84, 72], sq cInt s, i64 limit] (tStk (shuffleS [68, 69, 80, 84, 72] s limit)) := by
 refine pW tG (rs := [.tmp 6, .tmp 7, .tmp 8]) Tryz.func110 rfl rfl rfl (by simp) (by simp) (fun B => ?_)
 refine zu3 ?_
 refine Ws ?_
 refine zu1 ?_
 refine Wl ?_
 refine zp1 ?_
 refine Wa 17 rfl (str_eql _ _) ?_
 refine zs1 ?_
 refine Wt rfl (by decide) ?_
 refine zp4 ?_
 refine Wa 21 rfl (bsL cInt [_] rfl rfl) ?_
 refine z1 ?_
 refine Wc rfl rfl (dC rfl Tryz.func144 rfl rfl ((stk_laid s 0 _ limit hs (by omega) (by simp) hm) _)) ?_
 refine zy5 ?_
 refine zs1 ?_
 refine zR ?_
 rw [shuffle_of (tk := 0) (lv := [(s.length : Int)]) rfl rfl, if_neg (by omega)]; rfl
theorem getD_drop' {s : List Int} {k : Nat} : (s.drop k).getD 0 0 = s.getD k 0 := by unfold List.getD; rw [List.getElem?_drop]; rfl
theorem getD_take' {s : List Int} {k n : Nat} (h : k < n) : (s.take n).getD k 0 = s.getD k 0 := by unfold List.getD; rw [List.getElem?_take, if_pos h]
theorem pick_bad {name : Str} {s : List Int} {limit : Int} {roll : Bool} (hp : takesK name s = pickK s) (hc : s.length = 0 ∨ s.getD (s.length - 1) 0 < 0 ∨ (s.length : Int) - 1 ≤ s.getD (s.length - 1) 0) : stkDeep s roll limit = shuffleS name s limit := by
 have e : pickK s = (s.length : Int) + 1 := by rw [pickK, if_pos hc]
 unfold shuffleS
 rw [hp, e, if_neg (by omega), if_pos (by omega)]
 unfold stkDeep
 rw [if_pos]
 unfold stkPop
 split
 ·exact .inl (by simp)
 ·rename_i h0
  refine .inr ?_
  rcases hc with hc | hc | hc
  ·exact absurd hc h0
  ·exact .inl hc
  ·refine .inr ?_
   simp only [List.length_take]; omega
theorem pick_good {name : Str} {s : List Int} {limit : Int} {roll : Bool} (hp : takesK name s = pickK s) (hl : ∀ x d, leftK name x d = if roll then (x.take (x.length - 1)).drop 1 ++ [xat x 0] else x.take (x.length - 1) ++ [xat x 0])
  (hc : ¬ (s.length = 0 ∨ s.getD (s.length - 1) 0 < 0 ∨ (s.length : Int) - 1 ≤ s.getD (s.length - 1) 0)) : stkDeep s roll limit = shuffleS name s limit := by
 have h0 : s.length ≠ 0 := fun h => hc (.inl h)
 obtain ⟨t, ht⟩ : ∃ t : Nat, s.getD (s.length - 1) 0 = t := ⟨(s.getD (s.length - 1) 0).toNat, by have : ¬ s.getD (s.length - 1) 0 < 0 := fun h => hc (.inr (.inl h)); omega⟩
 have hlt : t + 2 ≤ s.length := by have : ¬ ((s.length : Int) - 1 ≤ s.getD (s.length - 1) 0) := fun h => hc (.inr (.inr h)); omega
 have e : pickK s = ((t + 2 : Nat) : Int) := by rw [pickK, if_neg hc, ht]; rfl
 have hd : (s.drop (s.length - (t + 2))).length = t + 2 := by rw [List.length_drop]; omega
 have hx : xat (s.drop (s.length - (t + 2))) 0 = s.getD (s.length - (t + 2)) 0 := getD_drop'
 have hpop : stkPop s = ((t : Int), s.take (s.length - 1), 0) := by unfold stkPop; rw [if_neg h0, ht]
 rw [shuffle_of (tk := t + 2) (hp.trans e) (hl _ _), if_neg (by omega)]
 unfold stkDeep
 rw [hpop]
 simp only [List.length_take, Int.toNat_natCast, Nat.min_eq_left (show s.length - 1 ≤ s.length by omega)]
 rw [if_neg (by rintro (h | h | h) <;> omega), hd, hx]
 have e1 : s.length - 1 - 1 - t = s.length - (t + 2) := by omega
 rw [e1, getD_take' (by omega)]
 cases roll with
 | true =>
  simp only [if_true]
  congr 2
  rw [List.drop_take, List.drop_take, List.drop_drop]
  have e2 : s.length - (t + 2) + 1 = s.length - (t + 2) + 1 := rfl
  have e3 : s.length - 1 - (s.length - (t + 2) + 1) = t + 2 - 1 - 1 := by omega
  rw [e3]
 | false =>
  simp only [Bool.false_eq_true, if_false]
  unfold stkLaid
  have hl1 : ((s.drop (s.length - (t + 2))).take (t + 2 - 1) ++ [s.getD (s.length - (t + 2)) 0]).length = t + 2 := by rw [List.length_append, List.length_take, hd]; simp
  have e2 : s.length - (t + 2) + ((s.drop (s.length - (t + 2))).take (t + 2 - 1) ++ [s.getD (s.length - (t + 2)) 0]).length = s.length - 1 + [s.getD (s.length - (t + 2)) 0].length := by rw [hl1]; simp; omega
  rw [e2, ← List.append_assoc, ← List.take_add]
  have e3 : s.length - (t + 2) + (t + 2 - 1) = s.length - 1 := by omega
  rw [e3]
theorem pick_shuffle {name : Str} {s : List Int} {limit : Int} {roll : Bool} (hp : takesK name s = pickK s) (hl : ∀ x d, leftK name x d = if roll then (x.take (x.length - 1)).drop 1 ++ [xat x 0] else x.take (x.length - 1) ++ [xat x 0]) :
  stkDeep s roll limit = shuffleS name s limit := by
 by_cases hc : s.length = 0 ∨ s.getD (s.length - 1) 0 < 0 ∨ (s.length : Int) - 1 ≤ s.getD (s.length - 1) 0
 ·exact pick_bad hp hc
 ·exact pick_good hp hl hc
theorem stk_PICK (s : List Int) (limit : Int) (hs : s.length ≤ 100000) (hm : -9223372036854775808 ≤ limit ∧ limit ≤ 9223372036854775807) : PureC Tryz.prog 110 [str [80, 73, 67, 75], sq cInt s, i64 limit] (tStk (stkDeep s false limit)) := by
 refine pW tG (rs := [.tmp 6, .tmp 7, .tmp 8]) Tryz.func110 rfl rfl rfl (by simp) (by simp) (fun B => ?_)
 refine zu3 ?_
 refine Ws ?_
 refine zu1 ?_
 refine Wl ?_
 refine zp1 ?_
 refine Wa 17 rfl (str_eql _ _) ?_
 refine zs1 ?_
 refine Wf rfl (by decide) ?_
 refine Ws ?_
 refine zp1 ?_
 refine Wa 28 rfl (str_eql _ _) ?_
 refine zs1 ?_
 refine Wt rfl (by decide) ?_
 refine Wj ?_
 refine Wt rfl (by decide) ?_
 refine zp3 ?_
 refine Wa 32 rfl (str_eql _ _) ?_
 refine z1 ?_
 refine Wc rfl rfl (dC rfl Tryz.func145 rfl rfl ((stk_deep s _ limit hs hm) _)) ?_
 refine zy5 ?_
 refine zs1 ?_
 refine zR ?_
 rfl
theorem stk_ROLL (s : List Int) (limit : Int) (hs : s.length ≤ 100000) (hm : -9223372036854775808 ≤ limit ∧ limit ≤ 9223372036854775807) : PureC Tryz.prog 110 [str [82, 79, 76, 76], sq cInt s, i64 limit] (tStk (stkDeep s true limit)) := by
 refine pW tG (rs := [.tmp 6, .tmp 7, .tmp 8]) Tryz.func110 rfl rfl rfl (by simp) (by simp) (fun B => ?_)
 refine zu3 ?_
 refine Ws ?_
 refine zu1 ?_
 refine Wl ?_
 refine zp1 ?_
 refine Wa 17 rfl (str_eql _ _) ?_
 refine zs1 ?_
 refine Wf rfl (by decide) ?_
 refine Ws ?_
 refine zp1 ?_
 refine Wa 28 rfl (str_eql _ _) ?_
 refine zs1 ?_
 refine Wf rfl (by decide) ?_
 refine W_region rfl ?_
 refine z1 ?_
 refine Wa 29 rfl (str_eql _ _) ?_
 refine zs1 ?_
 refine Wt rfl (by decide) ?_
 refine zp3 ?_
 refine Wa 32 rfl (str_eql _ _) ?_
 refine z1 ?_
 refine Wc rfl rfl (dC rfl Tryz.func145 rfl rfl ((stk_deep s _ limit hs hm) _)) ?_
 refine zy5 ?_
 refine zs1 ?_
 refine zR ?_
 rfl
def qdupS (s : List Int) (limit : Int) : List Int × Bool × Int :=
 if s.length = 0 then (s, true, -4) else stkLaid s 1 (if s.getD (s.length - 1) 0 = 0 then [xat (s.drop (s.length - 1)) 0] else [xat (s.drop (s.length - 1)) 0, xat (s.drop (s.length - 1)) 0]) limit
theorem stk_QDUP (s : List Int) (limit : Int) (hs : s.length ≤ 100000) (hm : -9223372036854775808 ≤ limit ∧ limit ≤ 9223372036854775807) : PureC Tryz.prog 110 [str [63, 68, 85, 80], sq cInt s, i64 limit] (tStk (qdupS s limit)) := by
 refine pW tG (rs := [.tmp 6, .tmp 7, .tmp 8]) Tryz.func110 rfl rfl rfl (by simp) (by simp) (fun B => ?_)
 refine zu3 ?_
 refine Ws ?_
 refine zu1 ?_
 refine Wl ?_
 refine zp1 ?_
 refine Wa 17 rfl (str_eql _ _) ?_
 refine zs1 ?_
 refine Wf rfl (by decide) ?_
 refine Ws ?_
 refine zp1 ?_
 refine Wa 28 rfl (str_eql _ _) ?_
 refine zs1 ?_
 refine Wf rfl (by decide) ?_
 refine W_region rfl ?_
 refine z1 ?_
 refine Wa 29 rfl (str_eql _ _) ?_
 refine zs1 ?_
 refine Wf rfl (by decide) ?_
 refine Wj ?_
 refine z8 ?_
 refine Wc rfl rfl (dC rfl Tryz.func146 rfl rfl ((stk_shapes) _)) ?_
 refine z1 ?_
 refine Wd rfl rfl (does_lookup (b := true) (e := 209) (key := .s [63, 68, 85, 80]) (by kernel_rfl) (lO tG rfl) (by kernel_rfl) rfl rfl rfl rfl (by kernel_rfl) ((show lkPV shapeK shapeV (.s [63, 68, 85, 80]) (PV.agg [i64 0, str []]) = (PV.agg [i64 0, str []], false) from rfl))) ?_
 refine zy5 ?_
 refine zs1 ?_
 refine Ws ?_
 refine zp2 ?_
 refine Wa 45 rfl (str_eql _ _) ?_
 refine Wn ?_
 refine Wt rfl (by decide) ?_
 refine zu3 ?_
 refine zp4 ?_
 refine Wb 50 rfl (fun hg1 => ?_) (fun hg1 => ?_)
 ·have h0 : ¬ s.length = 0 := by (try simp only [dnL] at *); omega
  have w1 : IntKind.i64.wrap ((s.length : Int) - 1) = ((s.length - 1 : Nat) : Int) := by ((rw [i64w]; unfold wrap64; (try simp only [dnL] at *); omega))
  refine zy4 ?_
  refine Wa 54 rfl (congrArg (fun z => PV.val (Value.int .i64 z)) w1) ?_
  refine Wv tG rfl rfl rfl (by omega) (iN cInt 1 (fun _ => rfl) 0 (by omega)) ?_
  refine zs3 ?_
  refine Wi rfl (fun hi5 => ?_) (fun hi5 => ?_)
  ·have h1 : s.getD (s.length - 1) 0 = 0 := oT hi5
   refine W_region rfl ?_
   refine zs2 ?_
   refine Ws ?_
   refine zu2 ?_
   refine Wf rfl rfl ?_
   refine Wj ?_
   refine Ws ?_
   refine zu5 ?_
   refine Wf rfl (by (simp only [dnL] at *; omega)) ?_
   refine Wj ?_
   refine zp5 ?_
   refine z1 ?_
   refine Wa 74 rfl (congrArg (fun z => PV.val (Value.int .i64 z)) w1) ?_
   refine z2 ?_ (q := (by (simp_all; done)))
   refine Wa 75 rfl (sq_slice cInt 1 (fun _ => rfl) (by omega)) ?_
   refine Wa 75 rfl ((show _ = sq cInt (s.drop (s.length - 1)) by rw [List.take_length, Int.toNat_natCast]; rfl)) ?_
   refine zs1 ?_
   refine zu1 ?_
   refine Ws ?_
   refine zp2 ?_
   refine Wd rfl rfl (does_rangeStr (lO tG rfl) rfl rfl rfl) ?_
   refine Wn ?_
   refine Wl ?_
   refine W_rounds 4 ?_
   show W _ _ _ _ _ _ _
   refine z8 ?_
   refine Wd rfl rfl (does_next rfl rfl rfl (by decide) (by decide)) ?_
   refine zs1 ?_
   refine Ws ?_
   refine Wt rfl rfl ?_
   refine Wj ?_
   refine Wl ?_
   refine zu2 ?_
   refine W_region rfl ?_
   refine zy4 ?_
   refine Wa 85 rfl ((show _ = PV.val (.int .i32 0) from rfl)) ?_
   refine Wv tG rfl rfl rfl (by simp only [List.length_drop]; omega) (iN cInt 1 (fun _ => rfl) 0 (by simp only [List.length_drop]; omega)) ?_
   refine zy2 ?_
   refine Wa 88 rfl (bsL cInt [_] rfl rfl) ?_
   refine Wd rfl rfl (does_append_clip (lO tG rfl) rfl (lO tG rfl) (lO tG rfl) rfl rfl (by exact ⟨_, rfl⟩) (by exact ⟨rfl, rfl, flatMap_len _ 1 (fun _ => rfl) _, okC_flat _ (fun _ => rfl) _⟩) (by rfl) (by ((simp_all; done))) (by ((simp_all; done)))) ?_
   refine Wa 89 rfl (sq_one cInt _) ?_
   refine zs1 ?_
   show W _ _ _ _ _ _ _
   refine z8 ?_
   refine Wd rfl rfl (does_next_end rfl rfl rfl (by decide)) ?_
   refine zs1 ?_
   refine Ws ?_
   refine Wf rfl rfl ?_
   refine W_exit ?_
   refine zp5 ?_
   refine Wc rfl rfl (dC rfl Tryz.func144 rfl rfl ((stk_laid s 1 _ limit hs (by omega) (by simp) hm) _)) ?_
   refine zy5 ?_
   refine zs1 ?_
   refine zR ?_
   rw [qdupS, if_neg h0, if_pos h1]; rfl
  ·have h1 : ¬ s.getD (s.length - 1) 0 = 0 := oF hi5
   refine Wj ?_
   refine Ws ?_
   refine zu2 ?_
   refine Wf rfl rfl ?_
   refine Wj ?_
   refine Ws ?_
   refine zu5 ?_
   refine Wf rfl (by (simp only [dnL] at *; omega)) ?_
   refine Wj ?_
   refine zp5 ?_
   refine z1 ?_
   refine Wa 74 rfl (congrArg (fun z => PV.val (Value.int .i64 z)) w1) ?_
   refine z2 ?_ (q := (by (simp_all; done)))
   refine Wa 75 rfl (sq_slice cInt 1 (fun _ => rfl) (by omega)) ?_
   refine Wa 75 rfl ((show _ = sq cInt (s.drop (s.length - 1)) by rw [List.take_length, Int.toNat_natCast]; rfl)) ?_
   refine zs1 ?_
   refine zu1 ?_
   refine Ws ?_
   refine zp2 ?_
   refine Wd rfl rfl (does_rangeStr (lO tG rfl) rfl rfl rfl) ?_
   refine Wn ?_
   refine Wl ?_
   refine W_rounds 4 ?_
   show W _ _ _ _ _ _ _
   refine z8 ?_
   refine Wd rfl rfl (does_next rfl rfl rfl (by decide) (by decide)) ?_
   refine zs1 ?_
   refine Ws ?_
   refine Wt rfl rfl ?_
   refine Wj ?_
   refine Wl ?_
   refine zu2 ?_
   refine W_region rfl ?_
   refine zy4 ?_
   refine Wa 85 rfl ((show _ = PV.val (.int .i32 0) from rfl)) ?_
   refine Wv tG rfl rfl rfl (by simp only [List.length_drop]; omega) (iN cInt 1 (fun _ => rfl) 0 (by simp only [List.length_drop]; omega)) ?_
   refine zy2 ?_
   refine Wa 88 rfl (bsL cInt [_] rfl rfl) ?_
   refine Wd rfl rfl (does_append_clip (lO tG rfl) rfl (lO tG rfl) (lO tG rfl) rfl rfl (by exact ⟨_, rfl⟩) (by exact ⟨rfl, rfl, flatMap_len _ 1 (fun _ => rfl) _, okC_flat _ (fun _ => rfl) _⟩) (by rfl) (by ((simp_all; done))) (by ((simp_all; done)))) ?_
   refine Wa 89 rfl (sq_one cInt _) ?_
   refine zs1 ?_
   show W _ _ _ _ _ _ _
   refine z8 ?_
   refine Wd rfl rfl (does_next rfl rfl rfl (by decide) (by decide)) ?_
   refine zs1 ?_
   refine Ws ?_
   refine Wt rfl rfl ?_
   refine Wj ?_
   refine Wl ?_
   refine zu2 ?_
   refine W_region rfl ?_
   refine zy4 ?_
   refine Wa 85 rfl ((show _ = PV.val (.int .i32 0) from rfl)) ?_
   refine Wv tG rfl rfl rfl (by simp only [List.length_drop]; omega) (iN cInt 1 (fun _ => rfl) 0 (by simp only [List.length_drop]; omega)) ?_
   refine zy2 ?_
   refine Wa 88 rfl (bsL cInt [_] rfl rfl) ?_
   refine Wd rfl rfl (does_append_own (lO tG rfl) rfl (lO tG rfl) (lO tG rfl) rfl rfl rfl rfl (by simp) (by exact ⟨_, rfl⟩) (by exact ⟨rfl, rfl, flatMap_len _ 1 (fun _ => rfl) _, okC_flat _ (fun _ => rfl) _⟩) (by ((simp_all; done))) (by ((simp_all; done)))) ?_
   refine Wa 89 rfl (sq_append cInt) ?_
   refine zs1 ?_
   show W _ _ _ _ _ _ _
   refine z8 ?_
   refine Wd rfl rfl (does_next_end rfl rfl rfl (by decide)) ?_
   refine zs1 ?_
   refine Ws ?_
   refine Wf rfl rfl ?_
   refine W_exit ?_
   refine zp5 ?_
   refine Wc rfl rfl (dC rfl Tryz.func144 rfl rfl ((stk_laid s 1 _ limit hs (by omega) (by simp) hm) _)) ?_
   refine zy5 ?_
   refine zs1 ?_
   refine zR ?_
   rw [qdupS, if_neg h0, if_neg h1]; rfl
 ·have h0 : s.length = 0 := by (try simp only [dnL] at *); omega
  have w1 : IntKind.i64.wrap ((s.length : Int) - 1) = -1 := by ((rw [i64w]; unfold wrap64; (try simp only [dnL] at *); omega))
  iterate 7 refine z6 ?_
  refine zs1 ?_
  refine Wf rfl rfl ?_
  refine Wj ?_
  refine Ws ?_
  refine zu2 ?_
  refine Wf rfl rfl ?_
  refine Wj ?_
  refine Ws ?_
  refine zu5 ?_
  refine Wt rfl (by (simp only [dnL] at *; omega)) ?_
  refine zu4 ?_
  refine zR ?_
  rw [qdupS, if_pos h0]; rfl
def shufNames : List Str := [[68, 85, 80], [68, 82, 79, 80], [83, 87, 65, 80], [79, 86, 69, 82], [78, 73, 80], [84, 85, 67, 75], [82, 79, 84], [45, 82, 79, 84], [50, 68, 85, 80], [50, 68, 82, 79, 80], [50, 83, 87, 65, 80], [50, 79, 86, 69, 82], [63, 68, 85, 80], [80, 73, 67, 75], [82, 79, 76, 76], [68, 69, 80, 84, 72]]
theorem qdup_shuffle (s : List Int) (limit : Int) : qdupS s limit = shuffleS [63, 68, 85, 80] s limit := by
 rw [shuffle_of (tk := 1) (lv := if xat (s.drop (s.length - 1)) 0 = 0 then s.drop (s.length - 1) else [xat (s.drop (s.length - 1)) 0, xat (s.drop (s.length - 1)) 0]) rfl rfl]
 unfold qdupS
 by_cases h0 : s.length = 0
 ·rw [if_pos h0, if_pos (show s.length < 1 by omega)]
 ·rw [if_neg h0, if_neg (show ¬ s.length < 1 by omega)]
  have hx : xat (s.drop (s.length - 1)) 0 = s.getD (s.length - 1) 0 := getD_drop'
  have hd : s.drop (s.length - 1) = [s.getD (s.length - 1) 0] := by
   rw [List.drop_eq_getElem_cons (by omega), show s.length - 1 + 1 = s.length by omega, List.drop_length]
   simp [List.getD, List.getElem?_eq_getElem (show s.length - 1 < s.length by omega)]
  rw [hx, hd]
theorem stk_Shuffle (name : Str) (hn : name ∈ shufNames) (s : List Int) (limit : Int) (hs : s.length ≤ 100000) (hm : -9223372036854775808 ≤ limit ∧ limit ≤ 9223372036854775807) : PureC Tryz.prog 110 [str name, sq cInt s, i64 limit] (tStk (shuffleS name s limit)) := by
 simp only [shufNames, List.mem_cons, List.not_mem_nil, or_false] at hn
 rcases hn with rfl | rfl | rfl | rfl | rfl | rfl | rfl | rfl | rfl | rfl | rfl | rfl | rfl | rfl | rfl | rfl
 ·rw [shuffle_of (tk := 1) (lv := ([97, 97] : Str).map fun c => (s.drop (s.length - 1)).getD (c.toNat - 97) 0) rfl rfl]
  exact stk_word _ s limit 1 [97, 97] hs hm (by decide) (by decide) (by decide) (by decide) rfl (by decide) (by decide) (by decide)
 ·rw [shuffle_of (tk := 1) (lv := ([] : Str).map fun c => (s.drop (s.length - 1)).getD (c.toNat - 97) 0) rfl rfl]
  exact stk_word _ s limit 1 [] hs hm (by decide) (by decide) (by decide) (by decide) rfl (by decide) (by decide) (by decide)
 ·rw [shuffle_of (tk := 2) (lv := ([98, 97] : Str).map fun c => (s.drop (s.length - 2)).getD (c.toNat - 97) 0) rfl rfl]
  exact stk_word _ s limit 2 [98, 97] hs hm (by decide) (by decide) (by decide) (by decide) rfl (by decide) (by decide) (by decide)
 ·rw [shuffle_of (tk := 2) (lv := ([97, 98, 97] : Str).map fun c => (s.drop (s.length - 2)).getD (c.toNat - 97) 0) rfl rfl]
  exact stk_word _ s limit 2 [97, 98, 97] hs hm (by decide) (by decide) (by decide) (by decide) rfl (by decide) (by decide) (by decide)
 ·rw [shuffle_of (tk := 2) (lv := ([98] : Str).map fun c => (s.drop (s.length - 2)).getD (c.toNat - 97) 0) rfl rfl]
  exact stk_word _ s limit 2 [98] hs hm (by decide) (by decide) (by decide) (by decide) rfl (by decide) (by decide) (by decide)
 ·rw [shuffle_of (tk := 2) (lv := ([98, 97, 98] : Str).map fun c => (s.drop (s.length - 2)).getD (c.toNat - 97) 0) rfl rfl]
  exact stk_word _ s limit 2 [98, 97, 98] hs hm (by decide) (by decide) (by decide) (by decide) rfl (by decide) (by decide) (by decide)
 ·rw [shuffle_of (tk := 3) (lv := ([98, 99, 97] : Str).map fun c => (s.drop (s.length - 3)).getD (c.toNat - 97) 0) rfl rfl]
  exact stk_word _ s limit 3 [98, 99, 97] hs hm (by decide) (by decide) (by decide) (by decide) rfl (by decide) (by decide) (by decide)
 ·rw [shuffle_of (tk := 3) (lv := ([99, 97, 98] : Str).map fun c => (s.drop (s.length - 3)).getD (c.toNat - 97) 0) rfl rfl]
  exact stk_word _ s limit 3 [99, 97, 98] hs hm (by decide) (by decide) (by decide) (by decide) rfl (by decide) (by decide) (by decide)
 ·rw [shuffle_of (tk := 2) (lv := ([97, 98, 97, 98] : Str).map fun c => (s.drop (s.length - 2)).getD (c.toNat - 97) 0) rfl rfl]
  exact stk_word _ s limit 2 [97, 98, 97, 98] hs hm (by decide) (by decide) (by decide) (by decide) rfl (by decide) (by decide) (by decide)
 ·rw [shuffle_of (tk := 2) (lv := ([] : Str).map fun c => (s.drop (s.length - 2)).getD (c.toNat - 97) 0) rfl rfl]
  exact stk_word _ s limit 2 [] hs hm (by decide) (by decide) (by decide) (by decide) rfl (by decide) (by decide) (by decide)
 ·rw [shuffle_of (tk := 4) (lv := ([99, 100, 97, 98] : Str).map fun c => (s.drop (s.length - 4)).getD (c.toNat - 97) 0) rfl rfl]
  exact stk_word _ s limit 4 [99, 100, 97, 98] hs hm (by decide) (by decide) (by decide) (by decide) rfl (by decide) (by decide) (by decide)
 ·rw [shuffle_of (tk := 4) (lv := ([97, 98, 99, 100, 97, 98] : Str).map fun c => (s.drop (s.length - 4)).getD (c.toNat - 97) 0) rfl rfl]
  exact stk_word _ s limit 4 [97, 98, 99, 100, 97, 98] hs hm (by decide) (by decide) (by decide) (by decide) rfl (by decide) (by decide) (by decide)
 ·rw [← qdup_shuffle]; exact stk_QDUP s limit hs hm
 ·rw [← pick_shuffle (name := [80, 73, 67, 75]) (roll := false) rfl (fun _ _ => rfl)]; exact stk_PICK s limit hs hm
 ·rw [← pick_shuffle (name := [82, 79, 76, 76]) (roll := true) rfl (fun _ _ => rfl)]; exact stk_ROLL s limit hs hm
 ·exact stk_DEPTH s limit hs hm
end Go.Proofs.YtobhnjnffnbbkaaGreatDoor
namespace Go.Proofs.YtobhnjnffnbbkaaGreatDoor
open Go.RowKit
set_option maxRecDepth 100000
set_option maxHeartbeats 4000000
theorem prim_Does (n : Int) : PureC Tryz.prog 66 [i64 n] (boo (decide (23 ≤ n ∧ n ≤ 129))) := by
 refine pW tG (rs := [.tmp 2]) Tryz.func66 rfl rfl rfl (by simp) (by simp) (fun B => ?_)
 refine zu1 ?_
 refine zp3 ?_
 refine Wb 5 rfl (fun hg1 => ?_) (fun hg1 => ?_)
 ·have h0 : 23 ≤ n := oT hg1
  refine zs4 ?_
  refine zR ?_
  exact congrArg boo (by rw [Bool.eq_iff_iff, decide_eq_true_eq, decide_eq_true_eq]; omega)
 ·have h0 : ¬ 23 ≤ n := oF hg1
  iterate 2 refine z6 ?_
  refine zs2 ?_
  refine zR ?_
  exact congrArg boo (decide_eq_false (by omega)).symm
theorem fd_1 (name : Str) (x : List Int) (hx : XOk 2 x) : PureC Tryz.prog 148 ([sq cInt x] ++ [.row [str name]]) (tLv ([(twoS name (xat x 0) (xat x 1)).1], (twoS name (xat x 0) (xat x 1)).2.2)) := by
 have hl := hx.len
 refine pW tG (rs := [.tmp 3, .tmp 4]) Tryz.func148 rfl rfl rfl (by simp) (by simp) (fun B => ?_)
 refine zu2 ?_
 refine Ws ?_
 refine W_drawU [1, 0, 0, 1, 0, 0, 1, 0, 0, 0, 0, 0, 0, 0, 0] [0, 1, 2, 3, 4, 5, 6, 7, 8, 9, 10, 11, 12, 13, 14] mG rfl (by kernel_rfl) ?_
 refine z5 ?_
 refine z3 ?_
 refine Xi tG rfl rfl rfl rfl (fun _ => rfl) (by omega) (iN cInt 1 (fun _ => rfl) 0 (by (simp only [dnL] at *; omega))) ?_
 refine z5 ?_
 refine z3 ?_
 refine Xi tG rfl rfl rfl rfl (fun _ => rfl) (by omega) (iN cInt 1 (fun _ => rfl) 0 (by (simp only [dnL] at *; omega))) ?_
 refine z5 ?_
 refine Xc rfl rfl rfl rfl (fun _ => dC rfl Tryz.func149 rfl rfl ((alu_Two name _ _ (hx.fit 1)) _)) ?_
 iterate 7 refine z3 ?_
 refine WU_nil ?_
 refine zp2 ?_
 refine Wa 21 rfl (bsL cInt [_] rfl rfl) ?_
 refine zs3 ?_
 refine zR ?_
 rfl
theorem fd_2 (name : Str) (x : List Int) (hx : XOk 1 x) : PureC Tryz.prog 150 ([sq cInt x] ++ [.row [str name]]) (tLv ([(oneS name (xat x 0)).1], 0)) := by
 have hl := hx.len
 refine pW tG (rs := [.tmp 3, .tmp 4]) Tryz.func150 rfl rfl rfl (by simp) (by simp) (fun B => ?_)
 refine zu2 ?_
 refine Ws ?_
 refine W_drawU [1, 0, 0, 1, 0, 0, 0, 0, 0, 0] [0, 1, 2, 3, 4, 5, 6, 7, 8, 9] mG rfl (by kernel_rfl) ?_
 refine z5 ?_
 refine z3 ?_
 refine Xi tG rfl rfl rfl rfl (fun _ => rfl) (by omega) (iN cInt 1 (fun _ => rfl) 0 (by (simp only [dnL] at *; omega))) ?_
 refine z5 ?_
 refine Xc rfl rfl rfl rfl (fun _ => dC rfl Tryz.func151 rfl rfl ((alu_One name _ (hx.fit 0)) _)) ?_
 iterate 5 refine z3 ?_
 refine WU_nil ?_
 refine zp2 ?_
 refine Wa 16 rfl (bsL cInt [_] rfl rfl) ?_
 refine Wc rfl rfl (dC rfl Tryz.func152 rfl rfl ((prim_told _) _)) ?_
 refine zs4 ?_
 refine zR ?_
 rfl
theorem found_two (n : Int) (name : Str) (hn : n ≤ 58) : PureC Tryz.prog 111 [i64 n, str name] (deedP 2 186 [.row [fnP 148 [.row [str name]]]]) := by
 refine pW tG (rs := [.cell 4 169]) Tryz.func111 rfl rfl rfl (by simp) (by simp) (fun B => ?_)
 refine zp1 ?_
 refine WO_freezeP 3 _ rfl rfl rfl ?_
 refine zs1 ?_
 refine Ws ?_
 refine Wl ?_
 refine zu3 ?_
 refine Wt rfl (by exact decide_eq_true hn) ?_
 refine zp1 ?_
 refine Wc rfl rfl (dC rfl Tryz.func147 rfl rfl ((mk_pure 2 148 [.row [str name]] (by simp)) _)) ?_
 refine zs1 ?_
 refine zR ?_
 rfl
theorem found_one (n : Int) (name : Str) (h0 : 58 < n) (hn : n ≤ 72) : PureC Tryz.prog 111 [i64 n, str name] (deedP 1 186 [.row [fnP 150 [.row [str name]]]]) := by
 refine pW tG (rs := [.cell 4 169]) Tryz.func111 rfl rfl rfl (by simp) (by simp) (fun B => ?_)
 refine zp1 ?_
 refine WO_freezeP 3 _ rfl rfl rfl ?_
 refine zs1 ?_
 refine Ws ?_
 refine Wl ?_
 refine zu3 ?_
 refine Wf rfl (by exact decide_eq_false (by omega)) ?_
 refine zu3 ?_
 refine Wt rfl (by exact decide_eq_true hn) ?_
 refine zp1 ?_
 refine Wc rfl rfl (dC rfl Tryz.func147 rfl rfl ((mk_pure 1 150 [.row [str name]] (by simp)) _)) ?_
 refine zs1 ?_
 refine zR ?_
 rfl
def doR (v : VVm) (k : Nat) (r : VVm × List Int × Int) : VVm × Int :=
 if v.d.length < k then (v, -4) else if r.2.2 ≠ 0 then (v, r.2.2) else
 if v.conf.data < ((v.d.length - k + r.2.1.length : Nat) : Int) then (v, -3) else ({ r.1 with d := v.d.take (v.d.length - k) ++ r.2.1 }, 0)
theorem do_bad (v : VVm) (n : Int) (hn : ¬ (23 ≤ n ∧ n ≤ 129)) : PureC Tryz.prog 67 [eVm v, i64 n] (tVm (v, -24)) := by
 refine pW tG (rs := [.cell 4 36, .tmp 5]) Tryz.func67 rfl rfl rfl (by simp) (by simp) (fun B => ?_)
 refine zu3 ?_
 refine Ws ?_
 refine zp1 ?_
 refine Wc rfl rfl (dC rfl Tryz.func66 rfl rfl ((prim_Does n) _)) ?_
 refine zs1 ?_
 refine Wt rfl (by rw [decide_eq_false hn]; rfl) ?_
 refine zu3 ?_
 refine zR ?_
 rfl
theorem names_130 : names.length = 130 := names_len
theorem do_shuffle (v : VVm) (n : Int) (h0 : 23 ≤ n) (h1 : n ≤ 38) (hs : names.getD n.toNat [] ∈ shufNames) (hd : v.d.length ≤ 100000) (hm : Fit64 v.conf.data) :
  PureC Tryz.prog 67 [eVm v, i64 n] (tVm ({ v with d := (shuffleS (names.getD n.toNat []) v.d v.conf.data).1 }, (shuffleS (names.getD n.toNat []) v.d v.conf.data).2.2)) := by
 have hN := names_130
 refine pW tG (rs := [.cell 4 36, .tmp 5]) Tryz.func67 rfl rfl rfl (by simp) (by simp) (fun B => ?_)
 refine zu3 ?_
 refine Ws ?_
 refine zp1 ?_
 refine Wc rfl rfl (dC rfl Tryz.func66 rfl rfl ((prim_Does n) _)) ?_
 refine zs1 ?_
 refine Wf rfl (by rw [decide_eq_true ⟨h0, by omega⟩]; rfl) ?_
 refine Wj ?_
 refine z8 ?_
 refine Wc rfl rfl (dC rfl Tryz.func69 rfl rfl ((vm_Names) _)) ?_
 refine z1 ?_
 refine Wv tG rfl rfl rfl (by omega) (iR cStr 1 (fun _ => rfl) [] (by omega)) ?_
 refine zs2 ?_
 refine zu3 ?_
 refine Ws ?_
 refine zu2 ?_
 refine Wt rfl (by exact decide_eq_true h1) ?_
 refine zp5 ?_
 refine z1 ?_
 refine Wc rfl rfl (dC rfl Tryz.func110 rfl rfl ((stk_Shuffle _ hs _ _ hd hm) _)) ?_
 refine zy5 ?_
 refine zs2 ?_
 refine zu3 ?_
 refine zu4 ?_
 refine zR ?_
 rfl
theorem do_deed (v : VVm) (n : Int) (k : Nat) (f : FuncId) (cap : List PV) (r : VVm × List Int × Int) (h0 : 39 ≤ n) (h1 : n ≤ 129) (hdl : v.d.length ≤ 100000) (hm : Fit64 v.conf.data) (hk : k ≤ 10) (hc : FlatL cap)
  (hf : PureC Tryz.prog 111 [i64 n, str (names.getD n.toNat [])] (deedP k f cap)) (hr : r.2.1.length ≤ 10)
  (hd : k ≤ v.d.length → ∀ (H : List Ob) (i : Nat), H[i]? = some (.cells (cVm v) 36) → Callable Tryz.prog f (.ptr i 0 :: ([sq cInt (v.d.drop (v.d.length - k))] ++ cap)) H (tLv r.2) (H.set i (.cells (cVm r.1) 36))) :
  PureC Tryz.prog 67 [eVm v, i64 n] (tVm (doR v k r)) := by
 have hN := names_130
 have ht : (v.d.take (v.d.length - k)).length = v.d.length - k := by rw [List.length_take]; omega
 refine pW tG (rs := [.cell 4 36, .tmp 5]) Tryz.func67 rfl rfl rfl (by simp) (by simp) (fun B => ?_)
 refine zu3 ?_
 refine Ws ?_
 refine zp1 ?_
 refine Wc rfl rfl (dC rfl Tryz.func66 rfl rfl ((prim_Does n) _)) ?_
 refine zs1 ?_
 refine Wf rfl (by rw [decide_eq_true ⟨by omega, h1⟩]; rfl) ?_
 refine Wj ?_
 refine z8 ?_
 refine Wc rfl rfl (dC rfl Tryz.func69 rfl rfl ((vm_Names) _)) ?_
 refine z1 ?_
 refine Wv tG rfl rfl rfl (by omega) (iR cStr 1 (fun _ => rfl) [] (by omega)) ?_
 refine zs2 ?_
 refine zu3 ?_
 refine Ws ?_
 refine zu2 ?_
 refine Wf rfl (by exact decide_eq_false (by omega)) ?_
 refine Wj ?_
 refine zp2 ?_
 refine Wc rfl rfl (dC rfl Tryz.func111 rfl rfl ((hf) _)) ?_
 refine zs2 ?_
 refine Ws ?_
 refine zp5 ?_
 refine zs1 ?_
 refine Wi rfl (fun hi3 => ?_) (fun hi3 => ?_)
 ·have q0 : v.d.length < k := by (try simp only [dnL] at *); omega
  refine zu3 ?_
  refine zR ?_
  rw [doR, if_pos q0]; rfl
 ·have q0 : ¬ v.d.length < k := by (try simp only [dnL] at *); omega
  have w1 : IntKind.i64.wrap ((v.d.length : Int) - (k : Int)) = ((v.d.length - k : Nat) : Int) := by ((rw [i64w]; unfold wrap64; (try simp only [dnL] at *); omega))
  have w2 : IntKind.i64.wrap (((v.d.length - k : Nat) : Int) + (r.2.1.length : Int)) = ((v.d.length - k + r.2.1.length : Nat) : Int) := by ((rw [i64w]; unfold wrap64; (try simp only [dnL] at *); omega))
  refine Wj ?_
  refine zp5 ?_
  refine z1 ?_
  refine Wa 56 rfl (congrArg (fun z => PV.val (Value.int .i64 z)) w1) ?_
  refine zs1 ?_
  refine Ws ?_
  refine V.W_drawU [0, 10, 0, 4, 0, 0, 0, 9, 0, 0, 0, 0, 0] [0, 1, 2, 3, 4, 5, 6, 7, 8, 9, 10, 11, 12] mG rfl (by kernel_rfl) ?_
  refine V.z3 ?_
  refine V.WU_rd 3 rfl rfl rfl rfl rfl (fun H2 h2 => does_load_ptr (lO tG rfl) rfl rfl h2 rfl) ?_
  refine V.z3 ?_
  refine V.WU_rd 0 rfl rfl rfl rfl rfl (fun H2 h2 => does_load_ptr (lO tG rfl) rfl rfl h2 rfl) ?_
  refine V.z3 ?_
  refine V.z4 ?_ (q := (by (simp_all; done)))
  refine V.Xa 63 rfl (sq_slice cInt 1 (fun _ => rfl) (by omega)) ?_
  refine V.Xa 63 rfl ((show _ = sq cInt (v.d.drop (v.d.length - k)) by rw [List.take_length, Int.toNat_natCast]; rfl)) ?_
  refine V.Xc rfl rfl rfl rfl (fun _ => dC rfl Tryz.func112 rfl rfl ((clone_ints _ (by simp; omega)) _)) ?_
  refine V.WU_wrC 2 rfl rfl rfl rfl (doesCWs rfl rfl (hd (by omega) _ 2 rfl)) rfl ?_
  iterate 5 refine V.z3 ?_
  refine V.WU_nil ?_
  refine Ws ?_
  refine zu2 ?_
  refine Wi rfl (fun hi4 => ?_) (fun hi4 => ?_)
  ·have q1 : r.2.2 ≠ 0 := bne_iff_ne.1 hi4
   refine zu4 ?_
   refine zR ?_
   rw [doR, if_neg q0, if_pos q1]; rfl
  ·have q1 : ¬ r.2.2 ≠ 0 := fun h => h (bne_eq_false_iff_eq.1 hi4)
   refine Wj ?_
   refine Ws ?_
   refine zp4 ?_
   refine Wa 75 rfl (congrArg (fun z => PV.val (Value.int .i64 z)) w2) ?_
   refine zs4 ?_
   refine Wi rfl (fun hi5 => ?_) (fun hi5 => ?_)
   ·have q2 : v.conf.data < ((v.d.length - k + r.2.1.length : Nat) : Int) := oT hi5
    refine zu3 ?_
    refine zR ?_
    rw [doR, if_neg q0, if_neg q1, if_pos q2]; rfl
   ·have q2 : ¬ v.conf.data < ((v.d.length - k + r.2.1.length : Nat) : Int) := oF hi5
    refine Wj ?_
    refine zp3 ?_
    refine z2 ?_ (q := (by (simp_all; done)))
    refine Wa 84 rfl (sq_slice cInt 1 (fun _ => rfl) (by omega)) ?_
    refine Wa 84 rfl ((show _ = sq cInt (v.d.take (v.d.length - k)) by rw [Int.toNat_natCast, List.drop_zero]; rfl)) ?_
    refine zy2 ?_
    refine Wa 86 rfl (bsL cRow [_, _] rfl rfl) ?_
    refine Wc rfl rfl (dC rfl Tryz.func113 rfl rfl ((concat2 _ _ (by rw [ht]; omega) (by omega)) _)) ?_
    refine zs2 ?_
    refine zu3 ?_
    refine zR ?_
    rw [doR, if_neg q0, if_neg q1, if_neg q2]; rfl
end Go.Proofs.YtobhnjnffnbbkaaGreatDoor
namespace Go.Proofs.YtobhnjnffnbbkaaGreatDoor
open Go.RowKit
set_option maxRecDepth 100000
set_option maxHeartbeats 4000000
structure VmOk (v : VVm) : Prop where
 mem : MemOk v.mem
 old : v.mem.old.length + 1 ≤ 1000000
 here : HereOk v.mem v.here
 out2 : 0 ≤ v.conf.out ∧ v.conf.out ≤ 900000
 out : v.out.length ≤ 1000000
 pic : v.pic.b.length ≤ 1000000
 req : v.req.length ≤ 100000
 hand : v.hand.length ≤ 1000000
 d : v.d.length ≤ 50000
 fit : ∀ a ∈ v.d, Fit64 a
 data : Fit64 v.conf.data
theorem VmOk.out1 {v : VVm} (h : VmOk v) : 0 ≤ v.conf.out ∧ v.conf.out ≤ 1000000 := by have := h.out2; omega
theorem VmOk.x {v : VVm} (h : VmOk v) {k : Nat} (hk : k ≤ v.d.length) : XOk k (v.d.drop (v.d.length - k)) :=
 ⟨by rw [List.length_drop]; omega, fun a ha => h.fit a (List.mem_of_mem_drop ha)⟩
theorem memText_len2 (m : VMem) (a n : Int) : (memText m a n).1.length ≤ m.b.length := by
 unfold memText
 split
 ·simp only [List.length_take, List.length_drop]; omega
 ·simp
theorem digL_len2 (b : Nat) : ∀ k u, (digL b k u).length ≤ k + 1 := by
 intro k
 induction k with
 | zero => intro u; simp [digL]
 | succ k ih => intro u; unfold digL; split <;> simp; have := ih (u / b); omega
theorem ushowL_len2 (u b : Nat) : (ushowL u b).length ≤ 900 := by
 unfold ushowL
 have := digL_len2 b 64 u
 simp only [List.length_reverse, List.length_map]
 omega
theorem showS_len (n b : Int) : (showS n b).1.length ≤ 1000 := by
 unfold showS
 split
 ·simp only
  split
  ·have := ushowL_len2 (U n) b.toNat; omega
  ·have := ushowL_len2 (U (wrap64 (-n))) b.toNat; simp only [List.length_cons]; omega
 ·simp
theorem doS_deed {v : VVm} {n : Int} (h0 : 39 ≤ n) (h1 : n ≤ 129) : doS v n = doR v (takesS n (names.getD n.toNat [])) (doneS v n (names.getD n.toNat []) (v.d.drop (v.d.length - takesS n (names.getD n.toNat [])))) := by
 unfold doS doR
 rw [if_neg (by omega)]
 simp only
 rw [if_neg (by omega)]
theorem doR_congr {v : VVm} {k : Nat} {r r' : VVm × List Int × Int} (h1 : r'.2.2 = r.2.2) (h2 : r.2.2 = 0 → r' = r) : doR v k r' = doR v k r := by
 by_cases h : r.2.2 = 0
 ·rw [h2 h]
 ·unfold doR
  rw [h1]
  simp only [h, ne_eq, not_false_eq_true, if_true]
theorem body_code (v : VVm) (x : List Int) : (v, pBodyP v x).2.2 = (pBody v x).2.2 := by
 unfold pBodyP pBody
 split <;> rfl
theorem body_eq (v : VVm) (x : List Int) (h : (pBody v x).2.2 = 0) : (v, pBodyP v x) = pBody v x := by
 unfold pBodyP pBody at *
 split at h
 ·cases h
 ·rename_i hc; rw [if_neg hc, if_neg hc]
theorem ushowS_len (n b : Int) : (ushowS n b).1.length ≤ 1000 := by
 unfold ushowS
 split
 ·have := ushowL_len2 (U n) b.toNat; simp only; omega
 ·simp
theorem do_two (v : VVm) (hv : VmOk v) (n : Int) (h0 : 39 ≤ n) (h1 : n ≤ 58) : PureC Tryz.prog 67 [eVm v, i64 n] (tVm (doS v n)) := by
 have hk : takesS n (names.getD n.toNat []) = 2 := by unfold takesS; rw [if_pos h1]
 rw [doS_deed h0 (by omega), hk]
 have e : ∀ x, doneS v n (names.getD n.toNat []) x = (v, [(twoS (names.getD n.toNat []) (xat x 0) (xat x 1)).1], (twoS (names.getD n.toNat []) (xat x 0) (xat x 1)).2.2) := fun x => by unfold doneS; rw [if_pos h1]
 rw [e]
 exact do_deed v n 2 186 _ _ h0 (by omega) (by have := hv.d; omega) hv.data (by omega) (by simp) (found_two n _ h1) (by simp) (fun hk H i hi => ⟨⟨_, Tryz.func186, rfl, rfl⟩, d_pure 148 [.row [str (names.getD n.toNat [])]] v _ _ (by simp) (fun H => ⟨⟨_, Tryz.func148, rfl, rfl⟩, fd_1 _ _ (hv.x hk) H⟩) H i hi⟩)
theorem do_one (v : VVm) (hv : VmOk v) (n : Int) (h0 : 58 < n) (h1 : n ≤ 72) : PureC Tryz.prog 67 [eVm v, i64 n] (tVm (doS v n)) := by
 have hk : takesS n (names.getD n.toNat []) = 1 := by unfold takesS; rw [if_neg (by omega), if_pos h1]
 rw [doS_deed (by omega) (by omega), hk]
 have e : ∀ x, doneS v n (names.getD n.toNat []) x = (v, [(oneS (names.getD n.toNat []) (xat x 0)).1], 0) := fun x => by unfold doneS; rw [if_neg (by omega), if_pos h1]
 rw [e]
 exact do_deed v n 1 186 _ _ (by omega) (by omega) (by have := hv.d; omega) hv.data (by omega) (by simp) (found_one n _ h0 h1) (by simp) (fun hk H i hi => ⟨⟨_, Tryz.func186, rfl, rfl⟩, d_pure 150 [.row [str (names.getD n.toNat [])]] v _ _ (by simp) (fun H => ⟨⟨_, Tryz.func150, rfl, rfl⟩, fd_2 _ _ (hv.x hk) H⟩) H i hi⟩)
theorem ds_73 (v : VVm) (x : List Int) : doneS v 73 [47, 77, 79, 68] x = (v, pDivMod x) := by kernel_rfl
theorem do_73 (v : VVm) (hv : VmOk v) : PureC Tryz.prog 67 [eVm v, i64 73] (tVm (doS v 73)) := by
 have hk : takesS 73 (names.getD (73 : Int).toNat []) = 2 := by kernel_rfl
 have hn : names.getD (73 : Int).toNat [] = [47, 77, 79, 68] := by kernel_rfl
 rw [doS_deed (by decide) (by decide), hk, hn, ds_73]
 refine do_deed v 73 2 186 [.row [fnP 195 capA]] _ (by decide) (by decide) (by have := hv.d; omega) hv.data (by decide) (by simp) (by rw [hn]; exact found_rk 73 _ _ _ _ (by decide) (by simp)  rfl) (by (show List.length _ ≤ _; simp [pFetch, pFetchB, pPut, pLay, pPic, pDig, pAll, pCount, pDivMod, pStarMod, pStar, pUM, pM, pUMod, pSRem, pFMod, pSD, pWithin, pBodyP])) (fun hk H i hi => ?_)
 have hx := hv.x hk
 generalize v.d.drop (v.d.length - 2) = x at hx ⊢
 exact ⟨⟨_, Tryz.func186, rfl, rfl⟩, d_pure 195 capA v x (v, pDivMod x).2 (by simp) (fun H => ⟨⟨_, Tryz.func195, rfl, rfl⟩, rk_3 x hx H⟩) H i hi⟩
theorem ds_75 (v : VVm) (x : List Int) : doneS v 75 [42, 47, 77, 79, 68] x = (v, pStarMod x) := by kernel_rfl
theorem do_75 (v : VVm) (hv : VmOk v) : PureC Tryz.prog 67 [eVm v, i64 75] (tVm (doS v 75)) := by
 have hk : takesS 75 (names.getD (75 : Int).toNat []) = 3 := by kernel_rfl
 have hn : names.getD (75 : Int).toNat [] = [42, 47, 77, 79, 68] := by kernel_rfl
 rw [doS_deed (by decide) (by decide), hk, hn, ds_75]
 refine do_deed v 75 3 186 [.row [fnP 196 capAB]] _ (by decide) (by decide) (by have := hv.d; omega) hv.data (by decide) (by simp) (by rw [hn]; exact found_rk 75 _ _ _ _ (by decide) (by simp)  rfl) (by (show List.length _ ≤ _; simp [pFetch, pFetchB, pPut, pLay, pPic, pDig, pAll, pCount, pDivMod, pStarMod, pStar, pUM, pM, pUMod, pSRem, pFMod, pSD, pWithin, pBodyP])) (fun hk H i hi => ?_)
 have hx := hv.x hk
 generalize v.d.drop (v.d.length - 3) = x at hx ⊢
 exact ⟨⟨_, Tryz.func186, rfl, rfl⟩, d_pure 196 capAB v x (v, pStarMod x).2 (by simp) (fun H => ⟨⟨_, Tryz.func196, rfl, rfl⟩, rk_4 x hx H⟩) H i hi⟩
theorem ds_74 (v : VVm) (x : List Int) : doneS v 74 [42, 47] x = (v, pStar x) := by kernel_rfl
theorem do_74 (v : VVm) (hv : VmOk v) : PureC Tryz.prog 67 [eVm v, i64 74] (tVm (doS v 74)) := by
 have hk : takesS 74 (names.getD (74 : Int).toNat []) = 3 := by kernel_rfl
 have hn : names.getD (74 : Int).toNat [] = [42, 47] := by kernel_rfl
 rw [doS_deed (by decide) (by decide), hk, hn, ds_74]
 refine do_deed v 74 3 186 [.row [fnP 197 capB]] _ (by decide) (by decide) (by have := hv.d; omega) hv.data (by decide) (by simp) (by rw [hn]; exact found_rk 74 _ _ _ _ (by decide) (by simp)  rfl) (by (show List.length _ ≤ _; simp [pFetch, pFetchB, pPut, pLay, pPic, pDig, pAll, pCount, pDivMod, pStarMod, pStar, pUM, pM, pUMod, pSRem, pFMod, pSD, pWithin, pBodyP])) (fun hk H i hi => ?_)
 have hx := hv.x hk
 generalize v.d.drop (v.d.length - 3) = x at hx ⊢
 exact ⟨⟨_, Tryz.func186, rfl, rfl⟩, d_pure 197 capB v x (v, pStar x).2 (by simp) (fun H => ⟨⟨_, Tryz.func197, rfl, rfl⟩, rk_5 x hx H⟩) H i hi⟩
theorem ds_76 (v : VVm) (x : List Int) : doneS v 76 [85, 77, 42] x = (v, pUM x) := by kernel_rfl
theorem do_76 (v : VVm) (hv : VmOk v) : PureC Tryz.prog 67 [eVm v, i64 76] (tVm (doS v 76)) := by
 have hk : takesS 76 (names.getD (76 : Int).toNat []) = 2 := by kernel_rfl
 have hn : names.getD (76 : Int).toNat [] = [85, 77, 42] := by kernel_rfl
 rw [doS_deed (by decide) (by decide), hk, hn, ds_76]
 refine do_deed v 76 2 186 [.row [fnP 198 []]] _ (by decide) (by decide) (by have := hv.d; omega) hv.data (by decide) (by simp) (by rw [hn]; exact found_rk 76 _ _ _ _ (by decide) (by simp)  rfl) (by (show List.length _ ≤ _; simp [pFetch, pFetchB, pPut, pLay, pPic, pDig, pAll, pCount, pDivMod, pStarMod, pStar, pUM, pM, pUMod, pSRem, pFMod, pSD, pWithin, pBodyP])) (fun hk H i hi => ?_)
 have hx := hv.x hk
 generalize v.d.drop (v.d.length - 2) = x at hx ⊢
 exact ⟨⟨_, Tryz.func186, rfl, rfl⟩, d_pure 198 [] v x (v, pUM x).2 (by simp) (fun H => ⟨⟨_, Tryz.func198, rfl, rfl⟩, rk_6 x hx H⟩) H i hi⟩
theorem ds_78 (v : VVm) (x : List Int) : doneS v 78 [77, 42] x = (v, pM x) := by kernel_rfl
theorem do_78 (v : VVm) (hv : VmOk v) : PureC Tryz.prog 67 [eVm v, i64 78] (tVm (doS v 78)) := by
 have hk : takesS 78 (names.getD (78 : Int).toNat []) = 2 := by kernel_rfl
 have hn : names.getD (78 : Int).toNat [] = [77, 42] := by kernel_rfl
 rw [doS_deed (by decide) (by decide), hk, hn, ds_78]
 refine do_deed v 78 2 186 [.row [fnP 200 []]] _ (by decide) (by decide) (by have := hv.d; omega) hv.data (by decide) (by simp) (by rw [hn]; exact found_rk 78 _ _ _ _ (by decide) (by simp)  rfl) (by (show List.length _ ≤ _; simp [pFetch, pFetchB, pPut, pLay, pPic, pDig, pAll, pCount, pDivMod, pStarMod, pStar, pUM, pM, pUMod, pSRem, pFMod, pSD, pWithin, pBodyP])) (fun hk H i hi => ?_)
 have hx := hv.x hk
 generalize v.d.drop (v.d.length - 2) = x at hx ⊢
 exact ⟨⟨_, Tryz.func186, rfl, rfl⟩, d_pure 200 [] v x (v, pM x).2 (by simp) (fun H => ⟨⟨_, Tryz.func200, rfl, rfl⟩, rk_7 x hx H⟩) H i hi⟩
theorem ds_77 (v : VVm) (x : List Int) : doneS v 77 [85, 77, 47, 77, 79, 68] x = (v, pUMod x) := by kernel_rfl
theorem do_77 (v : VVm) (hv : VmOk v) : PureC Tryz.prog 67 [eVm v, i64 77] (tVm (doS v 77)) := by
 have hk : takesS 77 (names.getD (77 : Int).toNat []) = 3 := by kernel_rfl
 have hn : names.getD (77 : Int).toNat [] = [85, 77, 47, 77, 79, 68] := by kernel_rfl
 rw [doS_deed (by decide) (by decide), hk, hn, ds_77]
 refine do_deed v 77 3 186 [.row [fnP 201 capA]] _ (by decide) (by decide) (by have := hv.d; omega) hv.data (by decide) (by simp) (by rw [hn]; exact found_rk 77 _ _ _ _ (by decide) (by simp)  rfl) (by (show List.length _ ≤ _; simp [pFetch, pFetchB, pPut, pLay, pPic, pDig, pAll, pCount, pDivMod, pStarMod, pStar, pUM, pM, pUMod, pSRem, pFMod, pSD, pWithin, pBodyP])) (fun hk H i hi => ?_)
 have hx := hv.x hk
 generalize v.d.drop (v.d.length - 3) = x at hx ⊢
 exact ⟨⟨_, Tryz.func186, rfl, rfl⟩, d_pure 201 capA v x (v, pUMod x).2 (by simp) (fun H => ⟨⟨_, Tryz.func201, rfl, rfl⟩, rk_8 x hx H⟩) H i hi⟩
theorem ds_79 (v : VVm) (x : List Int) : doneS v 79 [83, 77, 47, 82, 69, 77] x = (v, pSRem x) := by kernel_rfl
theorem do_79 (v : VVm) (hv : VmOk v) : PureC Tryz.prog 67 [eVm v, i64 79] (tVm (doS v 79)) := by
 have hk : takesS 79 (names.getD (79 : Int).toNat []) = 3 := by kernel_rfl
 have hn : names.getD (79 : Int).toNat [] = [83, 77, 47, 82, 69, 77] := by kernel_rfl
 rw [doS_deed (by decide) (by decide), hk, hn, ds_79]
 refine do_deed v 79 3 186 [.row [fnP 203 capA]] _ (by decide) (by decide) (by have := hv.d; omega) hv.data (by decide) (by simp) (by rw [hn]; exact found_rk 79 _ _ _ _ (by decide) (by simp)  rfl) (by (show List.length _ ≤ _; simp [pFetch, pFetchB, pPut, pLay, pPic, pDig, pAll, pCount, pDivMod, pStarMod, pStar, pUM, pM, pUMod, pSRem, pFMod, pSD, pWithin, pBodyP])) (fun hk H i hi => ?_)
 have hx := hv.x hk
 generalize v.d.drop (v.d.length - 3) = x at hx ⊢
 exact ⟨⟨_, Tryz.func186, rfl, rfl⟩, d_pure 203 capA v x (v, pSRem x).2 (by simp) (fun H => ⟨⟨_, Tryz.func203, rfl, rfl⟩, rk_9 x hx H⟩) H i hi⟩
theorem ds_80 (v : VVm) (x : List Int) : doneS v 80 [70, 77, 47, 77, 79, 68] x = (v, pFMod x) := by kernel_rfl
theorem do_80 (v : VVm) (hv : VmOk v) : PureC Tryz.prog 67 [eVm v, i64 80] (tVm (doS v 80)) := by
 have hk : takesS 80 (names.getD (80 : Int).toNat []) = 3 := by kernel_rfl
 have hn : names.getD (80 : Int).toNat [] = [70, 77, 47, 77, 79, 68] := by kernel_rfl
 rw [doS_deed (by decide) (by decide), hk, hn, ds_80]
 refine do_deed v 80 3 186 [.row [fnP 205 capA]] _ (by decide) (by decide) (by have := hv.d; omega) hv.data (by decide) (by simp) (by rw [hn]; exact found_rk 80 _ _ _ _ (by decide) (by simp)  rfl) (by (show List.length _ ≤ _; simp [pFetch, pFetchB, pPut, pLay, pPic, pDig, pAll, pCount, pDivMod, pStarMod, pStar, pUM, pM, pUMod, pSRem, pFMod, pSD, pWithin, pBodyP])) (fun hk H i hi => ?_)
 have hx := hv.x hk
 generalize v.d.drop (v.d.length - 3) = x at hx ⊢
 exact ⟨⟨_, Tryz.func186, rfl, rfl⟩, d_pure 205 capA v x (v, pFMod x).2 (by simp) (fun H => ⟨⟨_, Tryz.func205, rfl, rfl⟩, rk_10 x hx H⟩) H i hi⟩
theorem ds_81 (v : VVm) (x : List Int) : doneS v 81 [83, 62, 68] x = (v, pSD x) := by kernel_rfl
theorem do_81 (v : VVm) (hv : VmOk v) : PureC Tryz.prog 67 [eVm v, i64 81] (tVm (doS v 81)) := by
 have hk : takesS 81 (names.getD (81 : Int).toNat []) = 1 := by kernel_rfl
 have hn : names.getD (81 : Int).toNat [] = [83, 62, 68] := by kernel_rfl
 rw [doS_deed (by decide) (by decide), hk, hn, ds_81]
 refine do_deed v 81 1 186 [.row [fnP 206 []]] _ (by decide) (by decide) (by have := hv.d; omega) hv.data (by decide) (by simp) (by rw [hn]; exact found_rk 81 _ _ _ _ (by decide) (by simp)  rfl) (by (show List.length _ ≤ _; simp [pFetch, pFetchB, pPut, pLay, pPic, pDig, pAll, pCount, pDivMod, pStarMod, pStar, pUM, pM, pUMod, pSRem, pFMod, pSD, pWithin, pBodyP])) (fun hk H i hi => ?_)
 have hx := hv.x hk
 generalize v.d.drop (v.d.length - 1) = x at hx ⊢
 exact ⟨⟨_, Tryz.func186, rfl, rfl⟩, d_pure 206 [] v x (v, pSD x).2 (by simp) (fun H => ⟨⟨_, Tryz.func206, rfl, rfl⟩, rk_11 x hx H⟩) H i hi⟩
theorem ds_82 (v : VVm) (x : List Int) : doneS v 82 [87, 73, 84, 72, 73, 78] x = (v, pWithin x) := by kernel_rfl
theorem do_82 (v : VVm) (hv : VmOk v) : PureC Tryz.prog 67 [eVm v, i64 82] (tVm (doS v 82)) := by
 have hk : takesS 82 (names.getD (82 : Int).toNat []) = 3 := by kernel_rfl
 have hn : names.getD (82 : Int).toNat [] = [87, 73, 84, 72, 73, 78] := by kernel_rfl
 rw [doS_deed (by decide) (by decide), hk, hn, ds_82]
 refine do_deed v 82 3 186 [.row [fnP 208 []]] _ (by decide) (by decide) (by have := hv.d; omega) hv.data (by decide) (by simp) (by rw [hn]; exact found_rk 82 _ _ _ _ (by decide) (by simp)  rfl) (by (show List.length _ ≤ _; simp [pFetch, pFetchB, pPut, pLay, pPic, pDig, pAll, pCount, pDivMod, pStarMod, pStar, pUM, pM, pUMod, pSRem, pFMod, pSD, pWithin, pBodyP])) (fun hk H i hi => ?_)
 have hx := hv.x hk
 generalize v.d.drop (v.d.length - 3) = x at hx ⊢
 exact ⟨⟨_, Tryz.func186, rfl, rfl⟩, d_pure 208 [] v x (v, pWithin x).2 (by simp) (fun H => ⟨⟨_, Tryz.func208, rfl, rfl⟩, rk_12 x hx H⟩) H i hi⟩
theorem ds_83 (v : VVm) (x : List Int) : doneS v 83 [64] x = pFetch v x := by kernel_rfl
theorem do_83 (v : VVm) (hv : VmOk v) : PureC Tryz.prog 67 [eVm v, i64 83] (tVm (doS v 83)) := by
 have hk : takesS 83 (names.getD (83 : Int).toNat []) = 1 := by kernel_rfl
 have hn : names.getD (83 : Int).toNat [] = [64] := by kernel_rfl
 rw [doS_deed (by decide) (by decide), hk, hn, ds_83]
 refine do_deed v 83 1 313 [.row [fnP 60 []]] _ (by decide) (by decide) (by have := hv.d; omega) hv.data (by decide) (by simp) (by rw [hn]; exact found_me 83 _ _ _ _ (by decide) (by simp) rfl rfl) (by (show List.length _ ≤ _; simp [pFetch, pFetchB, pPut, pLay, pPic, pDig, pAll, pCount, pDivMod, pStarMod, pStar, pUM, pM, pUMod, pSRem, pFMod, pSD, pWithin, pBodyP])) (fun hk H i hi => ?_)
 have hx := hv.x hk
 generalize v.d.drop (v.d.length - 1) = x at hx ⊢
 exact ⟨⟨_, Tryz.func313, rfl, rfl⟩, d_fetches 60 [] v x _ hx.len (by simp) (fun H => ⟨⟨_, Tryz.func60, rfl, rfl⟩, (mem_Fetch v.mem _ (memOk_len hv.mem) (hx.fit 0)) H⟩) H i hi⟩
theorem ds_86 (v : VVm) (x : List Int) : doneS v 86 [67, 64] x = pFetchB v x := by kernel_rfl
theorem do_86 (v : VVm) (hv : VmOk v) : PureC Tryz.prog 67 [eVm v, i64 86] (tVm (doS v 86)) := by
 have hk : takesS 86 (names.getD (86 : Int).toNat []) = 1 := by kernel_rfl
 have hn : names.getD (86 : Int).toNat [] = [67, 64] := by kernel_rfl
 rw [doS_deed (by decide) (by decide), hk, hn, ds_86]
 refine do_deed v 86 1 313 [.row [fnP 211 []]] _ (by decide) (by decide) (by have := hv.d; omega) hv.data (by decide) (by simp) (by rw [hn]; exact found_me 86 _ _ _ _ (by decide) (by simp) rfl rfl) (by (show List.length _ ≤ _; simp [pFetch, pFetchB, pPut, pLay, pPic, pDig, pAll, pCount, pDivMod, pStarMod, pStar, pUM, pM, pUMod, pSRem, pFMod, pSD, pWithin, pBodyP])) (fun hk H i hi => ?_)
 have hx := hv.x hk
 generalize v.d.drop (v.d.length - 1) = x at hx ⊢
 exact ⟨⟨_, Tryz.func313, rfl, rfl⟩, d_fetches 211 [] v x _ hx.len (by simp) (fun H => ⟨⟨_, Tryz.func211, rfl, rfl⟩, (mem_FetchByte v.mem _ hv.mem (hx.fit 0)) H⟩) H i hi⟩
theorem ds_84 (v : VVm) (x : List Int) : doneS v 84 [33] x = pPut v (memStore v.mem (xat x 1) (xat x 0)) := by kernel_rfl
theorem do_84 (v : VVm) (hv : VmOk v) : PureC Tryz.prog 67 [eVm v, i64 84] (tVm (doS v 84)) := by
 have hk : takesS 84 (names.getD (84 : Int).toNat []) = 2 := by kernel_rfl
 have hn : names.getD (84 : Int).toNat [] = [33] := by kernel_rfl
 rw [doS_deed (by decide) (by decide), hk, hn, ds_84]
 refine do_deed v 84 2 314 [.row [fnP 213 []]] _ (by decide) (by decide) (by have := hv.d; omega) hv.data (by decide) (by simp) (by rw [hn]; exact found_me 84 _ _ _ _ (by decide) (by simp) rfl rfl) (by (show List.length _ ≤ _; simp [pFetch, pFetchB, pPut, pLay, pPic, pDig, pAll, pCount, pDivMod, pStarMod, pStar, pUM, pM, pUMod, pSRem, pFMod, pSD, pWithin, pBodyP])) (fun hk H i hi => ?_)
 have hx := hv.x hk
 generalize v.d.drop (v.d.length - 2) = x at hx ⊢
 exact ⟨⟨_, Tryz.func314, rfl, rfl⟩, d_changes 213 [] v x _ (by simp) (fun H => ⟨⟨_, Tryz.func213, rfl, rfl⟩, me_1 v x hv.mem hx H⟩) H i hi⟩
theorem ds_87 (v : VVm) (x : List Int) : doneS v 87 [67, 33] x = pPut v (memStoreByte v.mem (xat x 1) (xat x 0)) := by kernel_rfl
theorem do_87 (v : VVm) (hv : VmOk v) : PureC Tryz.prog 67 [eVm v, i64 87] (tVm (doS v 87)) := by
 have hk : takesS 87 (names.getD (87 : Int).toNat []) = 2 := by kernel_rfl
 have hn : names.getD (87 : Int).toNat [] = [67, 33] := by kernel_rfl
 rw [doS_deed (by decide) (by decide), hk, hn, ds_87]
 refine do_deed v 87 2 314 [.row [fnP 215 []]] _ (by decide) (by decide) (by have := hv.d; omega) hv.data (by decide) (by simp) (by rw [hn]; exact found_me 87 _ _ _ _ (by decide) (by simp) rfl rfl) (by (show List.length _ ≤ _; simp [pFetch, pFetchB, pPut, pLay, pPic, pDig, pAll, pCount, pDivMod, pStarMod, pStar, pUM, pM, pUMod, pSRem, pFMod, pSD, pWithin, pBodyP])) (fun hk H i hi => ?_)
 have hx := hv.x hk
 generalize v.d.drop (v.d.length - 2) = x at hx ⊢
 exact ⟨⟨_, Tryz.func314, rfl, rfl⟩, d_changes 215 [] v x _ (by simp) (fun H => ⟨⟨_, Tryz.func215, rfl, rfl⟩, me_2 v x hv.mem hx H⟩) H i hi⟩
theorem ds_85 (v : VVm) (x : List Int) : doneS v 85 [43, 33] x = pPut v (pAddTo v x) := by kernel_rfl
theorem do_85 (v : VVm) (hv : VmOk v) : PureC Tryz.prog 67 [eVm v, i64 85] (tVm (doS v 85)) := by
 have hk : takesS 85 (names.getD (85 : Int).toNat []) = 2 := by kernel_rfl
 have hn : names.getD (85 : Int).toNat [] = [43, 33] := by kernel_rfl
 rw [doS_deed (by decide) (by decide), hk, hn, ds_85]
 refine do_deed v 85 2 314 [.row [fnP 217 []]] _ (by decide) (by decide) (by have := hv.d; omega) hv.data (by decide) (by simp) (by rw [hn]; exact found_me 85 _ _ _ _ (by decide) (by simp) rfl rfl) (by (show List.length _ ≤ _; simp [pFetch, pFetchB, pPut, pLay, pPic, pDig, pAll, pCount, pDivMod, pStarMod, pStar, pUM, pM, pUMod, pSRem, pFMod, pSD, pWithin, pBodyP])) (fun hk H i hi => ?_)
 have hx := hv.x hk
 generalize v.d.drop (v.d.length - 2) = x at hx ⊢
 exact ⟨⟨_, Tryz.func314, rfl, rfl⟩, d_changes 217 [] v x _ (by simp) (fun H => ⟨⟨_, Tryz.func217, rfl, rfl⟩, me_3 v x hv.mem hx H⟩) H i hi⟩
theorem ds_88 (v : VVm) (x : List Int) : doneS v 88 [50, 64] x = pFetch2 v x := by kernel_rfl
theorem do_88 (v : VVm) (hv : VmOk v) : PureC Tryz.prog 67 [eVm v, i64 88] (tVm (doS v 88)) := by
 have hk : takesS 88 (names.getD (88 : Int).toNat []) = 1 := by kernel_rfl
 have hn : names.getD (88 : Int).toNat [] = [50, 64] := by kernel_rfl
 rw [doS_deed (by decide) (by decide), hk, hn, ds_88]
 refine do_deed v 88 1 218 [] _ (by decide) (by decide) (by have := hv.d; omega) hv.data (by decide) (by simp) (by rw [hn]; exact found_me 88 _ _ _ _ (by decide) (by simp) rfl rfl) (by unfold pFetch2; split <;> simp) (fun hk H i hi => ?_)
 have hx := hv.x hk
 generalize v.d.drop (v.d.length - 1) = x at hx ⊢
 exact ⟨⟨_, Tryz.func218, rfl, rfl⟩, me_4 v x hv.mem hx H i hi⟩
theorem ds_89 (v : VVm) (x : List Int) : doneS v 89 [50, 33] x = pPut v (pStore2 v x) := by kernel_rfl
theorem do_89 (v : VVm) (hv : VmOk v) : PureC Tryz.prog 67 [eVm v, i64 89] (tVm (doS v 89)) := by
 have hk : takesS 89 (names.getD (89 : Int).toNat []) = 3 := by kernel_rfl
 have hn : names.getD (89 : Int).toNat [] = [50, 33] := by kernel_rfl
 rw [doS_deed (by decide) (by decide), hk, hn, ds_89]
 refine do_deed v 89 3 314 [.row [fnP 219 []]] _ (by decide) (by decide) (by have := hv.d; omega) hv.data (by decide) (by simp) (by rw [hn]; exact found_me 89 _ _ _ _ (by decide) (by simp) rfl rfl) (by (show List.length _ ≤ _; simp [pFetch, pFetchB, pPut, pLay, pPic, pDig, pAll, pCount, pDivMod, pStarMod, pStar, pUM, pM, pUMod, pSRem, pFMod, pSD, pWithin, pBodyP])) (fun hk H i hi => ?_)
 have hx := hv.x hk
 generalize v.d.drop (v.d.length - 3) = x at hx ⊢
 exact ⟨⟨_, Tryz.func314, rfl, rfl⟩, d_changes 219 [] v x _ (by simp) (fun H => ⟨⟨_, Tryz.func219, rfl, rfl⟩, me_5 v x hv.mem hv.old hx H⟩) H i hi⟩
theorem ds_90 (v : VVm) (x : List Int) : doneS v 90 [70, 73, 76, 76] x = pPut v (memFill v.mem (xat x 0) (xat x 1) (xat x 2)) := by kernel_rfl
theorem do_90 (v : VVm) (hv : VmOk v) : PureC Tryz.prog 67 [eVm v, i64 90] (tVm (doS v 90)) := by
 have hk : takesS 90 (names.getD (90 : Int).toNat []) = 3 := by kernel_rfl
 have hn : names.getD (90 : Int).toNat [] = [70, 73, 76, 76] := by kernel_rfl
 rw [doS_deed (by decide) (by decide), hk, hn, ds_90]
 refine do_deed v 90 3 314 [.row [fnP 220 []]] _ (by decide) (by decide) (by have := hv.d; omega) hv.data (by decide) (by simp) (by rw [hn]; exact found_me 90 _ _ _ _ (by decide) (by simp) rfl rfl) (by (show List.length _ ≤ _; simp [pFetch, pFetchB, pPut, pLay, pPic, pDig, pAll, pCount, pDivMod, pStarMod, pStar, pUM, pM, pUMod, pSRem, pFMod, pSD, pWithin, pBodyP])) (fun hk H i hi => ?_)
 have hx := hv.x hk
 generalize v.d.drop (v.d.length - 3) = x at hx ⊢
 exact ⟨⟨_, Tryz.func314, rfl, rfl⟩, d_changes 220 [] v x _ (by simp) (fun H => ⟨⟨_, Tryz.func220, rfl, rfl⟩, me_6 v x hv.mem hx H⟩) H i hi⟩
theorem ds_91 (v : VVm) (x : List Int) : doneS v 91 [77, 79, 86, 69] x = pPut v (memMove v.mem (xat x 0) (xat x 1) (xat x 2)) := by kernel_rfl
theorem do_91 (v : VVm) (hv : VmOk v) : PureC Tryz.prog 67 [eVm v, i64 91] (tVm (doS v 91)) := by
 have hk : takesS 91 (names.getD (91 : Int).toNat []) = 3 := by kernel_rfl
 have hn : names.getD (91 : Int).toNat [] = [77, 79, 86, 69] := by kernel_rfl
 rw [doS_deed (by decide) (by decide), hk, hn, ds_91]
 refine do_deed v 91 3 314 [.row [fnP 222 []]] _ (by decide) (by decide) (by have := hv.d; omega) hv.data (by decide) (by simp) (by rw [hn]; exact found_me 91 _ _ _ _ (by decide) (by simp) rfl rfl) (by (show List.length _ ≤ _; simp [pFetch, pFetchB, pPut, pLay, pPic, pDig, pAll, pCount, pDivMod, pStarMod, pStar, pUM, pM, pUMod, pSRem, pFMod, pSD, pWithin, pBodyP])) (fun hk H i hi => ?_)
 have hx := hv.x hk
 generalize v.d.drop (v.d.length - 3) = x at hx ⊢
 exact ⟨⟨_, Tryz.func314, rfl, rfl⟩, d_changes 222 [] v x _ (by simp) (fun H => ⟨⟨_, Tryz.func222, rfl, rfl⟩, me_7 v x hv.mem hx H⟩) H i hi⟩
theorem ds_92 (v : VVm) (x : List Int) : doneS v 92 [67, 79, 85, 78, 84] x = pCount v x := by kernel_rfl
theorem do_92 (v : VVm) (hv : VmOk v) : PureC Tryz.prog 67 [eVm v, i64 92] (tVm (doS v 92)) := by
 have hk : takesS 92 (names.getD (92 : Int).toNat []) = 1 := by kernel_rfl
 have hn : names.getD (92 : Int).toNat [] = [67, 79, 85, 78, 84] := by kernel_rfl
 rw [doS_deed (by decide) (by decide), hk, hn, ds_92]
 refine do_deed v 92 1 224 [] _ (by decide) (by decide) (by have := hv.d; omega) hv.data (by decide) (by simp) (by rw [hn]; exact found_me 92 _ _ _ _ (by decide) (by simp) rfl rfl) (by (show List.length _ ≤ _; simp [pFetch, pFetchB, pPut, pLay, pPic, pDig, pAll, pCount, pDivMod, pStarMod, pStar, pUM, pM, pUMod, pSRem, pFMod, pSD, pWithin, pBodyP])) (fun hk H i hi => ?_)
 have hx := hv.x hk
 generalize v.d.drop (v.d.length - 1) = x at hx ⊢
 exact ⟨⟨_, Tryz.func224, rfl, rfl⟩, me_8 v x hv.mem hx H i hi⟩
theorem ds_93 (v : VVm) (x : List Int) : doneS v 93 [72, 69, 82, 69] x = (v, [v.here], 0) := by kernel_rfl
theorem do_93 (v : VVm) (hv : VmOk v) : PureC Tryz.prog 67 [eVm v, i64 93] (tVm (doS v 93)) := by
 have hk : takesS 93 (names.getD (93 : Int).toNat []) = 0 := by kernel_rfl
 have hn : names.getD (93 : Int).toNat [] = [72, 69, 82, 69] := by kernel_rfl
 rw [doS_deed (by decide) (by decide), hk, hn, ds_93]
 refine do_deed v 93 0 317 [.row [fnP 231 []]] _ (by decide) (by decide) (by have := hv.d; omega) hv.data (by decide) (by simp) (by rw [hn]; exact found_sp 93 _ _ _ _ (by decide) (by simp) rfl rfl rfl) (by (show List.length _ ≤ _; simp [pFetch, pFetchB, pPut, pLay, pPic, pDig, pAll, pCount, pDivMod, pStarMod, pStar, pUM, pM, pUMod, pSRem, pFMod, pSD, pWithin, pBodyP])) (fun hk H i hi => ?_)
 have hx := hv.x hk
 generalize v.d.drop (v.d.length - 0) = x at hx ⊢
 exact ⟨⟨_, Tryz.func317, rfl, rfl⟩, d_shown 231 [] v x _ (by simp) (fun H => ⟨⟨_, Tryz.func231, rfl, rfl⟩, sp_3 v H⟩) H i hi⟩
theorem ds_94 (v : VVm) (x : List Int) : doneS v 94 [65, 76, 76, 79, 84] x = pLay v (pAllot v x) := by kernel_rfl
theorem do_94 (v : VVm) (hv : VmOk v) : PureC Tryz.prog 67 [eVm v, i64 94] (tVm (doS v 94)) := by
 have hk : takesS 94 (names.getD (94 : Int).toNat []) = 1 := by kernel_rfl
 have hn : names.getD (94 : Int).toNat [] = [65, 76, 76, 79, 84] := by kernel_rfl
 rw [doS_deed (by decide) (by decide), hk, hn, ds_94]
 refine do_deed v 94 1 318 [.row [fnP 233 []]] _ (by decide) (by decide) (by have := hv.d; omega) hv.data (by decide) (by simp) (by rw [hn]; exact found_sp 94 _ _ _ _ (by decide) (by simp) rfl rfl rfl) (by (show List.length _ ≤ _; simp [pFetch, pFetchB, pPut, pLay, pPic, pDig, pAll, pCount, pDivMod, pStarMod, pStar, pUM, pM, pUMod, pSRem, pFMod, pSD, pWithin, pBodyP])) (fun hk H i hi => ?_)
 have hx := hv.x hk
 generalize v.d.drop (v.d.length - 1) = x at hx ⊢
 exact ⟨⟨_, Tryz.func318, rfl, rfl⟩, d_lays 233 [] v x _ (by simp) (fun H => ⟨⟨_, Tryz.func233, rfl, rfl⟩, sp_4 v x hv.mem hv.here hx H⟩) H i hi⟩
theorem ds_95 (v : VVm) (x : List Int) : doneS v 95 [44] x = pLay v (spcComma v.mem v.here (xat x 0)) := by kernel_rfl
theorem do_95 (v : VVm) (hv : VmOk v) : PureC Tryz.prog 67 [eVm v, i64 95] (tVm (doS v 95)) := by
 have hk : takesS 95 (names.getD (95 : Int).toNat []) = 1 := by kernel_rfl
 have hn : names.getD (95 : Int).toNat [] = [44] := by kernel_rfl
 rw [doS_deed (by decide) (by decide), hk, hn, ds_95]
 refine do_deed v 95 1 318 [.row [fnP 236 []]] _ (by decide) (by decide) (by have := hv.d; omega) hv.data (by decide) (by simp) (by rw [hn]; exact found_sp 95 _ _ _ _ (by decide) (by simp) rfl rfl rfl) (by (show List.length _ ≤ _; simp [pFetch, pFetchB, pPut, pLay, pPic, pDig, pAll, pCount, pDivMod, pStarMod, pStar, pUM, pM, pUMod, pSRem, pFMod, pSD, pWithin, pBodyP])) (fun hk H i hi => ?_)
 have hx := hv.x hk
 generalize v.d.drop (v.d.length - 1) = x at hx ⊢
 exact ⟨⟨_, Tryz.func318, rfl, rfl⟩, d_lays 236 [] v x _ (by simp) (fun H => ⟨⟨_, Tryz.func236, rfl, rfl⟩, sp_5 v x hv.mem hv.here hx H⟩) H i hi⟩
theorem ds_96 (v : VVm) (x : List Int) : doneS v 96 [67, 44] x = pLay v (spcLay v.mem v.here [loB (xat x 0)]) := by kernel_rfl
theorem do_96 (v : VVm) (hv : VmOk v) : PureC Tryz.prog 67 [eVm v, i64 96] (tVm (doS v 96)) := by
 have hk : takesS 96 (names.getD (96 : Int).toNat []) = 1 := by kernel_rfl
 have hn : names.getD (96 : Int).toNat [] = [67, 44] := by kernel_rfl
 rw [doS_deed (by decide) (by decide), hk, hn, ds_96]
 refine do_deed v 96 1 318 [.row [fnP 238 []]] _ (by decide) (by decide) (by have := hv.d; omega) hv.data (by decide) (by simp) (by rw [hn]; exact found_sp 96 _ _ _ _ (by decide) (by simp) rfl rfl rfl) (by (show List.length _ ≤ _; simp [pFetch, pFetchB, pPut, pLay, pPic, pDig, pAll, pCount, pDivMod, pStarMod, pStar, pUM, pM, pUMod, pSRem, pFMod, pSD, pWithin, pBodyP])) (fun hk H i hi => ?_)
 have hx := hv.x hk
 generalize v.d.drop (v.d.length - 1) = x at hx ⊢
 exact ⟨⟨_, Tryz.func318, rfl, rfl⟩, d_lays 238 [] v x _ (by simp) (fun H => ⟨⟨_, Tryz.func238, rfl, rfl⟩, sp_6 v x hv.mem hv.here hx H⟩) H i hi⟩
theorem ds_97 (v : VVm) (x : List Int) : doneS v 97 [65, 76, 73, 71, 78] x = pLay v (spcAlign v.mem v.here) := by kernel_rfl
theorem do_97 (v : VVm) (hv : VmOk v) : PureC Tryz.prog 67 [eVm v, i64 97] (tVm (doS v 97)) := by
 have hk : takesS 97 (names.getD (97 : Int).toNat []) = 0 := by kernel_rfl
 have hn : names.getD (97 : Int).toNat [] = [65, 76, 73, 71, 78] := by kernel_rfl
 rw [doS_deed (by decide) (by decide), hk, hn, ds_97]
 refine do_deed v 97 0 318 [.row [fnP 240 []]] _ (by decide) (by decide) (by have := hv.d; omega) hv.data (by decide) (by simp) (by rw [hn]; exact found_sp 97 _ _ _ _ (by decide) (by simp) rfl rfl rfl) (by (show List.length _ ≤ _; simp [pFetch, pFetchB, pPut, pLay, pPic, pDig, pAll, pCount, pDivMod, pStarMod, pStar, pUM, pM, pUMod, pSRem, pFMod, pSD, pWithin, pBodyP])) (fun hk H i hi => ?_)
 have hx := hv.x hk
 generalize v.d.drop (v.d.length - 0) = x at hx ⊢
 exact ⟨⟨_, Tryz.func318, rfl, rfl⟩, d_lays 240 [] v x _ (by simp) (fun H => ⟨⟨_, Tryz.func240, rfl, rfl⟩, sp_7 v x hv.mem hv.here H⟩) H i hi⟩
theorem ds_98 (v : VVm) (x : List Int) : doneS v 98 [66, 65, 83, 69] x = (v, [0], 0) := by kernel_rfl
theorem do_98 (v : VVm) (hv : VmOk v) : PureC Tryz.prog 67 [eVm v, i64 98] (tVm (doS v 98)) := by
 have hk : takesS 98 (names.getD (98 : Int).toNat []) = 0 := by kernel_rfl
 have hn : names.getD (98 : Int).toNat [] = [66, 65, 83, 69] := by kernel_rfl
 rw [doS_deed (by decide) (by decide), hk, hn, ds_98]
 refine do_deed v 98 0 317 [.row [fnP 230 [.row [i64 (0)]]]] _ (by decide) (by decide) (by have := hv.d; omega) hv.data (by decide) (by simp) (by rw [hn]; exact found_sp 98 _ _ _ _ (by decide) (by simp) rfl rfl rfl) (by (show List.length _ ≤ _; simp [pFetch, pFetchB, pPut, pLay, pPic, pDig, pAll, pCount, pDivMod, pStarMod, pStar, pUM, pM, pUMod, pSRem, pFMod, pSD, pWithin, pBodyP])) (fun hk H i hi => ?_)
 have hx := hv.x hk
 generalize v.d.drop (v.d.length - 0) = x at hx ⊢
 exact ⟨⟨_, Tryz.func317, rfl, rfl⟩, d_shown 230 [.row [i64 (0)]] v x (0) (by simp) (fun H => ⟨⟨_, Tryz.func230, rfl, rfl⟩, d_always v (0) H⟩) H i hi⟩
theorem ds_99 (v : VVm) (x : List Int) : doneS v 99 [83, 84, 65, 84, 69] x = (v, [8], 0) := by kernel_rfl
theorem do_99 (v : VVm) (hv : VmOk v) : PureC Tryz.prog 67 [eVm v, i64 99] (tVm (doS v 99)) := by
 have hk : takesS 99 (names.getD (99 : Int).toNat []) = 0 := by kernel_rfl
 have hn : names.getD (99 : Int).toNat [] = [83, 84, 65, 84, 69] := by kernel_rfl
 rw [doS_deed (by decide) (by decide), hk, hn, ds_99]
 refine do_deed v 99 0 317 [.row [fnP 230 [.row [i64 (8)]]]] _ (by decide) (by decide) (by have := hv.d; omega) hv.data (by decide) (by simp) (by rw [hn]; exact found_sp 99 _ _ _ _ (by decide) (by simp) rfl rfl rfl) (by (show List.length _ ≤ _; simp [pFetch, pFetchB, pPut, pLay, pPic, pDig, pAll, pCount, pDivMod, pStarMod, pStar, pUM, pM, pUMod, pSRem, pFMod, pSD, pWithin, pBodyP])) (fun hk H i hi => ?_)
 have hx := hv.x hk
 generalize v.d.drop (v.d.length - 0) = x at hx ⊢
 exact ⟨⟨_, Tryz.func317, rfl, rfl⟩, d_shown 230 [.row [i64 (8)]] v x (8) (by simp) (fun H => ⟨⟨_, Tryz.func230, rfl, rfl⟩, d_always v (8) H⟩) H i hi⟩
theorem ds_100 (v : VVm) (x : List Int) : doneS v 100 [84, 82, 85, 69] x = (v, [-1], 0) := by kernel_rfl
theorem do_100 (v : VVm) (hv : VmOk v) : PureC Tryz.prog 67 [eVm v, i64 100] (tVm (doS v 100)) := by
 have hk : takesS 100 (names.getD (100 : Int).toNat []) = 0 := by kernel_rfl
 have hn : names.getD (100 : Int).toNat [] = [84, 82, 85, 69] := by kernel_rfl
 rw [doS_deed (by decide) (by decide), hk, hn, ds_100]
 refine do_deed v 100 0 317 [.row [fnP 230 [.row [i64 (-1)]]]] _ (by decide) (by decide) (by have := hv.d; omega) hv.data (by decide) (by simp) (by rw [hn]; exact found_sp 100 _ _ _ _ (by decide) (by simp) rfl rfl rfl) (by (show List.length _ ≤ _; simp [pFetch, pFetchB, pPut, pLay, pPic, pDig, pAll, pCount, pDivMod, pStarMod, pStar, pUM, pM, pUMod, pSRem, pFMod, pSD, pWithin, pBodyP])) (fun hk H i hi => ?_)
 have hx := hv.x hk
 generalize v.d.drop (v.d.length - 0) = x at hx ⊢
 exact ⟨⟨_, Tryz.func317, rfl, rfl⟩, d_shown 230 [.row [i64 (-1)]] v x (-1) (by simp) (fun H => ⟨⟨_, Tryz.func230, rfl, rfl⟩, d_always v (-1) H⟩) H i hi⟩
theorem ds_101 (v : VVm) (x : List Int) : doneS v 101 [70, 65, 76, 83, 69] x = (v, [0], 0) := by kernel_rfl
theorem do_101 (v : VVm) (hv : VmOk v) : PureC Tryz.prog 67 [eVm v, i64 101] (tVm (doS v 101)) := by
 have hk : takesS 101 (names.getD (101 : Int).toNat []) = 0 := by kernel_rfl
 have hn : names.getD (101 : Int).toNat [] = [70, 65, 76, 83, 69] := by kernel_rfl
 rw [doS_deed (by decide) (by decide), hk, hn, ds_101]
 refine do_deed v 101 0 317 [.row [fnP 230 [.row [i64 (0)]]]] _ (by decide) (by decide) (by have := hv.d; omega) hv.data (by decide) (by simp) (by rw [hn]; exact found_sp 101 _ _ _ _ (by decide) (by simp) rfl rfl rfl) (by (show List.length _ ≤ _; simp [pFetch, pFetchB, pPut, pLay, pPic, pDig, pAll, pCount, pDivMod, pStarMod, pStar, pUM, pM, pUMod, pSRem, pFMod, pSD, pWithin, pBodyP])) (fun hk H i hi => ?_)
 have hx := hv.x hk
 generalize v.d.drop (v.d.length - 0) = x at hx ⊢
 exact ⟨⟨_, Tryz.func317, rfl, rfl⟩, d_shown 230 [.row [i64 (0)]] v x (0) (by simp) (fun H => ⟨⟨_, Tryz.func230, rfl, rfl⟩, d_always v (0) H⟩) H i hi⟩
theorem ds_102 (v : VVm) (x : List Int) : doneS v 102 [66, 76] x = (v, [32], 0) := by kernel_rfl
theorem do_102 (v : VVm) (hv : VmOk v) : PureC Tryz.prog 67 [eVm v, i64 102] (tVm (doS v 102)) := by
 have hk : takesS 102 (names.getD (102 : Int).toNat []) = 0 := by kernel_rfl
 have hn : names.getD (102 : Int).toNat [] = [66, 76] := by kernel_rfl
 rw [doS_deed (by decide) (by decide), hk, hn, ds_102]
 refine do_deed v 102 0 317 [.row [fnP 230 [.row [i64 (32)]]]] _ (by decide) (by decide) (by have := hv.d; omega) hv.data (by decide) (by simp) (by rw [hn]; exact found_sp 102 _ _ _ _ (by decide) (by simp) rfl rfl rfl) (by (show List.length _ ≤ _; simp [pFetch, pFetchB, pPut, pLay, pPic, pDig, pAll, pCount, pDivMod, pStarMod, pStar, pUM, pM, pUMod, pSRem, pFMod, pSD, pWithin, pBodyP])) (fun hk H i hi => ?_)
 have hx := hv.x hk
 generalize v.d.drop (v.d.length - 0) = x at hx ⊢
 exact ⟨⟨_, Tryz.func317, rfl, rfl⟩, d_shown 230 [.row [i64 (32)]] v x (32) (by simp) (fun H => ⟨⟨_, Tryz.func230, rfl, rfl⟩, d_always v (32) H⟩) H i hi⟩
theorem ds_103 (v : VVm) (x : List Int) : doneS v 103 [68, 69, 67, 73, 77, 65, 76] x = pPut v (memStore v.mem 0 10) := by kernel_rfl
theorem do_103 (v : VVm) (hv : VmOk v) : PureC Tryz.prog 67 [eVm v, i64 103] (tVm (doS v 103)) := by
 have hk : takesS 103 (names.getD (103 : Int).toNat []) = 0 := by kernel_rfl
 have hn : names.getD (103 : Int).toNat [] = [68, 69, 67, 73, 77, 65, 76] := by kernel_rfl
 rw [doS_deed (by decide) (by decide), hk, hn, ds_103]
 refine do_deed v 103 0 226 [.row [i64 10]] _ (by decide) (by decide) (by have := hv.d; omega) hv.data (by decide) (by simp) (by rw [hn]; exact found_sp 103 _ _ _ _ (by decide) (by simp) rfl rfl rfl) (by (show List.length _ ≤ _; simp [pFetch, pFetchB, pPut, pLay, pPic, pDig, pAll, pCount, pDivMod, pStarMod, pStar, pUM, pM, pUMod, pSRem, pFMod, pSD, pWithin, pBodyP])) (fun hk H i hi => ?_)
 have hx := hv.x hk
 generalize v.d.drop (v.d.length - 0) = x at hx ⊢
 exact ⟨⟨_, Tryz.func226, rfl, rfl⟩, d_base v x 10 hv.mem H i hi⟩
theorem ds_104 (v : VVm) (x : List Int) : doneS v 104 [72, 69, 88] x = pPut v (memStore v.mem 0 16) := by kernel_rfl
theorem do_104 (v : VVm) (hv : VmOk v) : PureC Tryz.prog 67 [eVm v, i64 104] (tVm (doS v 104)) := by
 have hk : takesS 104 (names.getD (104 : Int).toNat []) = 0 := by kernel_rfl
 have hn : names.getD (104 : Int).toNat [] = [72, 69, 88] := by kernel_rfl
 rw [doS_deed (by decide) (by decide), hk, hn, ds_104]
 refine do_deed v 104 0 226 [.row [i64 16]] _ (by decide) (by decide) (by have := hv.d; omega) hv.data (by decide) (by simp) (by rw [hn]; exact found_sp 104 _ _ _ _ (by decide) (by simp) rfl rfl rfl) (by (show List.length _ ≤ _; simp [pFetch, pFetchB, pPut, pLay, pPic, pDig, pAll, pCount, pDivMod, pStarMod, pStar, pUM, pM, pUMod, pSRem, pFMod, pSD, pWithin, pBodyP])) (fun hk H i hi => ?_)
 have hx := hv.x hk
 generalize v.d.drop (v.d.length - 0) = x at hx ⊢
 exact ⟨⟨_, Tryz.func226, rfl, rfl⟩, d_base v x 16 hv.mem H i hi⟩
theorem ds_105 (v : VVm) (x : List Int) : doneS v 105 [69, 77, 73, 84] x = pPrint v ([loB (xat x 0)], 0) := by kernel_rfl
theorem do_105 (v : VVm) (hv : VmOk v) : PureC Tryz.prog 67 [eVm v, i64 105] (tVm (doS v 105)) := by
 have hk : takesS 105 (names.getD (105 : Int).toNat []) = 1 := by kernel_rfl
 have hn : names.getD (105 : Int).toNat [] = [69, 77, 73, 84] := by kernel_rfl
 rw [doS_deed (by decide) (by decide), hk, hn, ds_105]
 refine do_deed v 105 1 320 [.row [fnP 248 []]] _ (by decide) (by decide) (by have := hv.d; omega) hv.data (by decide) (by simp) (by rw [hn]; exact found_pr 105 _ _ _ _ (by decide) (by simp) rfl rfl rfl rfl) (by unfold pPrint; split <;> simp) (fun hk H i hi => ?_)
 have hx := hv.x hk
 generalize v.d.drop (v.d.length - 1) = x at hx ⊢
 exact ⟨⟨_, Tryz.func320, rfl, rfl⟩, d_puts 248 [] v x ([loB (xat x 0)], 0) hv.out1 hv.out (by simp) (by simp) (fun H => ⟨⟨_, Tryz.func248, rfl, rfl⟩, pr_3 v x hx H⟩) H i hi⟩
theorem ds_106 (v : VVm) (x : List Int) : doneS v 106 [67, 82] x = pPrint v ([10], 0) := by kernel_rfl
theorem do_106 (v : VVm) (hv : VmOk v) : PureC Tryz.prog 67 [eVm v, i64 106] (tVm (doS v 106)) := by
 have hk : takesS 106 (names.getD (106 : Int).toNat []) = 0 := by kernel_rfl
 have hn : names.getD (106 : Int).toNat [] = [67, 82] := by kernel_rfl
 rw [doS_deed (by decide) (by decide), hk, hn, ds_106]
 refine do_deed v 106 0 320 [.row [fnP 247 [.row [str [10]]]]] _ (by decide) (by decide) (by have := hv.d; omega) hv.data (by decide) (by simp) (by rw [hn]; exact found_pr 106 _ _ _ _ (by decide) (by simp) rfl rfl rfl rfl) (by unfold pPrint; split <;> simp) (fun hk H i hi => ?_)
 have hx := hv.x hk
 generalize v.d.drop (v.d.length - 0) = x at hx ⊢
 exact ⟨⟨_, Tryz.func320, rfl, rfl⟩, d_puts 247 [.row [str [10]]] v x ([10], 0) hv.out1 hv.out (by simp) (by simp) (fun H => ⟨⟨_, Tryz.func247, rfl, rfl⟩, d_text [10] v x H⟩) H i hi⟩
theorem ds_107 (v : VVm) (x : List Int) : doneS v 107 [83, 80, 65, 67, 69] x = pPrint v ([32], 0) := by kernel_rfl
theorem do_107 (v : VVm) (hv : VmOk v) : PureC Tryz.prog 67 [eVm v, i64 107] (tVm (doS v 107)) := by
 have hk : takesS 107 (names.getD (107 : Int).toNat []) = 0 := by kernel_rfl
 have hn : names.getD (107 : Int).toNat [] = [83, 80, 65, 67, 69] := by kernel_rfl
 rw [doS_deed (by decide) (by decide), hk, hn, ds_107]
 refine do_deed v 107 0 320 [.row [fnP 247 [.row [str [32]]]]] _ (by decide) (by decide) (by have := hv.d; omega) hv.data (by decide) (by simp) (by rw [hn]; exact found_pr 107 _ _ _ _ (by decide) (by simp) rfl rfl rfl rfl) (by unfold pPrint; split <;> simp) (fun hk H i hi => ?_)
 have hx := hv.x hk
 generalize v.d.drop (v.d.length - 0) = x at hx ⊢
 exact ⟨⟨_, Tryz.func320, rfl, rfl⟩, d_puts 247 [.row [str [32]]] v x ([32], 0) hv.out1 hv.out (by simp) (by simp) (fun H => ⟨⟨_, Tryz.func247, rfl, rfl⟩, d_text [32] v x H⟩) H i hi⟩
theorem ds_108 (v : VVm) (x : List Int) : doneS v 108 [83, 80, 65, 67, 69, 83] x = pPrint v (pSpaces v x, 0) := by kernel_rfl
theorem do_108 (v : VVm) (hv : VmOk v) : PureC Tryz.prog 67 [eVm v, i64 108] (tVm (doS v 108)) := by
 have hk : takesS 108 (names.getD (108 : Int).toNat []) = 1 := by kernel_rfl
 have hn : names.getD (108 : Int).toNat [] = [83, 80, 65, 67, 69, 83] := by kernel_rfl
 rw [doS_deed (by decide) (by decide), hk, hn, ds_108]
 refine do_deed v 108 1 320 [.row [fnP 249 []]] _ (by decide) (by decide) (by have := hv.d; omega) hv.data (by decide) (by simp) (by rw [hn]; exact found_pr 108 _ _ _ _ (by decide) (by simp) rfl rfl rfl rfl) (by unfold pPrint; split <;> simp) (fun hk H i hi => ?_)
 have hx := hv.x hk
 generalize v.d.drop (v.d.length - 1) = x at hx ⊢
 exact ⟨⟨_, Tryz.func320, rfl, rfl⟩, d_puts 249 [] v x (pSpaces v x, 0) hv.out1 hv.out (by have := hv.out2; simp only [pSpaces, List.length_replicate]; omega) (by simp) (fun H => ⟨⟨_, Tryz.func249, rfl, rfl⟩, pr_4 v x hv.out2 hx H⟩) H i hi⟩
theorem ds_109 (v : VVm) (x : List Int) : doneS v 109 [84, 89, 80, 69] x = pPrint v (memText v.mem (xat x 0) (xat x 1)) := by kernel_rfl
theorem do_109 (v : VVm) (hv : VmOk v) : PureC Tryz.prog 67 [eVm v, i64 109] (tVm (doS v 109)) := by
 have hk : takesS 109 (names.getD (109 : Int).toNat []) = 2 := by kernel_rfl
 have hn : names.getD (109 : Int).toNat [] = [84, 89, 80, 69] := by kernel_rfl
 rw [doS_deed (by decide) (by decide), hk, hn, ds_109]
 refine do_deed v 109 2 320 [.row [fnP 251 []]] _ (by decide) (by decide) (by have := hv.d; omega) hv.data (by decide) (by simp) (by rw [hn]; exact found_pr 109 _ _ _ _ (by decide) (by simp) rfl rfl rfl rfl) (by unfold pPrint; split <;> simp) (fun hk H i hi => ?_)
 have hx := hv.x hk
 generalize v.d.drop (v.d.length - 2) = x at hx ⊢
 exact ⟨⟨_, Tryz.func320, rfl, rfl⟩, d_puts 251 [] v x (memText v.mem (xat x 0) (xat x 1)) hv.out1 hv.out (by have := memText_len2 v.mem (xat x 0) (xat x 1); have := hv.mem.b; omega) (by simp) (fun H => ⟨⟨_, Tryz.func251, rfl, rfl⟩, pr_5 v x hv.mem hx H⟩) H i hi⟩
theorem ds_110 (v : VVm) (x : List Int) : doneS v 110 [46] x = pPrint v (pDot (showS (xat x 0) (baseS v))) := by kernel_rfl
theorem do_110 (v : VVm) (hv : VmOk v) : PureC Tryz.prog 67 [eVm v, i64 110] (tVm (doS v 110)) := by
 have hk : takesS 110 (names.getD (110 : Int).toNat []) = 1 := by kernel_rfl
 have hn : names.getD (110 : Int).toNat [] = [46] := by kernel_rfl
 rw [doS_deed (by decide) (by decide), hk, hn, ds_110]
 refine do_deed v 110 1 320 [.row [fnP 244 [.row [fnP 252 []]]]] _ (by decide) (by decide) (by have := hv.d; omega) hv.data (by decide) (by simp) (by rw [hn]; exact found_pr 110 _ _ _ _ (by decide) (by simp) rfl rfl rfl rfl) (by unfold pPrint; split <;> simp) (fun hk H i hi => ?_)
 have hx := hv.x hk
 generalize v.d.drop (v.d.length - 1) = x at hx ⊢
 exact ⟨⟨_, Tryz.func320, rfl, rfl⟩, d_puts 244 [.row [fnP 252 []]] v x (pDot (showS (xat x 0) (baseS v))) hv.out1 hv.out (by have := showS_len (xat x 0) (baseS v); simp only [pDot, List.length_append, List.length_singleton]; omega) (by simp) (fun H => ⟨⟨_, Tryz.func244, rfl, rfl⟩, d_number 252 [] v x (showS (xat x 0) (baseS v)) hx.len (memOk_len hv.mem) (by have := showS_len (xat x 0) (baseS v); omega) (by simp) (fun H => ⟨⟨_, Tryz.func252, rfl, rfl⟩, k_Show _ _ (hx.fit 0) H⟩) H⟩) H i hi⟩
theorem ds_111 (v : VVm) (x : List Int) : doneS v 111 [85, 46] x = pPrint v (pDot (ushowS (xat x 0) (baseS v))) := by kernel_rfl
theorem do_111 (v : VVm) (hv : VmOk v) : PureC Tryz.prog 67 [eVm v, i64 111] (tVm (doS v 111)) := by
 have hk : takesS 111 (names.getD (111 : Int).toNat []) = 1 := by kernel_rfl
 have hn : names.getD (111 : Int).toNat [] = [85, 46] := by kernel_rfl
 rw [doS_deed (by decide) (by decide), hk, hn, ds_111]
 refine do_deed v 111 1 320 [.row [fnP 244 [.row [fnP 253 []]]]] _ (by decide) (by decide) (by have := hv.d; omega) hv.data (by decide) (by simp) (by rw [hn]; exact found_pr 111 _ _ _ _ (by decide) (by simp) rfl rfl rfl rfl) (by unfold pPrint; split <;> simp) (fun hk H i hi => ?_)
 have hx := hv.x hk
 generalize v.d.drop (v.d.length - 1) = x at hx ⊢
 exact ⟨⟨_, Tryz.func320, rfl, rfl⟩, d_puts 244 [.row [fnP 253 []]] v x (pDot (ushowS (xat x 0) (baseS v))) hv.out1 hv.out (by have := ushowS_len (xat x 0) (baseS v); simp only [pDot, List.length_append, List.length_singleton]; omega) (by simp) (fun H => ⟨⟨_, Tryz.func244, rfl, rfl⟩, d_number 253 [] v x (ushowS (xat x 0) (baseS v)) hx.len (memOk_len hv.mem) (by have := ushowS_len (xat x 0) (baseS v); omega) (by simp) (fun H => ⟨⟨_, Tryz.func253, rfl, rfl⟩, k_UShow _ _ (hx.fit 0) H⟩) H⟩) H i hi⟩
theorem ds_112 (v : VVm) (x : List Int) : doneS v 112 [60, 35] x = (withP v ⟨[], true⟩, [], 0) := by kernel_rfl
theorem do_112 (v : VVm) (hv : VmOk v) : PureC Tryz.prog 67 [eVm v, i64 112] (tVm (doS v 112)) := by
 have hk : takesS 112 (names.getD (112 : Int).toNat []) = 0 := by kernel_rfl
 have hn : names.getD (112 : Int).toNat [] = [60, 35] := by kernel_rfl
 rw [doS_deed (by decide) (by decide), hk, hn, ds_112]
 refine do_deed v 112 0 256 [] _ (by decide) (by decide) (by have := hv.d; omega) hv.data (by decide) (by simp) (by rw [hn]; exact found_pi 112 _ _ _ _ (by decide) (by simp) rfl rfl rfl rfl rfl) (by (show List.length _ ≤ _; simp [pFetch, pFetchB, pPut, pLay, pPic, pDig, pAll, pCount, pDivMod, pStarMod, pStar, pUM, pM, pUMod, pSRem, pFMod, pSD, pWithin, pBodyP])) (fun hk H i hi => ?_)
 have hx := hv.x hk
 generalize v.d.drop (v.d.length - 0) = x at hx ⊢
 exact ⟨⟨_, Tryz.func256, rfl, rfl⟩, pi_2 v x H i hi⟩
theorem ds_113 (v : VVm) (x : List Int) : doneS v 113 [35] x = pDig v x := by kernel_rfl
theorem do_113 (v : VVm) (hv : VmOk v) : PureC Tryz.prog 67 [eVm v, i64 113] (tVm (doS v 113)) := by
 have hk : takesS 113 (names.getD (113 : Int).toNat []) = 2 := by kernel_rfl
 have hn : names.getD (113 : Int).toNat [] = [35] := by kernel_rfl
 rw [doS_deed (by decide) (by decide), hk, hn, ds_113]
 refine do_deed v 113 2 258 [] _ (by decide) (by decide) (by have := hv.d; omega) hv.data (by decide) (by simp) (by rw [hn]; exact found_pi 113 _ _ _ _ (by decide) (by simp) rfl rfl rfl rfl rfl) (by (show List.length _ ≤ _; simp [pFetch, pFetchB, pPut, pLay, pPic, pDig, pAll, pCount, pDivMod, pStarMod, pStar, pUM, pM, pUMod, pSRem, pFMod, pSD, pWithin, pBodyP])) (fun hk H i hi => ?_)
 have hx := hv.x hk
 generalize v.d.drop (v.d.length - 2) = x at hx ⊢
 exact ⟨⟨_, Tryz.func258, rfl, rfl⟩, pi_3 v x hv.pic (memOk_len hv.mem) hx H i hi⟩
theorem ds_114 (v : VVm) (x : List Int) : doneS v 114 [35, 83] x = pAll v x := by kernel_rfl
theorem do_114 (v : VVm) (hv : VmOk v) : PureC Tryz.prog 67 [eVm v, i64 114] (tVm (doS v 114)) := by
 have hk : takesS 114 (names.getD (114 : Int).toNat []) = 2 := by kernel_rfl
 have hn : names.getD (114 : Int).toNat [] = [35, 83] := by kernel_rfl
 rw [doS_deed (by decide) (by decide), hk, hn, ds_114]
 refine do_deed v 114 2 260 [] _ (by decide) (by decide) (by have := hv.d; omega) hv.data (by decide) (by simp) (by rw [hn]; exact found_pi 114 _ _ _ _ (by decide) (by simp) rfl rfl rfl rfl rfl) (by (show List.length _ ≤ _; simp [pFetch, pFetchB, pPut, pLay, pPic, pDig, pAll, pCount, pDivMod, pStarMod, pStar, pUM, pM, pUMod, pSRem, pFMod, pSD, pWithin, pBodyP])) (fun hk H i hi => ?_)
 have hx := hv.x hk
 generalize v.d.drop (v.d.length - 2) = x at hx ⊢
 exact ⟨⟨_, Tryz.func260, rfl, rfl⟩, pi_4 v x hv.pic (memOk_len hv.mem) hx H i hi⟩
theorem ds_115 (v : VVm) (x : List Int) : doneS v 115 [72, 79, 76, 68] x = pPic v (picHold v.pic (xat x 0)) := by kernel_rfl
theorem do_115 (v : VVm) (hv : VmOk v) : PureC Tryz.prog 67 [eVm v, i64 115] (tVm (doS v 115)) := by
 have hk : takesS 115 (names.getD (115 : Int).toNat []) = 1 := by kernel_rfl
 have hn : names.getD (115 : Int).toNat [] = [72, 79, 76, 68] := by kernel_rfl
 rw [doS_deed (by decide) (by decide), hk, hn, ds_115]
 refine do_deed v 115 1 255 [.row [fnP 262 []]] _ (by decide) (by decide) (by have := hv.d; omega) hv.data (by decide) (by simp) (by rw [hn]; exact found_pi 115 _ _ _ _ (by decide) (by simp) rfl rfl rfl rfl rfl) (by (show List.length _ ≤ _; simp [pFetch, pFetchB, pPut, pLay, pPic, pDig, pAll, pCount, pDivMod, pStarMod, pStar, pUM, pM, pUMod, pSRem, pFMod, pSD, pWithin, pBodyP])) (fun hk H i hi => ?_)
 have hx := hv.x hk
 generalize v.d.drop (v.d.length - 1) = x at hx ⊢
 exact ⟨⟨_, Tryz.func255, rfl, rfl⟩, d_lay 262 [] v x _ hx.len (by simp) (fun H => ⟨⟨_, Tryz.func262, rfl, rfl⟩, pic_Hold v.pic _ hv.pic H⟩) H i hi⟩
theorem ds_116 (v : VVm) (x : List Int) : doneS v 116 [83, 73, 71, 78] x = pPic v (picSign v.pic (xat x 0)) := by kernel_rfl
theorem do_116 (v : VVm) (hv : VmOk v) : PureC Tryz.prog 67 [eVm v, i64 116] (tVm (doS v 116)) := by
 have hk : takesS 116 (names.getD (116 : Int).toNat []) = 1 := by kernel_rfl
 have hn : names.getD (116 : Int).toNat [] = [83, 73, 71, 78] := by kernel_rfl
 rw [doS_deed (by decide) (by decide), hk, hn, ds_116]
 refine do_deed v 116 1 255 [.row [fnP 263 []]] _ (by decide) (by decide) (by have := hv.d; omega) hv.data (by decide) (by simp) (by rw [hn]; exact found_pi 116 _ _ _ _ (by decide) (by simp) rfl rfl rfl rfl rfl) (by (show List.length _ ≤ _; simp [pFetch, pFetchB, pPut, pLay, pPic, pDig, pAll, pCount, pDivMod, pStarMod, pStar, pUM, pM, pUMod, pSRem, pFMod, pSD, pWithin, pBodyP])) (fun hk H i hi => ?_)
 have hx := hv.x hk
 generalize v.d.drop (v.d.length - 1) = x at hx ⊢
 exact ⟨⟨_, Tryz.func255, rfl, rfl⟩, d_lay 263 [] v x _ hx.len (by simp) (fun H => ⟨⟨_, Tryz.func263, rfl, rfl⟩, pic_Sign v.pic _ hv.pic H⟩) H i hi⟩
theorem ds_117 (v : VVm) (x : List Int) : doneS v 117 [35, 62] x = pEnd v := by kernel_rfl
theorem do_117 (v : VVm) (hv : VmOk v) : PureC Tryz.prog 67 [eVm v, i64 117] (tVm (doS v 117)) := by
 have hk : takesS 117 (names.getD (117 : Int).toNat []) = 2 := by kernel_rfl
 have hn : names.getD (117 : Int).toNat [] = [35, 62] := by kernel_rfl
 rw [doS_deed (by decide) (by decide), hk, hn, ds_117]
 refine do_deed v 117 2 264 [] _ (by decide) (by decide) (by have := hv.d; omega) hv.data (by decide) (by simp) (by rw [hn]; exact found_pi 117 _ _ _ _ (by decide) (by simp) rfl rfl rfl rfl rfl) (by unfold pEnd; split <;> simp) (fun hk H i hi => ?_)
 have hx := hv.x hk
 generalize v.d.drop (v.d.length - 2) = x at hx ⊢
 exact ⟨⟨_, Tryz.func264, rfl, rfl⟩, pi_5 v x hv.pic hv.mem H i hi⟩
theorem ds_118 (v : VVm) (x : List Int) : doneS v 118 [62, 66, 79, 68, 89] x = pBody v x := by kernel_rfl
theorem do_118 (v : VVm) (hv : VmOk v) : PureC Tryz.prog 67 [eVm v, i64 118] (tVm (doS v 118)) := by
 have hk : takesS 118 (names.getD (118 : Int).toNat []) = 1 := by kernel_rfl
 have hn : names.getD (118 : Int).toNat [] = [62, 66, 79, 68, 89] := by kernel_rfl
 rw [doS_deed (by decide) (by decide), hk, hn, ds_118]
 rw [← doR_congr (r' := (v, pBodyP v (v.d.drop (v.d.length - 1)))) (body_code v _) (body_eq v _)]
 refine do_deed v 118 1 267 [] _ (by decide) (by decide) (by have := hv.d; omega) hv.data (by decide) (by simp) (by rw [hn]; exact found_ot 118 _ _ _ _ (by decide) (by simp) rfl rfl rfl rfl rfl rfl) (by (show List.length _ ≤ _; simp [pFetch, pFetchB, pPut, pLay, pPic, pDig, pAll, pCount, pDivMod, pStarMod, pStar, pUM, pM, pUMod, pSRem, pFMod, pSD, pWithin, pBodyP])) (fun hk H i hi => ?_)
 have hx := hv.x hk
 generalize v.d.drop (v.d.length - 1) = x at hx ⊢
 exact ⟨⟨_, Tryz.func267, rfl, rfl⟩, ot_1 v x (memOk_len hv.mem) hx H i hi⟩
theorem ds_119 (v : VVm) (x : List Int) : doneS v 119 [65, 66, 79, 82, 84] x = (v, [], -1) := by kernel_rfl
theorem do_119 (v : VVm) (hv : VmOk v) : PureC Tryz.prog 67 [eVm v, i64 119] (tVm (doS v 119)) := by
 have hk : takesS 119 (names.getD (119 : Int).toNat []) = 0 := by kernel_rfl
 have hn : names.getD (119 : Int).toNat [] = [65, 66, 79, 82, 84] := by kernel_rfl
 rw [doS_deed (by decide) (by decide), hk, hn, ds_119]
 refine do_deed v 119 0 186 [.row [fnP 268 []]] _ (by decide) (by decide) (by have := hv.d; omega) hv.data (by decide) (by simp) (by rw [hn]; exact found_ot 119 _ _ _ _ (by decide) (by simp) rfl rfl rfl rfl rfl rfl) (by (show List.length _ ≤ _; simp [pFetch, pFetchB, pPut, pLay, pPic, pDig, pAll, pCount, pDivMod, pStarMod, pStar, pUM, pM, pUMod, pSRem, pFMod, pSD, pWithin, pBodyP])) (fun hk H i hi => ?_)
 have hx := hv.x hk
 generalize v.d.drop (v.d.length - 0) = x at hx ⊢
 exact ⟨⟨_, Tryz.func186, rfl, rfl⟩, d_pure 268 [] v x (v, [], -1).2 (by simp) (fun H => ⟨⟨_, Tryz.func268, rfl, rfl⟩, ot_2 x H⟩) H i hi⟩
theorem ds_120 (v : VVm) (x : List Int) : doneS v 120 [80, 79, 83, 84] x = pPost v x := by kernel_rfl
theorem do_120 (v : VVm) (hv : VmOk v) : PureC Tryz.prog 67 [eVm v, i64 120] (tVm (doS v 120)) := by
 have hk : takesS 120 (names.getD (120 : Int).toNat []) = 3 := by kernel_rfl
 have hn : names.getD (120 : Int).toNat [] = [80, 79, 83, 84] := by kernel_rfl
 rw [doS_deed (by decide) (by decide), hk, hn, ds_120]
 refine do_deed v 120 3 335 [.row [i64 1], .row [i64 3]] _ (by decide) (by decide) (by have := hv.d; omega) hv.data (by decide) (by simp) (by rw [hn]; exact found_ot 120 _ _ _ _ (by decide) (by simp) rfl rfl rfl rfl rfl rfl) (by unfold pPost; split; simp; split <;> simp) (fun hk H i hi => ?_)
 have hx := hv.x hk
 generalize v.d.drop (v.d.length - 3) = x at hx ⊢
 exact ⟨⟨_, Tryz.func335, rfl, rfl⟩, d_post v x hv.req hv.hand hx H i hi⟩
theorem ds_121 (v : VVm) (x : List Int) : doneS v 121 [65, 70, 84, 69, 82] x = pTimer 2 v x := by kernel_rfl
theorem do_121 (v : VVm) (hv : VmOk v) : PureC Tryz.prog 67 [eVm v, i64 121] (tVm (doS v 121)) := by
 have hk : takesS 121 (names.getD (121 : Int).toNat []) = 4 := by kernel_rfl
 have hn : names.getD (121 : Int).toNat [] = [65, 70, 84, 69, 82] := by kernel_rfl
 rw [doS_deed (by decide) (by decide), hk, hn, ds_121]
 refine do_deed v 121 4 335 [.row [i64 2], .row [i64 4]] _ (by decide) (by decide) (by have := hv.d; omega) hv.data (by decide) (by simp) (by rw [hn]; exact found_ot 121 _ _ _ _ (by decide) (by simp) rfl rfl rfl rfl rfl rfl) (by unfold pTimer; split; simp; split; simp; split; simp; split <;> simp) (fun hk H i hi => ?_)
 have hx := hv.x hk
 generalize v.d.drop (v.d.length - 4) = x at hx ⊢
 exact ⟨⟨_, Tryz.func335, rfl, rfl⟩, d_timer 2 (by decide) v x hv.req hv.hand hx H i hi⟩
theorem ds_122 (v : VVm) (x : List Int) : doneS v 122 [69, 86, 69, 82, 89] x = pTimer 3 v x := by kernel_rfl
theorem do_122 (v : VVm) (hv : VmOk v) : PureC Tryz.prog 67 [eVm v, i64 122] (tVm (doS v 122)) := by
 have hk : takesS 122 (names.getD (122 : Int).toNat []) = 4 := by kernel_rfl
 have hn : names.getD (122 : Int).toNat [] = [69, 86, 69, 82, 89] := by kernel_rfl
 rw [doS_deed (by decide) (by decide), hk, hn, ds_122]
 refine do_deed v 122 4 335 [.row [i64 3], .row [i64 4]] _ (by decide) (by decide) (by have := hv.d; omega) hv.data (by decide) (by simp) (by rw [hn]; exact found_ot 122 _ _ _ _ (by decide) (by simp) rfl rfl rfl rfl rfl rfl) (by unfold pTimer; split; simp; split; simp; split; simp; split <;> simp) (fun hk H i hi => ?_)
 have hx := hv.x hk
 generalize v.d.drop (v.d.length - 4) = x at hx ⊢
 exact ⟨⟨_, Tryz.func335, rfl, rfl⟩, d_timer 3 (by decide) v x hv.req hv.hand hx H i hi⟩
theorem ds_123 (v : VVm) (x : List Int) : doneS v 123 [67, 65, 78, 67, 69, 76] x = pCancel v x := by kernel_rfl
theorem do_123 (v : VVm) (hv : VmOk v) : PureC Tryz.prog 67 [eVm v, i64 123] (tVm (doS v 123)) := by
 have hk : takesS 123 (names.getD (123 : Int).toNat []) = 1 := by kernel_rfl
 have hn : names.getD (123 : Int).toNat [] = [67, 65, 78, 67, 69, 76] := by kernel_rfl
 rw [doS_deed (by decide) (by decide), hk, hn, ds_123]
 refine do_deed v 123 1 335 [.row [i64 4], .row [i64 1]] _ (by decide) (by decide) (by have := hv.d; omega) hv.data (by decide) (by simp) (by rw [hn]; exact found_ot 123 _ _ _ _ (by decide) (by simp) rfl rfl rfl rfl rfl rfl) (by unfold pCancel; split <;> simp) (fun hk H i hi => ?_)
 have hx := hv.x hk
 generalize v.d.drop (v.d.length - 1) = x at hx ⊢
 exact ⟨⟨_, Tryz.func335, rfl, rfl⟩, d_cancel v x hv.req hx H i hi⟩
theorem ds_124 (v : VVm) (x : List Int) : doneS v 124 [65, 82, 71] x = (v, [v.arg], 0) := by kernel_rfl
theorem do_124 (v : VVm) (hv : VmOk v) : PureC Tryz.prog 67 [eVm v, i64 124] (tVm (doS v 124)) := by
 have hk : takesS 124 (names.getD (124 : Int).toNat []) = 0 := by kernel_rfl
 have hn : names.getD (124 : Int).toNat [] = [65, 82, 71] := by kernel_rfl
 rw [doS_deed (by decide) (by decide), hk, hn, ds_124]
 refine do_deed v 124 0 317 [.row [fnP 270 []]] _ (by decide) (by decide) (by have := hv.d; omega) hv.data (by decide) (by simp) (by rw [hn]; exact found_ot 124 _ _ _ _ (by decide) (by simp) rfl rfl rfl rfl rfl rfl) (by (show List.length _ ≤ _; simp [pFetch, pFetchB, pPut, pLay, pPic, pDig, pAll, pCount, pDivMod, pStarMod, pStar, pUM, pM, pUMod, pSRem, pFMod, pSD, pWithin, pBodyP])) (fun hk H i hi => ?_)
 have hx := hv.x hk
 generalize v.d.drop (v.d.length - 0) = x at hx ⊢
 exact ⟨⟨_, Tryz.func317, rfl, rfl⟩, d_shown 270 [] v x _ (by simp) (fun H => ⟨⟨_, Tryz.func270, rfl, rfl⟩, ot_3 v H⟩) H i hi⟩
theorem ds_125 (v : VVm) (x : List Int) : doneS v 125 [83, 69, 76, 70] x = (v, [v.self], 0) := by kernel_rfl
theorem do_125 (v : VVm) (hv : VmOk v) : PureC Tryz.prog 67 [eVm v, i64 125] (tVm (doS v 125)) := by
 have hk : takesS 125 (names.getD (125 : Int).toNat []) = 0 := by kernel_rfl
 have hn : names.getD (125 : Int).toNat [] = [83, 69, 76, 70] := by kernel_rfl
 rw [doS_deed (by decide) (by decide), hk, hn, ds_125]
 refine do_deed v 125 0 317 [.row [fnP 271 []]] _ (by decide) (by decide) (by have := hv.d; omega) hv.data (by decide) (by simp) (by rw [hn]; exact found_ot 125 _ _ _ _ (by decide) (by simp) rfl rfl rfl rfl rfl rfl) (by (show List.length _ ≤ _; simp [pFetch, pFetchB, pPut, pLay, pPic, pDig, pAll, pCount, pDivMod, pStarMod, pStar, pUM, pM, pUMod, pSRem, pFMod, pSD, pWithin, pBodyP])) (fun hk H i hi => ?_)
 have hx := hv.x hk
 generalize v.d.drop (v.d.length - 0) = x at hx ⊢
 exact ⟨⟨_, Tryz.func317, rfl, rfl⟩, d_shown 271 [] v x _ (by simp) (fun H => ⟨⟨_, Tryz.func271, rfl, rfl⟩, ot_4 v H⟩) H i hi⟩
theorem ds_126 (v : VVm) (x : List Int) : doneS v 126 [78, 79, 87] x = (v, [v.now], 0) := by kernel_rfl
theorem do_126 (v : VVm) (hv : VmOk v) : PureC Tryz.prog 67 [eVm v, i64 126] (tVm (doS v 126)) := by
 have hk : takesS 126 (names.getD (126 : Int).toNat []) = 0 := by kernel_rfl
 have hn : names.getD (126 : Int).toNat [] = [78, 79, 87] := by kernel_rfl
 rw [doS_deed (by decide) (by decide), hk, hn, ds_126]
 refine do_deed v 126 0 317 [.row [fnP 272 []]] _ (by decide) (by decide) (by have := hv.d; omega) hv.data (by decide) (by simp) (by rw [hn]; exact found_ot 126 _ _ _ _ (by decide) (by simp) rfl rfl rfl rfl rfl rfl) (by (show List.length _ ≤ _; simp [pFetch, pFetchB, pPut, pLay, pPic, pDig, pAll, pCount, pDivMod, pStarMod, pStar, pUM, pM, pUMod, pSRem, pFMod, pSD, pWithin, pBodyP])) (fun hk H i hi => ?_)
 have hx := hv.x hk
 generalize v.d.drop (v.d.length - 0) = x at hx ⊢
 exact ⟨⟨_, Tryz.func317, rfl, rfl⟩, d_shown 272 [] v x _ (by simp) (fun H => ⟨⟨_, Tryz.func272, rfl, rfl⟩, ot_5 v H⟩) H i hi⟩
theorem ds_127 (v : VVm) (x : List Int) : doneS v 127 [83, 69, 84, 45, 83, 84, 65, 84, 69] x = pSetState v x := by kernel_rfl
theorem do_127 (v : VVm) (hv : VmOk v) : PureC Tryz.prog 67 [eVm v, i64 127] (tVm (doS v 127)) := by
 have hk : takesS 127 (names.getD (127 : Int).toNat []) = 2 := by kernel_rfl
 have hn : names.getD (127 : Int).toNat [] = [83, 69, 84, 45, 83, 84, 65, 84, 69] := by kernel_rfl
 rw [doS_deed (by decide) (by decide), hk, hn, ds_127]
 refine do_deed v 127 2 273 [] _ (by decide) (by decide) (by have := hv.d; omega) hv.data (by decide) (by simp) (by rw [hn]; exact found_ot 127 _ _ _ _ (by decide) (by simp) rfl rfl rfl rfl rfl rfl) (by unfold pSetState pPut; split <;> simp) (fun hk H i hi => ?_)
 have hx := hv.x hk
 generalize v.d.drop (v.d.length - 2) = x at hx ⊢
 exact ⟨⟨_, Tryz.func273, rfl, rfl⟩, ot_6 v x hv.mem hx H i hi⟩
theorem ds_128 (v : VVm) (x : List Int) : doneS v 128 [65, 84, 45, 83, 84, 65, 84, 69] x = pAtState v x := by kernel_rfl
theorem do_128 (v : VVm) (hv : VmOk v) : PureC Tryz.prog 67 [eVm v, i64 128] (tVm (doS v 128)) := by
 have hk : takesS 128 (names.getD (128 : Int).toNat []) = 3 := by kernel_rfl
 have hn : names.getD (128 : Int).toNat [] = [65, 84, 45, 83, 84, 65, 84, 69] := by kernel_rfl
 rw [doS_deed (by decide) (by decide), hk, hn, ds_128]
 refine do_deed v 128 3 275 [] _ (by decide) (by decide) (by have := hv.d; omega) hv.data (by decide) (by simp) (by rw [hn]; exact found_ot 128 _ _ _ _ (by decide) (by simp) rfl rfl rfl rfl rfl rfl) (by unfold pAtState pPut; split <;> simp) (fun hk H i hi => ?_)
 have hx := hv.x hk
 generalize v.d.drop (v.d.length - 3) = x at hx ⊢
 exact ⟨⟨_, Tryz.func275, rfl, rfl⟩, ot_7 v x hv.mem hx H i hi⟩
theorem ds_129 (v : VVm) (x : List Int) : doneS v 129 [71, 69, 84, 45, 83, 84, 65, 84, 69] x = pFetch v x := by kernel_rfl
theorem do_129 (v : VVm) (hv : VmOk v) : PureC Tryz.prog 67 [eVm v, i64 129] (tVm (doS v 129)) := by
 have hk : takesS 129 (names.getD (129 : Int).toNat []) = 1 := by kernel_rfl
 have hn : names.getD (129 : Int).toNat [] = [71, 69, 84, 45, 83, 84, 65, 84, 69] := by kernel_rfl
 rw [doS_deed (by decide) (by decide), hk, hn, ds_129]
 refine do_deed v 129 1 313 [.row [fnP 60 []]] _ (by decide) (by decide) (by have := hv.d; omega) hv.data (by decide) (by simp) (by rw [hn]; exact found_ot 129 _ _ _ _ (by decide) (by simp) rfl rfl rfl rfl rfl rfl) (by (show List.length _ ≤ _; simp [pFetch, pFetchB, pPut, pLay, pPic, pDig, pAll, pCount, pDivMod, pStarMod, pStar, pUM, pM, pUMod, pSRem, pFMod, pSD, pWithin, pBodyP])) (fun hk H i hi => ?_)
 have hx := hv.x hk
 generalize v.d.drop (v.d.length - 1) = x at hx ⊢
 exact ⟨⟨_, Tryz.func313, rfl, rfl⟩, d_fetches 60 [] v x _ hx.len (by simp) (fun H => ⟨⟨_, Tryz.func60, rfl, rfl⟩, (mem_Fetch v.mem _ (memOk_len hv.mem) (hx.fit 0)) H⟩) H i hi⟩
theorem shuf_mem {n : Int} (h0 : 23 ≤ n) (h1 : n ≤ 38) : names.getD n.toNat [] ∈ shufNames := by
 have : n = 23 ∨ n = 24 ∨ n = 25 ∨ n = 26 ∨ n = 27 ∨ n = 28 ∨ n = 29 ∨ n = 30 ∨ n = 31 ∨ n = 32 ∨ n = 33 ∨ n = 34 ∨ n = 35 ∨ n = 36 ∨ n = 37 ∨ n = 38 := by omega
 rcases this with rfl | rfl | rfl | rfl | rfl | rfl | rfl | rfl | rfl | rfl | rfl | rfl | rfl | rfl | rfl | rfl <;> decide
theorem prim_Do (v : VVm) (hv : VmOk v) (n : Int) : PureC Tryz.prog 67 [eVm v, i64 n] (tVm (doS v n)) := by
 by_cases h : 23 ≤ n ∧ n ≤ 129
 ·by_cases h1 : n ≤ 38
  ·have hs : names.getD n.toNat [] ∈ shufNames := shuf_mem h.1 h1
   have e : doS v n = ({ v with d := (shuffleS (names.getD n.toNat []) v.d v.conf.data).1 }, (shuffleS (names.getD n.toNat []) v.d v.conf.data).2.2) := by
    unfold doS; rw [if_neg (by omega)]; simp only; rw [if_pos h1]
   rw [e]
   exact do_shuffle v n h.1 h1 hs (by have := hv.d; omega) hv.data
  ·by_cases h2 : n ≤ 58
   ·exact do_two v hv n (by omega) h2
   ·by_cases h3 : n ≤ 72
    ·exact do_one v hv n (by omega) h3
    ·have : n = 73 ∨ n = 74 ∨ n = 75 ∨ n = 76 ∨ n = 77 ∨ n = 78 ∨ n = 79 ∨ n = 80 ∨ n = 81 ∨ n = 82 ∨ n = 83 ∨ n = 84 ∨ n = 85 ∨ n = 86 ∨ n = 87 ∨ n = 88 ∨ n = 89 ∨ n = 90 ∨ n = 91 ∨ n = 92 ∨ n = 93 ∨ n = 94 ∨ n = 95 ∨ n = 96 ∨ n = 97 ∨ n = 98 ∨ n = 99 ∨ n = 100 ∨ n = 101 ∨ n = 102 ∨ n = 103 ∨ n = 104 ∨ n = 105 ∨ n = 106 ∨ n = 107 ∨ n = 108 ∨ n = 109 ∨ n = 110 ∨ n = 111 ∨ n = 112 ∨ n = 113 ∨ n = 114 ∨ n = 115 ∨ n = 116 ∨ n = 117 ∨ n = 118 ∨ n = 119 ∨ n = 120 ∨ n = 121 ∨ n = 122 ∨ n = 123 ∨ n = 124 ∨ n = 125 ∨ n = 126 ∨ n = 127 ∨ n = 128 ∨ n = 129 := by omega
     rcases this with rfl | rfl | rfl | rfl | rfl | rfl | rfl | rfl | rfl | rfl | rfl | rfl | rfl | rfl | rfl | rfl | rfl | rfl | rfl | rfl | rfl | rfl | rfl | rfl | rfl | rfl | rfl | rfl | rfl | rfl | rfl | rfl | rfl | rfl | rfl | rfl | rfl | rfl | rfl | rfl | rfl | rfl | rfl | rfl | rfl | rfl | rfl | rfl | rfl | rfl | rfl | rfl | rfl | rfl | rfl | rfl | rfl
     ·exact do_73 v hv
     ·exact do_74 v hv
     ·exact do_75 v hv
     ·exact do_76 v hv
     ·exact do_77 v hv
     ·exact do_78 v hv
     ·exact do_79 v hv
     ·exact do_80 v hv
     ·exact do_81 v hv
     ·exact do_82 v hv
     ·exact do_83 v hv
     ·exact do_84 v hv
     ·exact do_85 v hv
     ·exact do_86 v hv
     ·exact do_87 v hv
     ·exact do_88 v hv
     ·exact do_89 v hv
     ·exact do_90 v hv
     ·exact do_91 v hv
     ·exact do_92 v hv
     ·exact do_93 v hv
     ·exact do_94 v hv
     ·exact do_95 v hv
     ·exact do_96 v hv
     ·exact do_97 v hv
     ·exact do_98 v hv
     ·exact do_99 v hv
     ·exact do_100 v hv
     ·exact do_101 v hv
     ·exact do_102 v hv
     ·exact do_103 v hv
     ·exact do_104 v hv
     ·exact do_105 v hv
     ·exact do_106 v hv
     ·exact do_107 v hv
     ·exact do_108 v hv
     ·exact do_109 v hv
     ·exact do_110 v hv
     ·exact do_111 v hv
     ·exact do_112 v hv
     ·exact do_113 v hv
     ·exact do_114 v hv
     ·exact do_115 v hv
     ·exact do_116 v hv
     ·exact do_117 v hv
     ·exact do_118 v hv
     ·exact do_119 v hv
     ·exact do_120 v hv
     ·exact do_121 v hv
     ·exact do_122 v hv
     ·exact do_123 v hv
     ·exact do_124 v hv
     ·exact do_125 v hv
     ·exact do_126 v hv
     ·exact do_127 v hv
     ·exact do_128 v hv
     ·exact do_129 v hv
 ·have e : doS v n = (v, -24) := by unfold doS; rw [if_pos (by omega)]
  rw [e]; exact do_bad v n h
end Go.Proofs.YtobhnjnffnbbkaaGreatDoor
namespace Go.Proofs.YtobhnjnffnbbkaaGreatDoor
open Go.RowKit
set_option maxRecDepth 100000
set_option maxHeartbeats 4000000
def few3 (m : VMem) (most : Int) : Bool := decide ((m.b.length : Int) ≤ most ∧ m.old.length ≤ 60) && m.old.all (fun p => decide (p.old.length ≤ 200))
theorem ref_Few3 (m : VMem) (most : Int) (hb : m.b.length ≤ 9223372036854775807) (ho : m.old.length ≤ 9223372036854775807) : PureC Tryz.prog 32 [eMem m, i64 most] (boo (few3 m most)) := by
 refine pW tG (rs := [.tmp 4]) Tryz.func32 rfl rfl rfl (by simp) (by simp) (fun B => ?_)
 refine zu2 ?_
 refine Ws ?_
 refine zp5 ?_
 refine z1 ?_
 refine Wb 11 rfl (fun hg1 => ?_) (fun hg1 => ?_)
 ·have hno : ¬ ((m.b.length : Int) ≤ most ∧ m.old.length ≤ 60) := fun h => by have := oT hg1; omega
  iterate 4 refine z6 ?_
  refine zs1 ?_
  refine Wt rfl rfl ?_
  refine zu1 ?_
  refine zR ?_
  exact congrArg boo (by rw [few3, decide_eq_false hno]; rfl)
 ·have h0 : ¬ (m.b.length : Int) > most := oF hg1
  refine zs5 ?_
  refine Wi rfl (fun hi1 => ?_) (fun hi1 => ?_)
  ·have hno : ¬ ((m.b.length : Int) ≤ most ∧ m.old.length ≤ 60) := fun h => by have := oT hi1; omega
   refine zu1 ?_
   refine zR ?_
   exact congrArg boo (by rw [few3, decide_eq_false hno]; rfl)
  ·have h1 : ¬ (m.old.length : Int) > 60 := oF hi1
   have hyes : (m.b.length : Int) ≤ most ∧ m.old.length ≤ 60 := ⟨by omega, by omega⟩
   refine Wj ?_
   refine Ws ?_
   refine zu1 ?_
   refine Wl ?_
   show W _ _ _ _ _ _ _
   refine W_loopS (fun (k : Nat) => [(2, .ptr 0 0), (5, i64 k)]) (fun (k : Nat) => [.cells (cMem m) 27]) (fun (k : Nat) => []) (fun (k : Nat) => k ≤ m.old.length ∧ (m.old.take k).all (fun p => decide (p.old.length ≤ 200)) = true) (fun (k : Nat) => m.old.length - k) (0) (by simp) [] ?_ ?_
   ·exact fitT
   ·intro k hk
    refine Ws ?_
    refine zu5 ?_
    refine Wi rfl (fun hi2 => ?_) (fun hi2 => ?_)
    ·have hlt : k < m.old.length := by have := oT hi2; omega
     refine Wj ?_
     refine Ws ?_
     refine Wl ?_
     refine zp3 ?_
     refine Wv tG rfl rfl rfl (by omega) (iN cPatch 2 (fun _ => rfl) default (by omega)) ?_
     refine zs4 ?_
     refine Wi rfl (fun hi3 => ?_) (fun hi3 => ?_)
     ·have hn : m.old.all (fun p => decide (p.old.length ≤ 200)) = false := all_no default hlt (decide_eq_false (by have := oT hi3; omega))
      refine zu1 ?_
      refine zR ?_
      exact congrArg boo (by rw [few3, hn, Bool.and_false])
     ·have hy : decide ((m.old.getD k default).old.length ≤ 200) = true := decide_eq_true (by have := oF hi3; omega)
      refine Wj ?_
      refine W_region rfl ?_
      refine zs3 ?_
      exact ⟨k + 1, [], (by exact ⟨by omega, all_snoc default hlt hk.2 hy⟩), (by omega), fitT⟩
    ·have hge : m.old.length ≤ k := by have := oF hi2; omega
     have hall : m.old.all (fun p => decide (p.old.length ≤ 200)) = true := by have h1 := hk.2; rw [take_all' _ k hge] at h1; exact h1
     refine W_exit ?_
     refine zu1 ?_
     refine zR ?_
     exact congrArg boo (by rw [few3, hall, decide_eq_true hyes]; rfl)
def namedS (s : Str) : Int := if s.length = 0 then -16 else if 31 < s.length then -19 else if s.all (fun c => decide (32 < c.toNat)) then 0 else -32
theorem ref_named (s : Str) : PureC Tryz.prog 98 [str s] (i64 (namedS s)) := by
 refine pW tG (rs := [.tmp 2]) Tryz.func98 rfl rfl rfl (by simp) (by simp) (fun B => ?_)
 refine zu1 ?_
 refine Ws ?_
 refine zp2 ?_
 refine Wa 5 rfl (str_len _) ?_
 refine zs1 ?_
 refine Wi rfl (fun hi1 => ?_) (fun hi1 => ?_)
 ·have h0 : s.length = 0 := by have := beq_iff_eq.1 hi1; omega
  refine zu1 ?_
  refine zR ?_
  rw [namedS, if_pos h0]; rfl
 ·have h0 : ¬ s.length = 0 := by have := beq_eq_false_iff_ne.1 hi1; omega
  refine Wj ?_
  refine Ws ?_
  refine zp2 ?_
  refine Wa 8 rfl (str_len _) ?_
  refine zs1 ?_
  refine Wi rfl (fun hi2 => ?_) (fun hi2 => ?_)
  ·have h1 : 31 < s.length := by have := oT hi2; omega
   refine zu1 ?_
   refine zR ?_
   rw [namedS, if_neg h0, if_pos h1]; rfl
  ·have h1 : ¬ 31 < s.length := by have := oF hi2; omega
   refine Wj ?_
   refine Ws ?_
   refine zu1 ?_
   refine Wl ?_
   show W _ _ _ _ _ _ _
   refine W_loopS (fun (k : Nat) => [(0, str s), (3, i64 k)]) (fun (k : Nat) => []) (fun (k : Nat) => []) (fun (k : Nat) => k ≤ s.length ∧ (s.take k).all (fun c => decide (32 < c.toNat)) = true) (fun (k : Nat) => s.length - k) (0) (by simp) [] ?_ ?_
   ·exact fitT
   ·intro k hk
    refine Ws ?_
    refine zp3 ?_
    refine Wa 12 rfl (str_len _) ?_
    refine zs1 ?_
    refine Wi rfl (fun hi3 => ?_) (fun hi3 => ?_)
    ·have hlt : k < s.length := by have := oT hi3; omega
     refine Wj ?_
     refine Ws ?_
     refine Wl ?_
     refine zp2 ?_
     refine z2 ?_ (q := (by simp only [str_size]; omega))
     refine Wa 18 rfl (str_byteN _ _) ?_
     refine zs1 ?_
     refine Wi rfl (fun hi4 => ?_) (fun hi4 => ?_)
     ·have hn : s.all (fun c => decide (32 < c.toNat)) = false := all_no 0 hlt (decide_eq_false (by have := oT hi4; omega))
      refine zu1 ?_
      refine zR ?_
      rw [namedS, if_neg h0, if_neg h1, hn]; rfl
     ·have hy : decide (32 < (s.getD k 0).toNat) = true := decide_eq_true (by have := oF hi4; omega)
      refine Wj ?_
      refine W_region rfl ?_
      refine zs3 ?_
      exact ⟨k + 1, [], (by exact ⟨by omega, all_snoc 0 hlt hk.2 hy⟩), (by omega), fitT⟩
    ·have hge : s.length ≤ k := by have := oF hi3; omega
     have hall : s.all (fun c => decide (32 < c.toNat)) = true := by have h1 := hk.2; rw [take_all' _ k hge] at h1; exact h1
     refine W_exit ?_
     refine zu1 ?_
     refine zR ?_
     rw [namedS, if_neg h0, if_neg h1, hall]; rfl
def wordOk (w : VWord) : Bool := decide (namedS w.name = 0 ∧ 0 ≤ w.flags ∧ w.flags ≤ 7)
def right9 (l : List VWord) : Bool := l.all wordOk && decide (l.length ≤ 1024)
theorem ref_Right9 (l : List VWord) (hl : l.length ≤ 9223372036854775807) : PureC Tryz.prog 52 [sq cWord l] (boo (right9 l)) := by
 refine pW tG (rs := [.tmp 2]) Tryz.func52 rfl rfl rfl (by simp) (by simp) (fun B => ?_)
 refine zu1 ?_
 refine Ws ?_
 refine zu1 ?_
 refine Wl ?_
 show W _ _ _ _ _ _ _
 refine W_loopS (fun (k : Nat) => [(0, sq cWord l), (3, i64 k)]) (fun (k : Nat) => []) (fun (k : Nat) => []) (fun (k : Nat) => k ≤ l.length ∧ (l.take k).all wordOk = true) (fun (k : Nat) => l.length - k) (0) (by simp) [] ?_ ?_
 ·exact fitT
 ·intro k hk
  refine Ws ?_
  refine zu4 ?_
  refine Wi rfl (fun hi1 => ?_) (fun hi1 => ?_)
  ·have hlt : k < l.length := by have := oT hi1; omega
   refine Wj ?_
   refine Ws ?_
   refine Wl ?_
   refine zp2 ?_
   refine Wv tG rfl rfl rfl (by omega) (iN cWord 3 (fun _ => rfl) default (by omega)) ?_
   refine zy2 ?_
   refine Wc rfl rfl (dC rfl Tryz.func98 rfl rfl ((ref_named _) _)) ?_
   refine zy2 ?_
   refine Wb 17 rfl (fun hg1 => ?_) (fun hg1 => ?_)
   ·have hn : l.all wordOk = false := all_no default hlt (decide_eq_false (fun h => by have := bne_iff_ne.1 hg1; omega))
    iterate 6 refine z6 ?_
    refine zy2 ?_
    iterate 6 refine z6 ?_
    refine zs1 ?_
    refine Wt rfl rfl ?_
    refine zu1 ?_
    refine zR ?_
    exact congrArg boo (by rw [right9, hn]; rfl)
   ·have h0 : namedS (l.getD k default).name = 0 := bne_eq_false_iff_eq.1 hg1
    refine zy2 ?_
    refine Wv tG rfl rfl rfl (by omega) (iN cWord 3 (fun _ => rfl) default (by omega)) ?_
    refine zy5 ?_
    refine Wb 25 rfl (fun hg2 => ?_) (fun hg2 => ?_)
    ·have hn : l.all wordOk = false := all_no default hlt (decide_eq_false (fun h => by have := oT hg2; omega))
     iterate 6 refine z6 ?_
     refine zs1 ?_
     refine Wt rfl rfl ?_
     refine zu1 ?_
     refine zR ?_
     exact congrArg boo (by rw [right9, hn]; rfl)
    ·have h1 := oF hg2
     refine zy2 ?_
     refine Wv tG rfl rfl rfl (by omega) (iN cWord 3 (fun _ => rfl) default (by omega)) ?_
     refine zs4 ?_
     refine Wi rfl (fun hi2 => ?_) (fun hi2 => ?_)
     ·have hn : l.all wordOk = false := all_no default hlt (decide_eq_false (fun h => by have := oT hi2; omega))
      refine zu1 ?_
      refine zR ?_
      exact congrArg boo (by rw [right9, hn]; rfl)
     ·have hy : wordOk (l.getD k default) = true := decide_eq_true ⟨h0, by omega, by have := oF hi2; omega⟩
      refine Wj ?_
      refine W_region rfl ?_
      refine zs3 ?_
      exact ⟨k + 1, [], (by exact ⟨by omega, all_snoc default hlt hk.2 hy⟩), (by omega), fitT⟩
  ·have hge : l.length ≤ k := by have := oF hi1; omega
   have hall : l.all wordOk = true := by have h1 := hk.2; rw [take_all' _ k hge] at h1; exact h1
   refine W_exit ?_
   refine zu4 ?_
   refine zR ?_
   exact congrArg boo (by rw [right9, hall, Bool.true_and, Bool.eq_iff_iff, decide_eq_true_eq, decide_eq_true_eq]; omega)
def few9 (l : List VWord) (most : Int) : Bool := decide ((l.length : Int) ≤ most) && l.all (fun w => decide (w.name.length ≤ 60))
theorem ref_Few9 (l : List VWord) (most : Int) (hl : l.length ≤ 9223372036854775807) : PureC Tryz.prog 33 [sq cWord l, i64 most] (boo (few9 l most)) := by
 refine pW tG (rs := [.tmp 4]) Tryz.func33 rfl rfl rfl (by simp) (by simp) (fun B => ?_)
 refine zu1 ?_
 refine Ws ?_
 refine zu4 ?_
 refine Wi rfl (fun hi1 => ?_) (fun hi1 => ?_)
 ·have hno : ¬ (l.length : Int) ≤ most := by have := oT hi1; omega
  refine zu1 ?_
  refine zR ?_
  exact congrArg boo (by rw [few9, decide_eq_false hno]; rfl)
 ·have hyes : (l.length : Int) ≤ most := by have := oF hi1; omega
  refine Wj ?_
  refine Ws ?_
  refine zu1 ?_
  refine Wl ?_
  show W _ _ _ _ _ _ _
  refine W_loopS (fun (k : Nat) => [(0, sq cWord l), (5, i64 k)]) (fun (k : Nat) => []) (fun (k : Nat) => []) (fun (k : Nat) => k ≤ l.length ∧ (l.take k).all (fun w => decide (w.name.length ≤ 60)) = true) (fun (k : Nat) => l.length - k) (0) (by simp) [] ?_ ?_
  ·exact fitT
  ·intro k hk
   refine Ws ?_
   refine zu4 ?_
   refine Wi rfl (fun hi2 => ?_) (fun hi2 => ?_)
   ·have hlt : k < l.length := by have := oT hi2; omega
    refine Wj ?_
    refine Ws ?_
    refine Wl ?_
    refine zp2 ?_
    refine Wv tG rfl rfl rfl (by omega) (iN cWord 3 (fun _ => rfl) default (by omega)) ?_
    refine zy3 ?_
    refine Wa 21 rfl (str_len _) ?_
    refine zs1 ?_
    refine Wi rfl (fun hi3 => ?_) (fun hi3 => ?_)
    ·have hn : l.all (fun w => decide (w.name.length ≤ 60)) = false := all_no default hlt (decide_eq_false (by have := oT hi3; omega))
     refine zu1 ?_
     refine zR ?_
     exact congrArg boo (by rw [few9, hn, Bool.and_false])
    ·have hy : decide ((l.getD k default).name.length ≤ 60) = true := decide_eq_true (by have := oF hi3; omega)
     refine Wj ?_
     refine W_region rfl ?_
     refine zs3 ?_
     exact ⟨k + 1, [], (by exact ⟨by omega, all_snoc default hlt hk.2 hy⟩), (by omega), fitT⟩
   ·have hge : l.length ≤ k := by have := oF hi2; omega
    have hall : l.all (fun w => decide (w.name.length ≤ 60)) = true := by have h1 := hk.2; rw [take_all' _ k hge] at h1; exact h1
    refine W_exit ?_
    refine zu1 ?_
    refine zR ?_
    exact congrArg boo (by rw [few9, hall, decide_eq_true hyes]; rfl)
def few10 (v : VVm) : Bool := few3 v.mem 8192 && (few9 v.dict 300 && (decide (v.d.length ≤ 300) && (decide (v.r.length ≤ 300) && (decide (v.f.length ≤ 70) && (decide (v.out.length ≤ 5000) && (decide (v.pic.b.length ≤ 200) && (decide (v.req.length ≤ 20) && decide (v.hand.length ≤ 70))))))))
structure VIn (v : VVm) : Prop where
 b : v.mem.b.length ≤ 9223372036854775807
 old : v.mem.old.length ≤ 9223372036854775807
 dict : v.dict.length ≤ 9223372036854775807
 pt : ∀ p ∈ v.mem.old, (p.old.length = 0 ∨ Fit64 p.place) ∧ p.old.length ≤ 9223372036854775807
theorem dec_nat {a : Nat} {b : Int} (n : Nat) (hb : b = n) : decide ((a : Int) ≤ b) = decide (a ≤ n) := by subst hb; rw [Bool.eq_iff_iff, decide_eq_true_eq, decide_eq_true_eq]; omega
theorem ref_Few10 (v : VVm) (h : VIn v) : PureC Tryz.prog 13 [eVm v] (boo (few10 v)) := by
 refine pW tG (rs := [.tmp 2]) Tryz.func13 rfl rfl rfl (by simp) (by simp) (fun B => ?_)
 refine zu2 ?_
 refine zp2 ?_
 refine Wc rfl rfl (dC rfl Tryz.func32 rfl rfl ((ref_Few3 v.mem 8192 h.b h.old) _)) ?_
 refine zs1 ?_
 refine zp2 ?_
 refine Wc rfl rfl (dC rfl Tryz.func33 rfl rfl ((ref_Few9 v.dict 300 h.dict) _)) ?_
 refine zs1 ?_
 refine zp2 ?_
 refine Wb 12 rfl (fun hg1 => ?_) (fun hg1 => ?_)
 ·refine zy3 ?_
  refine Wb 15 rfl (fun hg2 => ?_) (fun hg2 => ?_)
  ·refine zy4 ?_
   refine Wa 19 rfl (congrArg (fun z => PV.val (Value.bool z)) (dec_nat 300 rfl)) ?_
   refine zy2 ?_
   refine Wb 21 rfl (fun hg3 => ?_) (fun hg3 => ?_)
   ·refine zy4 ?_
    refine Wa 25 rfl (congrArg (fun z => PV.val (Value.bool z)) (dec_nat 300 rfl)) ?_
    refine zy2 ?_
    refine Wb 27 rfl (fun hg4 => ?_) (fun hg4 => ?_)
    ·refine zy4 ?_
     refine Wa 31 rfl (congrArg (fun z => PV.val (Value.bool z)) (dec_nat 70 rfl)) ?_
     refine zy2 ?_
     refine Wb 33 rfl (fun hg5 => ?_) (fun hg5 => ?_)
     ·refine zy4 ?_
      refine Wa 37 rfl (congrArg (fun z => PV.val (Value.bool z)) (dec_nat 5000 rfl)) ?_
      refine zy2 ?_
      refine Wb 39 rfl (fun hg6 => ?_) (fun hg6 => ?_)
      ·refine zy5 ?_
       refine Wa 44 rfl (congrArg (fun z => PV.val (Value.bool z)) (dec_nat 200 rfl)) ?_
       refine zy2 ?_
       refine Wb 46 rfl (fun hg7 => ?_) (fun hg7 => ?_)
       ·refine zy4 ?_
        refine Wa 50 rfl (congrArg (fun z => PV.val (Value.bool z)) (dec_nat 20 rfl)) ?_
        refine zy2 ?_
        refine Wb 52 rfl (fun hg8 => ?_) (fun hg8 => ?_)
        ·refine zy4 ?_
         refine Wa 56 rfl (congrArg (fun z => PV.val (Value.bool z)) (dec_nat 70 rfl)) ?_
         refine zs2 ?_
         refine zR ?_
         exact congrArg boo (by rw [few10]; simp only [*, Bool.true_and, Bool.false_and])
        ·refine z6 ?_
         iterate 3 refine z6 ?_
         refine zs2 ?_
         refine zR ?_
         exact congrArg boo (by rw [few10]; simp only [*, Bool.true_and, Bool.false_and])
       ·refine z6 ?_
        iterate 3 refine z6 ?_
        refine zy2 ?_
        iterate 4 refine z6 ?_
        refine zs2 ?_
        refine zR ?_
        exact congrArg boo (by rw [few10]; simp only [*, Bool.true_and, Bool.false_and])
      ·refine z6 ?_
       iterate 4 refine z6 ?_
       refine zy2 ?_
       iterate 4 refine z6 ?_
       refine zy2 ?_
       iterate 4 refine z6 ?_
       refine zs2 ?_
       refine zR ?_
       exact congrArg boo (by rw [few10]; simp only [*, Bool.true_and, Bool.false_and])
     ·refine z6 ?_
      iterate 3 refine z6 ?_
      refine zy2 ?_
      iterate 5 refine z6 ?_
      refine zy2 ?_
      iterate 4 refine z6 ?_
      refine zy2 ?_
      iterate 4 refine z6 ?_
      refine zs2 ?_
      refine zR ?_
      exact congrArg boo (by rw [few10]; simp only [*, Bool.true_and, Bool.false_and])
    ·refine z6 ?_
     iterate 3 refine z6 ?_
     refine zy2 ?_
     iterate 4 refine z6 ?_
     refine zy2 ?_
     iterate 5 refine z6 ?_
     refine zy2 ?_
     iterate 4 refine z6 ?_
     refine zy2 ?_
     iterate 4 refine z6 ?_
     refine zs2 ?_
     refine zR ?_
     exact congrArg boo (by rw [few10]; simp only [*, Bool.true_and, Bool.false_and])
   ·refine z6 ?_
    iterate 3 refine z6 ?_
    refine zy2 ?_
    iterate 4 refine z6 ?_
    refine zy2 ?_
    iterate 4 refine z6 ?_
    refine zy2 ?_
    iterate 5 refine z6 ?_
    refine zy2 ?_
    iterate 4 refine z6 ?_
    refine zy2 ?_
    iterate 4 refine z6 ?_
    refine zs2 ?_
    refine zR ?_
    exact congrArg boo (by rw [few10]; simp only [*, Bool.true_and, Bool.false_and])
  ·refine z6 ?_
   iterate 3 refine z6 ?_
   refine zy2 ?_
   iterate 4 refine z6 ?_
   refine zy2 ?_
   iterate 4 refine z6 ?_
   refine zy2 ?_
   iterate 4 refine z6 ?_
   refine zy2 ?_
   iterate 5 refine z6 ?_
   refine zy2 ?_
   iterate 4 refine z6 ?_
   refine zy2 ?_
   iterate 4 refine z6 ?_
   refine zs2 ?_
   refine zR ?_
   exact congrArg boo (by rw [few10]; simp only [*, Bool.true_and, Bool.false_and])
 ·refine z6 ?_
  refine zy2 ?_
  iterate 4 refine z6 ?_
  refine zy2 ?_
  iterate 4 refine z6 ?_
  refine zy2 ?_
  iterate 4 refine z6 ?_
  refine zy2 ?_
  iterate 4 refine z6 ?_
  refine zy2 ?_
  iterate 5 refine z6 ?_
  refine zy2 ?_
  iterate 4 refine z6 ?_
  refine zy2 ?_
  iterate 4 refine z6 ?_
  refine zs2 ?_
  refine zR ?_
  exact congrArg boo (by rw [few10]; simp only [*, Bool.true_and, Bool.false_and])
end Go.Proofs.YtobhnjnffnbbkaaGreatDoor
namespace Go.Proofs.YtobhnjnffnbbkaaGreatDoor
open Go.RowKit
set_option maxRecDepth 100000
set_option maxHeartbeats 4000000
def rightA (v : VVm) : Bool := decide (fitsV v.conf ∧ memRight v.mem = true ∧ right9 v.dict = true ∧ picRight v.pic ∧ (v.mem.b.length : Int) = v.conf.mem ∧ 1368 ≤ v.here ∧ v.here ≤ v.conf.mem)
def frameOk (f : VFrame) : Bool := decide (0 ≤ f.d ∧ f.d ≤ 256 ∧ 0 ≤ f.r ∧ f.r ≤ 256)
def handOk (h : VHand) : Bool := decide (0 ≤ h.fuel)
def rightC (v : VVm) : Bool := decide ((v.d.length : Int) ≤ v.conf.data ∧ (v.r.length : Int) ≤ v.conf.ret ∧ v.f.length ≤ 64 ∧ (v.dict.length : Int) ≤ v.conf.words ∧ (v.out.length : Int) ≤ v.conf.out ∧ v.req.length ≤ 16 ∧ 0 ≤ v.free ∧ v.free ≤ 64 ∧ 0 ≤ v.next ∧ v.next ≤ 4611686018427387904 ∧ v.hand.length ≤ 64)
def right10 (v : VVm) : Bool := rightA v && (v.f.all frameOk && (v.hand.all handOk && rightC v))
structure VIn2 (v : VVm) : Prop extends VIn v where
 f : v.f.length ≤ 9223372036854775807
 hand : v.hand.length ≤ 9223372036854775807
theorem ref_Right10 (v : VVm) (h : VIn2 v) : PureC Tryz.prog 24 [eVm v] (boo (right10 v)) := by
 have e1 := h.f
 have e2 := h.hand
 refine pW tG (rs := [.tmp 2]) Tryz.func24 rfl rfl rfl (by simp) (by simp) (fun B => ?_)
 refine zu2 ?_
 refine zp2 ?_
 refine Wc rfl rfl (dC rfl Tryz.func50 rfl rfl ((ref_Fits v.conf) _)) ?_
 refine zs1 ?_
 refine zp2 ?_
 refine Wc rfl rfl (dC rfl Tryz.func51 rfl rfl ((ref_Right3 v.mem h.b h.old h.pt) _)) ?_
 refine zs1 ?_
 refine zp2 ?_
 refine Wc rfl rfl (dC rfl Tryz.func52 rfl rfl ((ref_Right9 v.dict h.dict) _)) ?_
 refine zs1 ?_
 refine zp2 ?_
 refine Wc rfl rfl (dC rfl Tryz.func53 rfl rfl ((ref_Right7 v.pic) _)) ?_
 refine zs1 ?_
 refine Ws ?_
 refine zp3 ?_
 refine Wb 23 rfl (fun hg1 => ?_) (fun hg1 => ?_)
 ·have hbad : rightA v = false := decide_eq_false (fun q => oF (not_t hg1) q.1)
  iterate 2 refine z6 ?_
  refine zy2 ?_
  iterate 2 refine z6 ?_
  refine zy2 ?_
  iterate 2 refine z6 ?_
  refine zy2 ?_
  iterate 8 refine z6 ?_
  refine zy2 ?_
  iterate 3 refine z6 ?_
  refine zy2 ?_
  iterate 6 refine z6 ?_
  refine zs1 ?_
  refine Wt rfl rfl ?_
  refine zu1 ?_
  refine zR ?_
  exact congrArg boo (by rw [right10, hbad]; rfl)
 ·have h1 : fitsV v.conf := oT (not_f hg1)
  refine zy4 ?_
  refine Wb 27 rfl (fun hg2 => ?_) (fun hg2 => ?_)
  ·have hbad : rightA v = false := decide_eq_false (fun q => by have := not_t hg2; rw [q.2.1] at this; cases this)
   iterate 2 refine z6 ?_
   refine zy2 ?_
   iterate 2 refine z6 ?_
   refine zy2 ?_
   iterate 8 refine z6 ?_
   refine zy2 ?_
   iterate 3 refine z6 ?_
   refine zy2 ?_
   iterate 6 refine z6 ?_
   refine zs1 ?_
   refine Wt rfl rfl ?_
   refine zu1 ?_
   refine zR ?_
   exact congrArg boo (by rw [right10, hbad]; rfl)
  ·have h2 : memRight v.mem = true := not_f hg2
   refine zy4 ?_
   refine Wb 31 rfl (fun hg3 => ?_) (fun hg3 => ?_)
   ·have hbad : rightA v = false := decide_eq_false (fun q => by have := not_t hg3; rw [q.2.2.1] at this; cases this)
    iterate 2 refine z6 ?_
    refine zy2 ?_
    iterate 8 refine z6 ?_
    refine zy2 ?_
    iterate 3 refine z6 ?_
    refine zy2 ?_
    iterate 6 refine z6 ?_
    refine zs1 ?_
    refine Wt rfl rfl ?_
    refine zu1 ?_
    refine zR ?_
    exact congrArg boo (by rw [right10, hbad]; rfl)
   ·have h3 : right9 v.dict = true := not_f hg3
    refine zy4 ?_
    refine Wb 35 rfl (fun hg4 => ?_) (fun hg4 => ?_)
    ·have hbad : rightA v = false := decide_eq_false (fun q => oF (not_t hg4) q.2.2.2.1)
     iterate 8 refine z6 ?_
     refine zy2 ?_
     iterate 3 refine z6 ?_
     refine zy2 ?_
     iterate 6 refine z6 ?_
     refine zs1 ?_
     refine Wt rfl rfl ?_
     refine zu1 ?_
     refine zR ?_
     exact congrArg boo (by rw [right10, hbad]; rfl)
    ·have h4 : picRight v.pic := oT (not_f hg4)
     refine zy5 ?_
     refine zy5 ?_
     refine Wb 45 rfl (fun hg5 => ?_) (fun hg5 => ?_)
     ·have hbad : rightA v = false := decide_eq_false (fun q => bne_iff_ne.1 hg5 q.2.2.2.2.1)
      iterate 3 refine z6 ?_
      refine zy2 ?_
      iterate 6 refine z6 ?_
      refine zs1 ?_
      refine Wt rfl rfl ?_
      refine zu1 ?_
      refine zR ?_
      exact congrArg boo (by rw [right10, hbad]; rfl)
     ·have h5 : (v.mem.b.length : Int) = v.conf.mem := bne_eq_false_iff_eq.1 hg5
      refine zy5 ?_
      refine Wb 50 rfl (fun hg6 => ?_) (fun hg6 => ?_)
      ·have hbad : rightA v = false := decide_eq_false (fun q => by have := oT hg6; omega)
       iterate 6 refine z6 ?_
       refine zs1 ?_
       refine Wt rfl rfl ?_
       refine zu1 ?_
       refine zR ?_
       exact congrArg boo (by rw [right10, hbad]; rfl)
      ·have h6 := oF hg6
       refine zy5 ?_
       refine zs2 ?_
       refine Wi rfl (fun hi1 => ?_) (fun hi1 => ?_)
       ·have hbad : rightA v = false := decide_eq_false (fun q => by have := oT hi1; omega)
        refine zu1 ?_
        refine zR ?_
        exact congrArg boo (by rw [right10, hbad]; rfl)
       ·have hA : rightA v = true := decide_eq_true ⟨h1, h2, h3, h4, h5, by omega, by have := oF hi1; omega⟩
        refine Wj ?_
        refine Ws ?_
        refine zu1 ?_
        refine Wl ?_
        show W _ _ _ _ _ _ _
        refine W_loopS (fun (k : Nat) => [(1, .ptr 0 0), (7, i64 k)]) (fun (k : Nat) => [.cells (cVm v) 36]) (fun (k : Nat) => []) (fun (k : Nat) => k ≤ v.f.length ∧ (v.f.take k).all frameOk = true) (fun (k : Nat) => v.f.length - k) (0) (by simp) [] ?_ ?_
        ·exact fitT
        ·intro k hk
         refine Ws ?_
         refine zu5 ?_
         refine Wi rfl (fun hi2 => ?_) (fun hi2 => ?_)
         ·have hlt : k < v.f.length := by have := oT hi2; omega
          refine Wj ?_
          refine Ws ?_
          refine Wl ?_
          refine zp3 ?_
          refine Wv tG rfl rfl rfl (by omega) (iN cFrame 3 (fun _ => rfl) default (by omega)) ?_
          refine zy4 ?_
          refine Wb 72 rfl (fun hg7 => ?_) (fun hg7 => ?_)
          ·have hn : v.f.all frameOk = false := all_no default hlt (decide_eq_false (fun q => by have := oT hg7; omega))
           iterate 7 refine z6 ?_
           refine zy2 ?_
           iterate 7 refine z6 ?_
           refine zy2 ?_
           iterate 7 refine z6 ?_
           refine zs1 ?_
           refine Wt rfl rfl ?_
           refine zu1 ?_
           refine zR ?_
           exact congrArg boo (by rw [right10, hA, hn]; rfl)
          ·have q1 := oF hg7
           refine zy3 ?_
           refine Wv tG rfl rfl rfl (by omega) (iN cFrame 3 (fun _ => rfl) default (by omega)) ?_
           refine zy5 ?_
           refine Wb 81 rfl (fun hg8 => ?_) (fun hg8 => ?_)
           ·have hn : v.f.all frameOk = false := all_no default hlt (decide_eq_false (fun q => by have := oT hg8; omega))
            iterate 7 refine z6 ?_
            refine zy2 ?_
            iterate 7 refine z6 ?_
            refine zs1 ?_
            refine Wt rfl rfl ?_
            refine zu1 ?_
            refine zR ?_
            exact congrArg boo (by rw [right10, hA, hn]; rfl)
           ·have q2 := oF hg8
            refine zy3 ?_
            refine Wv tG rfl rfl rfl (by omega) (iN cFrame 3 (fun _ => rfl) default (by omega)) ?_
            refine zy5 ?_
            refine Wb 90 rfl (fun hg9 => ?_) (fun hg9 => ?_)
            ·have hn : v.f.all frameOk = false := all_no default hlt (decide_eq_false (fun q => by have := oT hg9; omega))
             iterate 7 refine z6 ?_
             refine zs1 ?_
             refine Wt rfl rfl ?_
             refine zu1 ?_
             refine zR ?_
             exact congrArg boo (by rw [right10, hA, hn]; rfl)
            ·have q3 := oF hg9
             refine zy3 ?_
             refine Wv tG rfl rfl rfl (by omega) (iN cFrame 3 (fun _ => rfl) default (by omega)) ?_
             refine zs4 ?_
             refine Wi rfl (fun hi3 => ?_) (fun hi3 => ?_)
             ·have hn : v.f.all frameOk = false := all_no default hlt (decide_eq_false (fun q => by have := oT hi3; omega))
              refine zu1 ?_
              refine zR ?_
              exact congrArg boo (by rw [right10, hA, hn]; rfl)
             ·have hy : frameOk (v.f.getD k default) = true := decide_eq_true ⟨by omega, by omega, by omega, by have := oF hi3; omega⟩
              refine Wj ?_
              refine W_region rfl ?_
              refine zs3 ?_
              exact ⟨k + 1, [], (by exact ⟨by omega, all_snoc default hlt hk.2 hy⟩), (by omega), fitT⟩
         ·have hge : v.f.length ≤ k := by have := oF hi2; omega
          have hF : v.f.all frameOk = true := by have h1 := hk.2; rw [take_all' _ k hge] at h1; exact h1
          refine W_exit ?_
          refine Ws ?_
          refine zu1 ?_
          refine Wl ?_
          show W _ _ _ _ _ _ _
          refine W_loopS (fun (j : Nat) => [(1, .ptr 0 0), (8, i64 j)]) (fun (j : Nat) => [.cells (cVm v) 36]) (fun (j : Nat) => []) (fun (j : Nat) => j ≤ v.hand.length ∧ (v.hand.take j).all handOk = true) (fun (j : Nat) => v.hand.length - j) (0) (by simp) [] ?_ ?_
          ·exact fitT
          ·intro j hj
           refine Ws ?_
           refine zu5 ?_
           refine Wi rfl (fun hi4 => ?_) (fun hi4 => ?_)
           ·have hlt : j < v.hand.length := by have := oT hi4; omega
            refine Wj ?_
            refine Ws ?_
            refine Wl ?_
            refine zp3 ?_
            refine Wv tG rfl rfl rfl (by omega) (iN cHand 4 (fun _ => rfl) default (by omega)) ?_
            refine zs3 ?_
            refine Wi rfl (fun hi5 => ?_) (fun hi5 => ?_)
            ·have hn : v.hand.all handOk = false := all_no default hlt (decide_eq_false (fun q => by have := oT hi5; omega))
             refine zu1 ?_
             refine zR ?_
             exact congrArg boo (by rw [right10, hA, hF, hn]; rfl)
            ·have hy : handOk (v.hand.getD j default) = true := decide_eq_true (by have := oF hi5; omega)
             refine Wj ?_
             refine W_region rfl ?_
             refine zs3 ?_
             exact ⟨j + 1, [], (by exact ⟨by omega, all_snoc default hlt hj.2 hy⟩), (by omega), fitT⟩
           ·have hge : v.hand.length ≤ j := by have := oF hi4; omega
            have hH : v.hand.all handOk = true := by have h1 := hj.2; rw [take_all' _ j hge] at h1; exact h1
            have hR : right10 v = rightC v := by rw [right10, hA, hF, hH]; rfl
            clear hA hF hH h1 h2 h3 h4 hk hj h
            refine W_exit ?_
            refine zp5 ?_
            refine zy3 ?_
            refine Wb 120 rfl (fun hg10 => ?_) (fun hg10 => ?_)
            ·refine zy5 ?_
             refine zy4 ?_
             refine Wb 129 rfl (fun hg11 => ?_) (fun hg11 => ?_)
             ·refine zy5 ?_
              refine z1 ?_
              refine Wb 135 rfl (fun hg12 => ?_) (fun hg12 => ?_)
              ·refine zy5 ?_
               refine zy4 ?_
               refine Wb 144 rfl (fun hg13 => ?_) (fun hg13 => ?_)
               ·refine zy5 ?_
                refine zy4 ?_
                refine Wb 153 rfl (fun hg14 => ?_) (fun hg14 => ?_)
                ·refine zy5 ?_
                 refine z1 ?_
                 refine Wb 159 rfl (fun hg15 => ?_) (fun hg15 => ?_)
                 ·refine zy5 ?_
                  refine Wb 164 rfl (fun hg16 => ?_) (fun hg16 => ?_)
                  ·refine zy5 ?_
                   refine Wb 169 rfl (fun hg17 => ?_) (fun hg17 => ?_)
                   ·refine zy5 ?_
                    refine Wb 174 rfl (fun hg18 => ?_) (fun hg18 => ?_)
                    ·refine zy5 ?_
                     refine Wb 179 rfl (fun hg19 => ?_) (fun hg19 => ?_)
                     ·refine zy5 ?_
                      refine zs1 ?_
                      refine zR ?_
                      refine congrArg boo ?_; rw [hR]; unfold rightC; rw [Bool.eq_iff_iff]; (try simp only [dnL] at *); omega
                     ·refine z6 ?_
                      iterate 3 refine z6 ?_
                      refine zs2 ?_
                      refine zR ?_
                      refine congrArg boo ?_; rw [hR]; unfold rightC; rw [Bool.eq_iff_iff]; (try simp only [dnL] at *); omega
                    ·refine z6 ?_
                     iterate 2 refine z6 ?_
                     refine zy2 ?_
                     iterate 4 refine z6 ?_
                     refine zs2 ?_
                     refine zR ?_
                     refine congrArg boo ?_; rw [hR]; unfold rightC; rw [Bool.eq_iff_iff]; (try simp only [dnL] at *); omega
                   ·refine z6 ?_
                    iterate 2 refine z6 ?_
                    refine zy2 ?_
                    iterate 3 refine z6 ?_
                    refine zy2 ?_
                    iterate 4 refine z6 ?_
                    refine zs2 ?_
                    refine zR ?_
                    refine congrArg boo ?_; rw [hR]; unfold rightC; rw [Bool.eq_iff_iff]; (try simp only [dnL] at *); omega
                  ·refine z6 ?_
                   iterate 2 refine z6 ?_
                   refine zy2 ?_
                   iterate 3 refine z6 ?_
                   refine zy2 ?_
                   iterate 3 refine z6 ?_
                   refine zy2 ?_
                   iterate 4 refine z6 ?_
                   refine zs2 ?_
                   refine zR ?_
                   refine congrArg boo ?_; rw [hR]; unfold rightC; rw [Bool.eq_iff_iff]; (try simp only [dnL] at *); omega
                 ·refine z6 ?_
                  iterate 2 refine z6 ?_
                  refine zy2 ?_
                  iterate 3 refine z6 ?_
                  refine zy2 ?_
                  iterate 3 refine z6 ?_
                  refine zy2 ?_
                  iterate 3 refine z6 ?_
                  refine zy2 ?_
                  iterate 4 refine z6 ?_
                  refine zs2 ?_
                  refine zR ?_
                  refine congrArg boo ?_; rw [hR]; unfold rightC; rw [Bool.eq_iff_iff]; (try simp only [dnL] at *); omega
                ·refine z6 ?_
                 iterate 3 refine z6 ?_
                 refine zy2 ?_
                 iterate 3 refine z6 ?_
                 refine zy2 ?_
                 iterate 3 refine z6 ?_
                 refine zy2 ?_
                 iterate 3 refine z6 ?_
                 refine zy2 ?_
                 iterate 3 refine z6 ?_
                 refine zy2 ?_
                 iterate 4 refine z6 ?_
                 refine zs2 ?_
                 refine zR ?_
                 refine congrArg boo ?_; rw [hR]; unfold rightC; rw [Bool.eq_iff_iff]; (try simp only [dnL] at *); omega
               ·refine z6 ?_
                iterate 6 refine z6 ?_
                refine zy2 ?_
                iterate 4 refine z6 ?_
                refine zy2 ?_
                iterate 3 refine z6 ?_
                refine zy2 ?_
                iterate 3 refine z6 ?_
                refine zy2 ?_
                iterate 3 refine z6 ?_
                refine zy2 ?_
                iterate 3 refine z6 ?_
                refine zy2 ?_
                iterate 4 refine z6 ?_
                refine zs2 ?_
                refine zR ?_
                refine congrArg boo ?_; rw [hR]; unfold rightC; rw [Bool.eq_iff_iff]; (try simp only [dnL] at *); omega
              ·refine z6 ?_
               iterate 6 refine z6 ?_
               refine zy2 ?_
               iterate 7 refine z6 ?_
               refine zy2 ?_
               iterate 4 refine z6 ?_
               refine zy2 ?_
               iterate 3 refine z6 ?_
               refine zy2 ?_
               iterate 3 refine z6 ?_
               refine zy2 ?_
               iterate 3 refine z6 ?_
               refine zy2 ?_
               iterate 3 refine z6 ?_
               refine zy2 ?_
               iterate 4 refine z6 ?_
               refine zs2 ?_
               refine zR ?_
               refine congrArg boo ?_; rw [hR]; unfold rightC; rw [Bool.eq_iff_iff]; (try simp only [dnL] at *); omega
             ·refine z6 ?_
              iterate 3 refine z6 ?_
              refine zy2 ?_
              iterate 7 refine z6 ?_
              refine zy2 ?_
              iterate 7 refine z6 ?_
              refine zy2 ?_
              iterate 4 refine z6 ?_
              refine zy2 ?_
              iterate 3 refine z6 ?_
              refine zy2 ?_
              iterate 3 refine z6 ?_
              refine zy2 ?_
              iterate 3 refine z6 ?_
              refine zy2 ?_
              iterate 3 refine z6 ?_
              refine zy2 ?_
              iterate 4 refine z6 ?_
              refine zs2 ?_
              refine zR ?_
              refine congrArg boo ?_; rw [hR]; unfold rightC; rw [Bool.eq_iff_iff]; (try simp only [dnL] at *); omega
            ·refine z6 ?_
             iterate 6 refine z6 ?_
             refine zy2 ?_
             iterate 4 refine z6 ?_
             refine zy2 ?_
             iterate 7 refine z6 ?_
             refine zy2 ?_
             iterate 7 refine z6 ?_
             refine zy2 ?_
             iterate 4 refine z6 ?_
             refine zy2 ?_
             iterate 3 refine z6 ?_
             refine zy2 ?_
             iterate 3 refine z6 ?_
             refine zy2 ?_
             iterate 3 refine z6 ?_
             refine zy2 ?_
             iterate 3 refine z6 ?_
             refine zy2 ?_
             iterate 4 refine z6 ?_
             refine zs2 ?_
             refine zR ?_
             refine congrArg boo ?_; rw [hR]; unfold rightC; rw [Bool.eq_iff_iff]; (try simp only [dnL] at *); omega
def may10 (v : VVm) : Bool := few10 v && right10 v
theorem ref_May10 (v : VVm) (h : VIn2 v) : PureC Tryz.prog 20 [eVm v] (boo (may10 v)) := by
 refine pW tG (rs := [.tmp 2]) Tryz.func20 rfl rfl rfl (by simp) (by simp) (fun B => ?_)
 refine zu2 ?_
 refine zp1 ?_
 refine Wc rfl rfl (dC rfl Tryz.func13 rfl rfl ((ref_Few10 v h.toVIn) _)) ?_
 refine zs1 ?_
 refine zp2 ?_
 refine Wb 7 rfl (fun hg1 => ?_) (fun hg1 => ?_)
 ·refine z1 ?_
  refine Wc rfl rfl (dC rfl Tryz.func24 rfl rfl ((ref_Right10 v h) _)) ?_
  refine zs2 ?_
  refine zR ?_
  exact congrArg boo (by rw [may10]; simp only [*, Bool.true_and, Bool.false_and])
 ·refine z6 ?_
  refine z6 ?_
  refine zs2 ?_
  refine zR ?_
  exact congrArg boo (by rw [may10]; simp only [*, Bool.true_and, Bool.false_and])
end Go.Proofs.YtobhnjnffnbbkaaGreatDoor
namespace Go.Proofs.YtobhnjnffnbbkaaGreatDoor
open Go.RowKit
theorem fit_w (n : Int) : Fit64 (wrap64 n) := wrap64_rng n
theorem fit_S (n : Nat) : Fit64 (S n) := S_rng n
theorem fit_0 : Fit64 0 := by unfold Fit64; omega
theorem fit_flag (b : Bool) : Fit64 (flagS b) := by unfold flagS Fit64; split <;> omega
theorem fit_fmod {a b : Int} (hb : Fit64 b) (h0 : b ≠ 0) : Fit64 (a.fmod b) := by
 unfold Fit64 at hb ⊢
 rw [Int.fmod_eq_emod]
 have h1 := Int.emod_nonneg a h0
 have h2 : a % b < b.natAbs := by
  rcases Int.lt_or_gt_of_ne h0 with h | h
  ·have := Int.emod_lt_of_pos a (show 0 < -b by omega); rw [Int.emod_neg] at this; omega
  ·have := Int.emod_lt_of_pos a h; omega
 split <;> omega
theorem fit_tmod {a b : Int} (hb : Fit64 b) (h0 : b ≠ 0) : Fit64 (a.tmod b) := by
 unfold Fit64 at hb ⊢
 have h1 : (a.tmod b).natAbs = a.natAbs % b.natAbs := Int.natAbs_tmod a b
 have h2 : a.natAbs % b.natAbs < b.natAbs := Nat.mod_lt _ (by omega)
 omega
theorem fits_spec {n : Int} (h : fits n = true) : Fit64 n := by unfold fits at h; unfold Fit64; simpa using h
theorem fit_div {a b : Int} (hb : Fit64 b) : Fit64 (divS a b).1 ∧ Fit64 (divS a b).2.1 := by
 unfold divS
 split
 ·exact ⟨fit_0, fit_0⟩
 ·rename_i h0; exact ⟨fit_w _, fit_fmod hb h0⟩
theorem fit_fdiv {lo hi d : Int} (hd : Fit64 d) : Fit64 (fdivS lo hi d).1 ∧ Fit64 (fdivS lo hi d).2.1 := by
 unfold fdivS
 split
 ·exact ⟨fit_0, fit_0⟩
 ·rename_i h0
  split
  ·rename_i h1; exact ⟨fits_spec h1, fit_fmod hd h0⟩
  ·exact ⟨fit_0, fit_0⟩
theorem fit_sdiv {lo hi d : Int} (hd : Fit64 d) : Fit64 (sdivS lo hi d).1 ∧ Fit64 (sdivS lo hi d).2.1 := by
 unfold sdivS
 split
 ·exact ⟨fit_0, fit_0⟩
 ·rename_i h0
  split
  ·rename_i h1; exact ⟨fits_spec h1, fit_tmod hd h0⟩
  ·exact ⟨fit_0, fit_0⟩
theorem fit_udiv {lo hi d : Int} : Fit64 (udivS lo hi d).1 ∧ Fit64 (udivS lo hi d).2.1 := by
 unfold udivS
 split
 ·exact ⟨fit_0, fit_0⟩
 ·split
  ·exact ⟨fit_0, fit_0⟩
  ·exact ⟨fit_S _, fit_S _⟩
theorem fit_shift (a b : Int) (up : Bool) : Fit64 (shiftS a b up) := by
 unfold shiftS
 split
 ·exact fit_0
 ·split <;> exact fit_S _
theorem fit_one (o : Op1) {a : Int} (ha : Fit64 a) : Fit64 (one o a) := by
 unfold Fit64 at *
 cases o <;> simp only [one] <;> first | exact wrap64_rng _ | exact fit_flag _ | (split <;> first | exact wrap64_rng _ | omega) | omega
theorem fit_two (o : Op2) {a b : Int} (ha : Fit64 a) (hb : Fit64 b) : Fit64 (two o a b).1 := by
 cases o <;> simp only [two] <;> first | exact (fit_div hb).1 | exact (fit_div hb).2 | exact fit_w _ | exact fit_shift _ _ _ | exact fit_flag _ | (split <;> assumption)
theorem fit_oneS (name : Str) {a : Int} (ha : Fit64 a) : Fit64 (oneS name a).1 := by
 unfold oneS
 split
 ·exact fit_one _ ha
 ·exact fit_0
theorem fit_twoS (name : Str) {a b : Int} (ha : Fit64 a) (hb : Fit64 b) : Fit64 (twoS name a b).1 := by
 unfold twoS
 split
 ·exact fit_two _ ha hb
 ·exact fit_0
theorem fit_fetch (m : VMem) (a : Int) : Fit64 (memFetch m a).1 := by
 unfold memFetch getC
 split
 ·exact fit_w _
 ·exact fit_0
theorem fit_fetchB (m : VMem) (a : Int) : Fit64 (memFetchByte m a).1 := by
 unfold memFetchByte
 split
 ·have := (m.b.getD a.toNat 0).toNat_lt; unfold Fit64; simp only; omega
 ·exact fit_0
structure MKeeps (m m' : VMem) (k : Nat) : Prop where
 right : memRight m = true → memRight m' = true
 len : m'.b.length = m.b.length
 old : m'.old.length ≤ m.old.length + k
theorem MKeeps.refl (m : VMem) (k : Nat) : MKeeps m m k := ⟨id, rfl, Nat.le_add_right _ _⟩
theorem MKeeps.trans {a b c : VMem} {i j : Nat} (h : MKeeps a b i) (g : MKeeps b c j) : MKeeps a c (i + j) := ⟨fun q => g.right (h.right q), g.len.trans h.len, by have := h.old; have := g.old; omega⟩
theorem MKeeps.up {a b : VMem} {i j : Nat} (h : MKeeps a b i) (hij : i ≤ j) : MKeeps a b j := ⟨h.right, h.len, by have := h.old; omega⟩
theorem there_len {m m' : VMem} (h : m'.b.length = m.b.length) (a n : Int) : memThere m' a n = memThere m a n := by unfold memThere; rw [h]
theorem keeps_write (m : VMem) (a : Int) (b : List UInt8) : MKeeps m (memWrite m a b).1 1 := by
 have hl := memWrite_len m a b
 refine ⟨fun h => ?_, hl, memWrite_old m a b⟩
 unfold memRight at h ⊢
 rw [hl]
 rw [Bool.and_eq_true] at h ⊢
 refine ⟨?_, h.2⟩
 have hall : ∀ p ∈ m.old, memThere (memWrite m a b).1 p.place p.old.length = true := fun p hp => by rw [there_len hl]; exact List.all_eq_true.1 h.1 p hp
 rw [List.all_eq_true]
 intro p hp
 unfold memWrite at hp
 split at hp
 ·rename_i ht
  split at hp
  ·exact hall p hp
  ·rcases List.mem_append.1 hp with hp | hp
   ·exact hall p hp
   ·simp only [List.mem_singleton] at hp
    subst hp
    rw [there_len hl]
    simp only [List.length_take, List.length_drop]
    rcases memThere_rng ht with h0 | ⟨h0, h1, h2⟩
    ·unfold memThere; exact decide_eq_true (.inl (by omega))
    ·unfold memThere; exact decide_eq_true (.inr ⟨by omega, h1, by omega⟩)
 ·exact hall p hp
theorem keeps_store (m : VMem) (a n : Int) : MKeeps m (memStore m a n).1 1 := by
 unfold memStore; split
 ·exact keeps_write _ _ _
 ·exact .refl _ _
theorem keeps_fill (m : VMem) (a n c : Int) : MKeeps m (memFill m a n c).1 1 := by
 unfold memFill; split
 ·exact keeps_write _ _ _
 ·exact .refl _ _
theorem keeps_move (m : VMem) (a b n : Int) : MKeeps m (memMove m a b n).1 1 := by
 unfold memMove; split
 ·exact keeps_write _ _ _
 ·exact .refl _ _
theorem keeps_lay {m : VMem} {here : Int} (b : List UInt8) : MKeeps m (spcLay m here b).1 1 := by
 unfold spcLay; split
 ·exact .refl _ _
 ·exact keeps_write _ _ _
theorem lay_here {m : VMem} {here : Int} (b : List UInt8) (h0 : 1368 ≤ here) (h1 : here ≤ m.b.length) : 1368 ≤ (spcLay m here b).2.1 ∧ (spcLay m here b).2.1 ≤ m.b.length := by
 unfold spcLay; split
 ·exact ⟨h0, h1⟩
 ·simp only; omega
theorem hold_right {p : VPic} (c : Int) (h : picRight p) : picRight (picHold p c).1 := by
 unfold picHold; split
 ·rename_i hc; exact ⟨by simp; omega, .inl hc.1⟩
 ·exact h
theorem digit_right {p : VPic} (lo hi base : Int) (h : picRight p) : picRight (picDigit p lo hi base).1 := by
 unfold picDigit; split
 ·exact h
 ·split
  ·exact hold_right _ h
  ·exact h
theorem allN_right (base : Int) : ∀ (n : Nat) {q : VPic} (lo hi : Int), picRight q → picRight (picAllN n q lo hi base).1
 | 0, q, lo, hi, h => h
 | n + 1, q, lo, hi, h => by
  unfold picAllN
  split
  ·exact h
  ·split
   ·exact digit_right _ _ _ h
   ·exact allN_right base n _ _ (digit_right _ _ _ h)
theorem all_right {p : VPic} (lo hi base : Int) (h : picRight p) : picRight (picAll p lo hi base).1 := by
 unfold picAll finP
 split
 ·exact allN_right base _ _ _ h
 ·exact h
theorem sign_right {p : VPic} (n : Int) (h : picRight p) : picRight (picSign p n).1 := by
 unfold picSign; split
 ·exact h
 ·exact hold_right _ h
theorem digit_fit {p : VPic} {lo hi base : Int} (hl : Fit64 lo) (hh : Fit64 hi) : Fit64 (picDigit p lo hi base).2.1 ∧ Fit64 (picDigit p lo hi base).2.2.1 := by
 unfold picDigit; split
 ·exact ⟨hl, hh⟩
 ·split
  ·exact ⟨fit_udiv.1, fit_udiv.1⟩
  ·exact ⟨hl, hh⟩
end Go.Proofs.YtobhnjnffnbbkaaGreatDoor
