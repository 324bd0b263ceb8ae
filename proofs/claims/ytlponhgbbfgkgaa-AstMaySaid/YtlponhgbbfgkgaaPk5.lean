import Derived.Test.YtlponhgbbfgkgaaPk4
set_option linter.unusedVariables false
set_option linter.unusedSimpArgs false
namespace Go.Proofs.Ytlponhgbbfgkgaa
open Go.RowKit
set_option maxRecDepth 100000
set_option maxHeartbeats 4000000
theorem stepB_of {b : List UInt8} {k n : Nat} {p q : Prop} [Decidable p] [Decidable q] (hn : nval k = n) (h1 : (allN.getD k [] = [40, 104, 97, 108, 116, 41]) = p) (h2 : (allN.getD k [] = [40, 99, 97, 117, 103, 104, 116, 41]) = q) :
  stepB b k = if q then put2 (if p then put2 (put2 b (32 + 8 * k) n) 16 (32 + 8 * k) else put2 b (32 + 8 * k) n) 24 (32 + 8 * k) else (if p then put2 (put2 b (32 + 8 * k) n) 16 (32 + 8 * k) else put2 b (32 + 8 * k) n) := by
 subst h1 h2 hn
 unfold stepB
 simp only
 split <;> split <;> simp_all
theorem ar_1 {k : Nat} (h : k < 167) : IntKind.i64.wrap (32 + IntKind.i64.wrap (8 * (k : Int))) = ((32 + 8 * k : Nat) : Int) := by simp only [i64w]; unfold wrap64; omega
theorem ar_2 {k n : Nat} (h : k < 167) (hn : n = 130) (h3 : 130 ≤ k) : IntKind.i64.wrap (IntKind.i64.wrap (300 + (k : Int)) - (n : Int)) = ((170 + k : Nat) : Int) := by subst hn; simp only [i64w]; unfold wrap64; omega
theorem ar_3 {k : Nat} (h : k < 167) : IntKind.i64.wrap (((32 + 8 * k : Nat) : Int) + 1) = ((32 + 8 * k + 1 : Nat) : Int) := by simp only [i64w]; unfold wrap64; omega
theorem newW (k : Nat) {q : SK} : PV.seq (newL k ++ [wordN k]).length ((newL k ++ [wordN k]).flatMap cWord) q = .seq (newL (k + 1)).length ((newL (k + 1)).flatMap cWord) q := by rw [newL_succ]
theorem frz_b {M : Nat} {b : List UInt8} (h : b.length = M) : PV.seq M ((b.flatMap cByte).take M) .any = sq cByte b := by rw [cB_take, List.take_of_length_le (by omega), ← h]; rfl
def vmOf (c : VConf) (b : List UInt8) (l : List VWord) : VVm := { conf := c, mem := ⟨b, []⟩, here := 1368, d := [], r := [], f := [], dict := l, last := 0, out := [], pic := ⟨[], false⟩, req := [], free := 0, next := 0, arg := 0, self := 0, now := 0, hand := [] }
theorem newVm_of (c : VConf) : newVm c = vmOf c (newB c.mem.toNat 167) (newL 167) := rfl
theorem ref_New (c : VConf) (hc : fitsV c) : PureC Try.prog 28 [eConf c] (tVm (newVm c, 0)) := by
 have hM : 2048 ≤ c.mem ∧ c.mem ≤ 65536 := ⟨hc.1, hc.2.1⟩
 obtain ⟨M, hMe⟩ : ∃ M : Nat, c.mem = M := ⟨c.mem.toNat, by omega⟩
 have hMt : c.mem.toNat = M := by omega
 have hN := names_len
 have hS := specials_len
 have hA := allN_len
 have hD : decide (fitsV c) = true := decide_eq_true hc
 refine pW tG (rs := [.cell 2 36, .tmp 3]) Try.func28 rfl rfl rfl (by simp) (by simp) (fun B => ?_)
 refine zu3 ?_
 refine zp1 ?_
 refine zc rfl Try.func31 ((ref_Fits c) _) ?_
 refine zs1 ?_
 refine Ws ?_
 refine zu2 ?_
 refine Wf rfl (by rw [hD]; rfl) ?_
 refine Wj ?_
 refine zp2 ?_
 refine z2 ?_ (q := (by (simp_all; omega)))
 refine WO_obI 2 rfl (zeros_b rfl) rfl ?_
 refine Wa 18 rfl (show PV.arr 2 0 c.mem.toNat c.mem.toNat = .arr 2 0 M M by rw [hMt]) ?_
 refine WO_obI 2 rfl (show Ob.cells ((List.replicate c.mem.toNat (0 : UInt8)).flatMap cByte) 5 = .cells ((List.replicate M (0 : UInt8)).flatMap cByte) 5 by rw [hMt]) rfl ?_
 refine zs1 ?_
 refine zp1 ?_
 refine z2 ?_ (q := (by omega))
 refine Wd rfl rfl (does_store (lO tG rfl) rfl rfl rfl rfl rfl rfl (by rw [Nat.ble_eq, cB_len]; simp; omega)) ?_
 refine WO_obI 2 rfl (congrArg (fun z => Ob.cells z 5) (splice_at (x := 10) (n := 0) rfl (by simp; omega))) rfl ?_
 refine z0 ?_
 refine zc rfl Try.func45 ((ref_NamesC) _) ?_
 refine zc rfl Try.func46 ((ref_Specials) _) ?_
 refine Wd rfl rfl (does_append_clip (lO tG rfl) rfl (lO tG rfl) (lO tG rfl) rfl rfl (by exact ⟨_, rfl⟩) (by exact ⟨rfl, rfl, flatMap_len _ 1 (fun _ => rfl) _, okC_flat _ (fun _ => rfl) _⟩) (by exact flatMap_len _ 1 (fun _ => rfl) _) (by (dsimp only; omega)) (by (rw [hN, hS]; decide))) ?_
 refine Wa 23 rfl (sq_append cStr) ?_
 refine Wm 23 rfl (imp_seq _ _ _) ?_
 refine zs1 ?_
 refine zp1 ?_
 refine WO_own 7 0 3 rfl rfl ?_
 refine Wn ?_
 refine Ws ?_
 refine zu1 ?_
 refine Wl ?_
 show W _ _ _ _ _ _ _
 refine W_loopS (fun (k : Nat) => [(1, .ptr 0 0), (2, .ptr 1 0), (5, .arr 2 0 M M), (6, sq cStr allN), (7, .seq (newL k).length ((newL k).flatMap cWord) (.own 5 3)), (8, i64 k)]) (fun (k : Nat) => [.cells (cConf c) 23, .cells vmZ 36, .cells ((newB M k).flatMap cByte) 5, .dead, .dead]) (fun (k : Nat) => [.free ((newL k).length * 3)]) (fun (k : Nat) => k ≤ 167) (fun (k : Nat) => 167 - k) (0) (by omega) [4] ?_ ?_
 ·exact fitT
 ·intro k hk
  refine Ws ?_
  refine zu4 ?_
  refine Wi rfl (fun hi2 => ?_) (fun hi2 => ?_)
  ·have hlt : k < 167 := by have := oT hi2; rw [hA] at this; omega
   have hB := newB_len M k
   have hL := newL_len k
   have w1 := ar_1 hlt
   have w3 := ar_3 hlt
   refine Wj ?_
   refine Ws ?_
   refine Wl ?_
   refine zp3 ?_
   refine Wa 32 rfl (congrArg (fun z => PV.val (Value.int .i64 z)) w1) ?_
   refine zs1 ?_
   refine zu2 ?_
   refine Ws ?_
   refine zp1 ?_
   refine zc rfl Try.func45 ((ref_Names) _) ?_
   refine zs2 ?_
   refine Wi rfl (fun hi3 => ?_) (fun hi3 => ?_)
   ·have hk3 : 130 ≤ k := by have := oT hi3; rw [hN] at this; omega
    have w2 := ar_2 hlt hN hk3
    have hn : nval k = 170 + k := by unfold nval; rw [if_pos hk3]
    refine W_region rfl ?_
    refine zy2 ?_
    refine zc rfl Try.func45 ((ref_Names) _) ?_
    refine zy2 ?_
    refine Wa 42 rfl (congrArg (fun z => PV.val (Value.int .i64 z)) w2) ?_
    refine zs1 ?_
    refine zp5 ?_
    refine Wa 47 rfl (u8_mod _) ?_
    refine z2 ?_ (q := (by omega))
    refine Wd rfl rfl (does_store (lO tG rfl) rfl rfl rfl rfl rfl rfl (by rw [Nat.ble_eq, cB_len, hB]; (try dsimp only); simp; omega)) ?_
    refine WO_obI 2 rfl (congrArg (fun z => Ob.cells z 5) (splice_at rfl (by omega))) rfl ?_
    refine Wn ?_
    refine zp3 ?_
    refine Wa 51 rfl (congrArg (fun z => PV.val (Value.int .i64 z)) w3) ?_
    refine zy3 ?_
    refine Wa 54 rfl (u8_quo _ (by omega)) ?_
    refine z2 ?_ (q := (by omega))
    refine Wd rfl rfl (does_store (lO tG rfl) rfl rfl rfl rfl rfl rfl (by rw [Nat.ble_eq, cB_len, List.length_set, hB]; (try dsimp only); simp; omega)) ?_
    refine WO_obI 2 rfl (congrArg (fun z => Ob.cells z 5) (splice_at rfl (by rw [List.length_set]; omega))) rfl ?_
    refine Wn ?_
    refine Ws ?_
    refine W_drawU [0, 0, 0, 0, 0, 0, 0, 0, 0, 0, 0, 0, 0, 0, 3, 0] [0, 1, 2, 3, 4, 5, 6, 7, 8, 9, 10, 11, 12, 13, 14, 15] mG rfl (by kernel_rfl) ?_
    iterate 3 refine z3 ?_
    refine Xi tG rfl rfl rfl rfl (fun _ => rfl) (by omega) (iN cStr 1 (fun _ => rfl) [] (by omega)) ?_
    iterate 4 refine z3 ?_
    refine Xi tG rfl rfl rfl rfl (fun _ => rfl) (by omega) (iN cStr 1 (fun _ => rfl) [] (by omega)) ?_
    iterate 2 refine z3 ?_
    refine Xc rfl rfl rfl rfl (fun _ => dC rfl Try.func47 rfl rfl ((ref_flags _ k) _)) ?_
    iterate 2 refine z3 ?_
    refine Xa 69 rfl ((show PV.seq 1 _ .clip = .seq (List.length [wordN k]) (List.flatMap cWord [wordN k]) .clip from rfl)) ?_
    refine WU_does3 rfl rfl rfl rfl (does_append_own (lO tG rfl) rfl (lO tG rfl) (lO tG rfl) rfl rfl rfl rfl (by simp) (by exact ⟨_, rfl⟩) (by exact ⟨rfl, rfl, flatMap_len _ 3 (fun _ => rfl) _, okC_flat _ (fun _ => rfl) _⟩) (by (rw [hL]; dsimp only; simp; omega)) (by (simp; omega))) ?_
    refine Xa 70 rfl (sq_append cWord) ?_
    refine z3 ?_
    skip
    refine WU_nil ?_
    refine Ws ?_
    refine zp2 ?_
    refine Wv tG rfl rfl rfl (by omega) (iN cStr 1 (fun _ => rfl) [] (by omega)) ?_
    refine zy2 ?_
    refine zq 75 ?_
    refine Wn ?_
    refine Wi rfl (fun hi4 => ?_) (fun hi4 => ?_)
    ·have h1 : (allN.getD k [] = [40, 104, 97, 108, 116, 41]) = True := eq_true (oT hi4)
     refine zp4 ?_
     refine Wa 79 rfl (u8_mod _) ?_
     refine z2 ?_ (q := (by omega))
     refine Wd rfl rfl (does_store (lO tG rfl) rfl rfl rfl rfl rfl rfl (by rw [Nat.ble_eq, cB_len]; simp only [List.length_set, hB]; (try dsimp only); simp; omega)) ?_
     refine WO_obI 2 rfl (congrArg (fun z => Ob.cells z 5) (splice_at rfl (by simp only [List.length_set]; omega))) rfl ?_
     refine Wn ?_
     refine W_region rfl ?_
     refine zy4 ?_
     refine Wa 84 rfl (u8_quo _ (by omega)) ?_
     refine z2 ?_ (q := (by omega))
     refine Wd rfl rfl (does_store (lO tG rfl) rfl rfl rfl rfl rfl rfl (by rw [Nat.ble_eq, cB_len]; simp only [List.length_set, hB]; (try dsimp only); simp; omega)) ?_
     refine WO_obI 2 rfl (congrArg (fun z => Ob.cells z 5) (splice_at rfl (by simp only [List.length_set]; omega))) rfl ?_
     refine Wn ?_
     refine zp2 ?_
     refine Wv tG rfl rfl rfl (by omega) (iN cStr 1 (fun _ => rfl) [] (by omega)) ?_
     refine zy2 ?_
     refine zq 90 ?_
     refine Wn ?_
     refine Wi rfl (fun hi5 => ?_) (fun hi5 => ?_)
     ·have h2 : (allN.getD k [] = [40, 99, 97, 117, 103, 104, 116, 41]) = True := eq_true (oT hi5)
      refine zp4 ?_
      refine Wa 94 rfl (u8_mod _) ?_
      refine z2 ?_ (q := (by omega))
      refine Wd rfl rfl (does_store (lO tG rfl) rfl rfl rfl rfl rfl rfl (by rw [Nat.ble_eq, cB_len]; simp only [List.length_set, hB]; (try dsimp only); simp; omega)) ?_
      refine WO_obI 2 rfl (congrArg (fun z => Ob.cells z 5) (splice_at rfl (by simp only [List.length_set]; omega))) rfl ?_
      refine Wn ?_
      refine W_region rfl ?_
      refine zy4 ?_
      refine Wa 99 rfl (u8_quo _ (by omega)) ?_
      refine z2 ?_ (q := (by omega))
      refine Wd rfl rfl (does_store (lO tG rfl) rfl rfl rfl rfl rfl rfl (by rw [Nat.ble_eq, cB_len]; simp only [List.length_set, hB]; (try dsimp only); simp; omega)) ?_
      refine WO_obI 2 rfl (congrArg (fun z => Ob.cells z 5) (splice_at rfl (by simp only [List.length_set]; omega))) rfl ?_
      refine Wn ?_
      refine W_region rfl ?_
      refine z1 ?_
      refine WO_obI 2 rfl (congrArg (fun z => Ob.cells (List.flatMap cByte z) 5) (show _ = newB M (k + 1) from (stepB_of hn h1 h2).symm)) rfl ?_
      refine zs2 ?_
      exact ⟨k + 1, [6], (by omega), (by omega), (fitT (sub := by repeat (first | exact subL_nil | refine subL_cons (by first | exact imp_of rfl | exact imp_of (newW k) | exact imp_of (congrArg i64 (by (rw [i64w]; unfold wrap64; omega)))) ?_)))⟩
     ·have h2 : (allN.getD k [] = [40, 99, 97, 117, 103, 104, 116, 41]) = False := eq_false (oF hi5)
      refine Wj ?_
      refine W_region rfl ?_
      refine z1 ?_
      refine WO_obI 2 rfl (congrArg (fun z => Ob.cells (List.flatMap cByte z) 5) (show _ = newB M (k + 1) from (stepB_of hn h1 h2).symm)) rfl ?_
      refine zs2 ?_
      exact ⟨k + 1, [6], (by omega), (by omega), (fitT (sub := by repeat (first | exact subL_nil | refine subL_cons (by first | exact imp_of rfl | exact imp_of (newW k) | exact imp_of (congrArg i64 (by (rw [i64w]; unfold wrap64; omega)))) ?_)))⟩
    ·have h1 : (allN.getD k [] = [40, 104, 97, 108, 116, 41]) = False := eq_false (oF hi4)
     refine Wj ?_
     refine zp2 ?_
     refine Wv tG rfl rfl rfl (by omega) (iN cStr 1 (fun _ => rfl) [] (by omega)) ?_
     refine zy2 ?_
     refine zq 90 ?_
     refine Wn ?_
     refine Wi rfl (fun hi5 => ?_) (fun hi5 => ?_)
     ·have h2 : (allN.getD k [] = [40, 99, 97, 117, 103, 104, 116, 41]) = True := eq_true (oT hi5)
      refine zp4 ?_
      refine Wa 94 rfl (u8_mod _) ?_
      refine z2 ?_ (q := (by omega))
      refine Wd rfl rfl (does_store (lO tG rfl) rfl rfl rfl rfl rfl rfl (by rw [Nat.ble_eq, cB_len]; simp only [List.length_set, hB]; (try dsimp only); simp; omega)) ?_
      refine WO_obI 2 rfl (congrArg (fun z => Ob.cells z 5) (splice_at rfl (by simp only [List.length_set]; omega))) rfl ?_
      refine Wn ?_
      refine W_region rfl ?_
      refine zy4 ?_
      refine Wa 99 rfl (u8_quo _ (by omega)) ?_
      refine z2 ?_ (q := (by omega))
      refine Wd rfl rfl (does_store (lO tG rfl) rfl rfl rfl rfl rfl rfl (by rw [Nat.ble_eq, cB_len]; simp only [List.length_set, hB]; (try dsimp only); simp; omega)) ?_
      refine WO_obI 2 rfl (congrArg (fun z => Ob.cells z 5) (splice_at rfl (by simp only [List.length_set]; omega))) rfl ?_
      refine Wn ?_
      refine W_region rfl ?_
      refine z1 ?_
      refine WO_obI 2 rfl (congrArg (fun z => Ob.cells (List.flatMap cByte z) 5) (show _ = newB M (k + 1) from (stepB_of hn h1 h2).symm)) rfl ?_
      refine zs2 ?_
      exact ⟨k + 1, [6], (by omega), (by omega), (fitT (sub := by repeat (first | exact subL_nil | refine subL_cons (by first | exact imp_of rfl | exact imp_of (newW k) | exact imp_of (congrArg i64 (by (rw [i64w]; unfold wrap64; omega)))) ?_)))⟩
     ·have h2 : (allN.getD k [] = [40, 99, 97, 117, 103, 104, 116, 41]) = False := eq_false (oF hi5)
      refine Wj ?_
      refine W_region rfl ?_
      refine z1 ?_
      refine WO_obI 2 rfl (congrArg (fun z => Ob.cells (List.flatMap cByte z) 5) (show _ = newB M (k + 1) from (stepB_of hn h1 h2).symm)) rfl ?_
      refine zs2 ?_
      exact ⟨k + 1, [6], (by omega), (by omega), (fitT (sub := by repeat (first | exact subL_nil | refine subL_cons (by first | exact imp_of rfl | exact imp_of (newW k) | exact imp_of (congrArg i64 (by (rw [i64w]; unfold wrap64; omega)))) ?_)))⟩
   ·have hn : nval k = k := by have := oF hi3; rw [hN] at this; unfold nval; rw [if_neg (by omega)]
    refine Wj ?_
    refine zp5 ?_
    refine Wa 47 rfl (u8_mod _) ?_
    refine z2 ?_ (q := (by omega))
    refine Wd rfl rfl (does_store (lO tG rfl) rfl rfl rfl rfl rfl rfl (by rw [Nat.ble_eq, cB_len, hB]; (try dsimp only); simp; omega)) ?_
    refine WO_obI 2 rfl (congrArg (fun z => Ob.cells z 5) (splice_at rfl (by omega))) rfl ?_
    refine Wn ?_
    refine zp3 ?_
    refine Wa 51 rfl (congrArg (fun z => PV.val (Value.int .i64 z)) w3) ?_
    refine zy3 ?_
    refine Wa 54 rfl (u8_quo _ (by omega)) ?_
    refine z2 ?_ (q := (by omega))
    refine Wd rfl rfl (does_store (lO tG rfl) rfl rfl rfl rfl rfl rfl (by rw [Nat.ble_eq, cB_len, List.length_set, hB]; (try dsimp only); simp; omega)) ?_
    refine WO_obI 2 rfl (congrArg (fun z => Ob.cells z 5) (splice_at rfl (by rw [List.length_set]; omega))) rfl ?_
    refine Wn ?_
    refine Ws ?_
    refine W_drawU [0, 0, 0, 0, 0, 0, 0, 0, 0, 0, 0, 0, 0, 0, 3, 0] [0, 1, 2, 3, 4, 5, 6, 7, 8, 9, 10, 11, 12, 13, 14, 15] mG rfl (by kernel_rfl) ?_
    iterate 3 refine z3 ?_
    refine Xi tG rfl rfl rfl rfl (fun _ => rfl) (by omega) (iN cStr 1 (fun _ => rfl) [] (by omega)) ?_
    iterate 4 refine z3 ?_
    refine Xi tG rfl rfl rfl rfl (fun _ => rfl) (by omega) (iN cStr 1 (fun _ => rfl) [] (by omega)) ?_
    iterate 2 refine z3 ?_
    refine Xc rfl rfl rfl rfl (fun _ => dC rfl Try.func47 rfl rfl ((ref_flags _ k) _)) ?_
    iterate 2 refine z3 ?_
    refine Xa 69 rfl ((show PV.seq 1 _ .clip = .seq (List.length [wordN k]) (List.flatMap cWord [wordN k]) .clip from rfl)) ?_
    refine WU_does3 rfl rfl rfl rfl (does_append_own (lO tG rfl) rfl (lO tG rfl) (lO tG rfl) rfl rfl rfl rfl (by simp) (by exact ⟨_, rfl⟩) (by exact ⟨rfl, rfl, flatMap_len _ 3 (fun _ => rfl) _, okC_flat _ (fun _ => rfl) _⟩) (by (rw [hL]; dsimp only; simp; omega)) (by (simp; omega))) ?_
    refine Xa 70 rfl (sq_append cWord) ?_
    refine z3 ?_
    skip
    refine WU_nil ?_
    refine Ws ?_
    refine zp2 ?_
    refine Wv tG rfl rfl rfl (by omega) (iN cStr 1 (fun _ => rfl) [] (by omega)) ?_
    refine zy2 ?_
    refine zq 75 ?_
    refine Wn ?_
    refine Wi rfl (fun hi4 => ?_) (fun hi4 => ?_)
    ·have h1 : (allN.getD k [] = [40, 104, 97, 108, 116, 41]) = True := eq_true (oT hi4)
     refine zp4 ?_
     refine Wa 79 rfl (u8_mod _) ?_
     refine z2 ?_ (q := (by omega))
     refine Wd rfl rfl (does_store (lO tG rfl) rfl rfl rfl rfl rfl rfl (by rw [Nat.ble_eq, cB_len]; simp only [List.length_set, hB]; (try dsimp only); simp; omega)) ?_
     refine WO_obI 2 rfl (congrArg (fun z => Ob.cells z 5) (splice_at rfl (by simp only [List.length_set]; omega))) rfl ?_
     refine Wn ?_
     refine W_region rfl ?_
     refine zy4 ?_
     refine Wa 84 rfl (u8_quo _ (by omega)) ?_
     refine z2 ?_ (q := (by omega))
     refine Wd rfl rfl (does_store (lO tG rfl) rfl rfl rfl rfl rfl rfl (by rw [Nat.ble_eq, cB_len]; simp only [List.length_set, hB]; (try dsimp only); simp; omega)) ?_
     refine WO_obI 2 rfl (congrArg (fun z => Ob.cells z 5) (splice_at rfl (by simp only [List.length_set]; omega))) rfl ?_
     refine Wn ?_
     refine zp2 ?_
     refine Wv tG rfl rfl rfl (by omega) (iN cStr 1 (fun _ => rfl) [] (by omega)) ?_
     refine zy2 ?_
     refine zq 90 ?_
     refine Wn ?_
     refine Wi rfl (fun hi5 => ?_) (fun hi5 => ?_)
     ·have h2 : (allN.getD k [] = [40, 99, 97, 117, 103, 104, 116, 41]) = True := eq_true (oT hi5)
      refine zp4 ?_
      refine Wa 94 rfl (u8_mod _) ?_
      refine z2 ?_ (q := (by omega))
      refine Wd rfl rfl (does_store (lO tG rfl) rfl rfl rfl rfl rfl rfl (by rw [Nat.ble_eq, cB_len]; simp only [List.length_set, hB]; (try dsimp only); simp; omega)) ?_
      refine WO_obI 2 rfl (congrArg (fun z => Ob.cells z 5) (splice_at rfl (by simp only [List.length_set]; omega))) rfl ?_
      refine Wn ?_
      refine W_region rfl ?_
      refine zy4 ?_
      refine Wa 99 rfl (u8_quo _ (by omega)) ?_
      refine z2 ?_ (q := (by omega))
      refine Wd rfl rfl (does_store (lO tG rfl) rfl rfl rfl rfl rfl rfl (by rw [Nat.ble_eq, cB_len]; simp only [List.length_set, hB]; (try dsimp only); simp; omega)) ?_
      refine WO_obI 2 rfl (congrArg (fun z => Ob.cells z 5) (splice_at rfl (by simp only [List.length_set]; omega))) rfl ?_
      refine Wn ?_
      refine W_region rfl ?_
      refine z1 ?_
      refine WO_obI 2 rfl (congrArg (fun z => Ob.cells (List.flatMap cByte z) 5) (show _ = newB M (k + 1) from (stepB_of hn h1 h2).symm)) rfl ?_
      refine zs2 ?_
      exact ⟨k + 1, [6], (by omega), (by omega), (fitT (sub := by repeat (first | exact subL_nil | refine subL_cons (by first | exact imp_of rfl | exact imp_of (newW k) | exact imp_of (congrArg i64 (by (rw [i64w]; unfold wrap64; omega)))) ?_)))⟩
     ·have h2 : (allN.getD k [] = [40, 99, 97, 117, 103, 104, 116, 41]) = False := eq_false (oF hi5)
      refine Wj ?_
      refine W_region rfl ?_
      refine z1 ?_
      refine WO_obI 2 rfl (congrArg (fun z => Ob.cells (List.flatMap cByte z) 5) (show _ = newB M (k + 1) from (stepB_of hn h1 h2).symm)) rfl ?_
      refine zs2 ?_
      exact ⟨k + 1, [6], (by omega), (by omega), (fitT (sub := by repeat (first | exact subL_nil | refine subL_cons (by first | exact imp_of rfl | exact imp_of (newW k) | exact imp_of (congrArg i64 (by (rw [i64w]; unfold wrap64; omega)))) ?_)))⟩
    ·have h1 : (allN.getD k [] = [40, 104, 97, 108, 116, 41]) = False := eq_false (oF hi4)
     refine Wj ?_
     refine zp2 ?_
     refine Wv tG rfl rfl rfl (by omega) (iN cStr 1 (fun _ => rfl) [] (by omega)) ?_
     refine zy2 ?_
     refine zq 90 ?_
     refine Wn ?_
     refine Wi rfl (fun hi5 => ?_) (fun hi5 => ?_)
     ·have h2 : (allN.getD k [] = [40, 99, 97, 117, 103, 104, 116, 41]) = True := eq_true (oT hi5)
      refine zp4 ?_
      refine Wa 94 rfl (u8_mod _) ?_
      refine z2 ?_ (q := (by omega))
      refine Wd rfl rfl (does_store (lO tG rfl) rfl rfl rfl rfl rfl rfl (by rw [Nat.ble_eq, cB_len]; simp only [List.length_set, hB]; (try dsimp only); simp; omega)) ?_
      refine WO_obI 2 rfl (congrArg (fun z => Ob.cells z 5) (splice_at rfl (by simp only [List.length_set]; omega))) rfl ?_
      refine Wn ?_
      refine W_region rfl ?_
      refine zy4 ?_
      refine Wa 99 rfl (u8_quo _ (by omega)) ?_
      refine z2 ?_ (q := (by omega))
      refine Wd rfl rfl (does_store (lO tG rfl) rfl rfl rfl rfl rfl rfl (by rw [Nat.ble_eq, cB_len]; simp only [List.length_set, hB]; (try dsimp only); simp; omega)) ?_
      refine WO_obI 2 rfl (congrArg (fun z => Ob.cells z 5) (splice_at rfl (by simp only [List.length_set]; omega))) rfl ?_
      refine Wn ?_
      refine W_region rfl ?_
      refine z1 ?_
      refine WO_obI 2 rfl (congrArg (fun z => Ob.cells (List.flatMap cByte z) 5) (show _ = newB M (k + 1) from (stepB_of hn h1 h2).symm)) rfl ?_
      refine zs2 ?_
      exact ⟨k + 1, [6], (by omega), (by omega), (fitT (sub := by repeat (first | exact subL_nil | refine subL_cons (by first | exact imp_of rfl | exact imp_of (newW k) | exact imp_of (congrArg i64 (by (rw [i64w]; unfold wrap64; omega)))) ?_)))⟩
     ·have h2 : (allN.getD k [] = [40, 99, 97, 117, 103, 104, 116, 41]) = False := eq_false (oF hi5)
      refine Wj ?_
      refine W_region rfl ?_
      refine z1 ?_
      refine WO_obI 2 rfl (congrArg (fun z => Ob.cells (List.flatMap cByte z) 5) (show _ = newB M (k + 1) from (stepB_of hn h1 h2).symm)) rfl ?_
      refine zs2 ?_
      exact ⟨k + 1, [6], (by omega), (by omega), (fitT (sub := by repeat (first | exact subL_nil | refine subL_cons (by first | exact imp_of rfl | exact imp_of (newW k) | exact imp_of (congrArg i64 (by (rw [i64w]; unfold wrap64; omega)))) ?_)))⟩
  ·have hge : k = 167 := by have := oF hi2; rw [hA] at this; omega
   have hB := newB_len M k
   have eN : tVm (newVm c, 0) = tVm (vmOf c (newB M k) (newL k), 0) := by rw [hge, newVm_of, hMt]
   generalize newB M k = b0 at hB eN ⊢
   generalize newL k = l0 at eN ⊢
   refine W_exit ?_
   refine zp2 ?_
   refine Wm 102 rfl (imp_arr_arw (Nat.le_refl _)) ?_
   refine WO_freeze 102 2 _ M rfl rfl (by rw [cB_len, hB]; exact Nat.le_refl _) ?_
   refine Wa 102 rfl (show _ = sq cByte b0 from frz_b hB) ?_
   refine zs5 ?_
   refine zR ?_
   rw [eN]; rfl
end Go.Proofs.Ytlponhgbbfgkgaa
namespace Go.Proofs.Ytlponhgbbfgkgaa
open Go.RowKit
set_option maxRecDepth 100000
set_option maxHeartbeats 8000000
def cF : VConf := ⟨4096, 32, 32, 250, 2000⟩
def vF : VVm := newVm cF
theorem fits_F : fitsV cF := by unfold fitsV cF; dsimp only; decide
theorem memF : ((List.range 168).all fun i => decide (memFetch vF.mem (24 + 8 * (i : Int)) = (if i = 0 then (memFetch vF.mem 24).1 else ((nval (i - 1) : Nat) : Int), 0)) && decide (memFetch vF.mem 0 = (10, 0))) = true := by kernel_rfl
theorem mem_0 : memFetch vF.mem 0 = (10, 0) := by
 have h := List.all_eq_true.1 memF 0 (List.mem_range.2 (by decide))
 rw [Bool.and_eq_true, decide_eq_true_eq, decide_eq_true_eq] at h
 exact h.2
theorem kF {i : Nat} (hi : i < 167) : vmKind vF ((32 + 8 * i : Nat) : Int) = (((nval i : Nat) : Int), 0) := by
 have h := List.all_eq_true.1 memF (i + 1) (List.mem_range.2 (by omega))
 rw [Bool.and_eq_true, decide_eq_true_eq, decide_eq_true_eq] at h
 have h1 := h.1
 rw [if_neg (by omega), Nat.add_sub_cancel, show (24 + 8 * ((i + 1 : Nat) : Int)) = ((32 + 8 * i : Nat) : Int) by omega] at h1
 unfold vmKind
 rw [h1, if_pos rfl, if_pos (by unfold kindOk nval; split <;> (dsimp only; omega))]
theorem rdF (w sp : Str) (i : Nat) (hi : i < 167) (h : findS vF.dict w = (wordN i, (i : Int), true)) (h2 : 300 ≤ nval i) (h3 : specials.getD (nval i - 300) [] = sp) (l : Int) : rdS vF w l = (0, sp, .mk 0 0 [] []) := by
 have e : (((nval i : Int) - 300).toNat) = nval i - 300 := by omega
 unfold rdS
 rw [h]
 dsimp only
 rw [if_neg (by decide), show (wordN i).xt = ((32 + 8 * i : Nat) : Int) from rfl, kF hi]
 dsimp only
 rw [if_neg (by decide), if_pos (by omega), e, h3]
theorem rdF2 (w : Str) (i : Nat) (hi : i < 167) (h : findS vF.dict w = (wordN i, (i : Int), true)) (h2 : nval i < 300) (h3 : (wordN i).flags % 2 = 0) (l : Int) : rdS vF w l = (if fitsK (nval i) l = true then 0 else -32, [], .mk 2 ((32 + 8 * i : Nat) : Int) [] []) := by
 unfold rdS
 rw [h]
 dsimp only
 rw [if_neg (by decide), show (wordN i).xt = ((32 + 8 * i : Nat) : Int) from rfl, kF hi]
 dsimp only
 rw [if_neg (by decide), if_neg (by omega)]
 simp only [h3, and_true]
theorem rdF3 (w : Str) (h : (findS vF.dict w).2.2 = false) (l : Int) : rdS vF w l = (if (parseS w 10).2 = true then 0 else -13, [], .mk 1 (parseS w 10).1 [] []) := by
 unfold rdS
 rw [if_pos h, mem_0]
theorem r_IF (l : Int) : rdS vF [73, 70] l = (0, [73, 70], .mk 0 0 [] []) := rdF _ _ 144 (by decide) (by kernel_rfl) (by decide) (by kernel_rfl) l
theorem r_ELSE (l : Int) : rdS vF [69, 76, 83, 69] l = (0, [69, 76, 83, 69], .mk 0 0 [] []) := rdF _ _ 145 (by decide) (by kernel_rfl) (by decide) (by kernel_rfl) l
theorem r_THEN (l : Int) : rdS vF [84, 72, 69, 78] l = (0, [84, 72, 69, 78], .mk 0 0 [] []) := rdF _ _ 146 (by decide) (by kernel_rfl) (by decide) (by kernel_rfl) l
theorem r_DO (l : Int) : rdS vF [68, 79] l = (0, [68, 79], .mk 0 0 [] []) := rdF _ _ 152 (by decide) (by kernel_rfl) (by decide) (by kernel_rfl) l
theorem r_LOOP (l : Int) : rdS vF [76, 79, 79, 80] l = (0, [76, 79, 79, 80], .mk 0 0 [] []) := rdF _ _ 154 (by decide) (by kernel_rfl) (by decide) (by kernel_rfl) l
theorem r_LEAVE (l : Int) : rdS vF [76, 69, 65, 86, 69] l = (0, [76, 69, 65, 86, 69], .mk 0 0 [] []) := rdF _ _ 156 (by decide) (by kernel_rfl) (by decide) (by kernel_rfl) l
theorem r_EXIT (l : Int) : rdS vF [69, 88, 73, 84] l = (0, [69, 88, 73, 84], .mk 0 0 [] []) := rdF _ _ 166 (by decide) (by kernel_rfl) (by decide) (by kernel_rfl) l
theorem r_CREATE (l : Int) : rdS vF [67, 82, 69, 65, 84, 69] l = (0, [67, 82, 69, 65, 84, 69], .mk 0 0 [] []) := rdF _ _ 132 (by decide) (by kernel_rfl) (by decide) (by kernel_rfl) l
theorem r_I (l : Int) : rdS vF [73] l = (if fitsK 15 l = true then 0 else -32, [], .mk 2 152 [] []) := rdF2 _ 15 (by decide) (by kernel_rfl) (by decide) (by kernel_rfl) l
theorem r_J (l : Int) : rdS vF [74] l = (if fitsK 16 l = true then 0 else -32, [], .mk 2 160 [] []) := rdF2 _ 16 (by decide) (by kernel_rfl) (by decide) (by kernel_rfl) l
theorem r_DUP (l : Int) : rdS vF [68, 85, 80] l = (if fitsK 23 l = true then 0 else -32, [], .mk 2 216 [] []) := rdF2 _ 23 (by decide) (by kernel_rfl) (by decide) (by kernel_rfl) l
theorem r_one (l : Int) : rdS vF [49] l = (0, [], .mk 1 1 [] []) := (rdF3 _ (by kernel_rfl) l).trans (by rw [show parseS [49] 10 = (1, true) by kernel_rfl]; rfl)
theorem r_two (l : Int) : rdS vF [50] l = (0, [], .mk 1 2 [] []) := (rdF3 _ (by kernel_rfl) l).trans (by rw [show parseS [50] 10 = (2, true) by kernel_rfl]; rfl)
theorem r_nope (l : Int) : rdS vF [110, 111, 112, 101] l = (-13, [], .mk 1 (parseS [110, 111, 112, 101] 10).1 [] []) := (rdF3 _ (by kernel_rfl) l).trans (by rw [show (parseS [110, 111, 112, 101] 10).2 = false by kernel_rfl]; rfl)
def tabF (w : Str) (l : Int) : Int × Str × VNode :=
 if w = [68, 79] then (0, [68, 79], .mk 0 0 [] []) else if w = [73, 70] then (0, [73, 70], .mk 0 0 [] []) else if w = [84, 72, 69, 78] then (0, [84, 72, 69, 78], .mk 0 0 [] []) else if w = [76, 79, 79, 80] then (0, [76, 79, 79, 80], .mk 0 0 [] []) else if w = [73] then (if fitsK 15 l = true then 0 else -32, [], .mk 2 152 [] []) else if w = [74] then (if fitsK 16 l = true then 0 else -32, [], .mk 2 160 [] []) else if w = [76, 69, 65, 86, 69] then (0, [76, 69, 65, 86, 69], .mk 0 0 [] []) else if w = [69, 88, 73, 84] then (0, [69, 88, 73, 84], .mk 0 0 [] []) else if w = [68, 85, 80] then (if fitsK 23 l = true then 0 else -32, [], .mk 2 216 [] []) else if w = [69, 76, 83, 69] then (0, [69, 76, 83, 69], .mk 0 0 [] []) else if w = [49] then (0, [], .mk 1 1 [] []) else if w = [50] then (0, [], .mk 1 2 [] []) else if w = [110, 111, 112, 101] then (-13, [], .mk 1 (parseS [110, 111, 112, 101] 10).1 [] []) else if w = [67, 82, 69, 65, 84, 69] then (0, [67, 82, 69, 65, 84, 69], .mk 0 0 [] []) else rdS vF w l
theorem tabF_eq (w : Str) (l : Int) : rdS vF w l = tabF w l := by
 unfold tabF
 by_cases h : w = [68, 79]
 ·rw [if_pos h, h]; exact r_DO l
 rw [if_neg h]; clear h
 by_cases h : w = [73, 70]
 ·rw [if_pos h, h]; exact r_IF l
 rw [if_neg h]; clear h
 by_cases h : w = [84, 72, 69, 78]
 ·rw [if_pos h, h]; exact r_THEN l
 rw [if_neg h]; clear h
 by_cases h : w = [76, 79, 79, 80]
 ·rw [if_pos h, h]; exact r_LOOP l
 rw [if_neg h]; clear h
 by_cases h : w = [73]
 ·rw [if_pos h, h]; exact r_I l
 rw [if_neg h]; clear h
 by_cases h : w = [74]
 ·rw [if_pos h, h]; exact r_J l
 rw [if_neg h]; clear h
 by_cases h : w = [76, 69, 65, 86, 69]
 ·rw [if_pos h, h]; exact r_LEAVE l
 rw [if_neg h]; clear h
 by_cases h : w = [69, 88, 73, 84]
 ·rw [if_pos h, h]; exact r_EXIT l
 rw [if_neg h]; clear h
 by_cases h : w = [68, 85, 80]
 ·rw [if_pos h, h]; exact r_DUP l
 rw [if_neg h]; clear h
 by_cases h : w = [69, 76, 83, 69]
 ·rw [if_pos h, h]; exact r_ELSE l
 rw [if_neg h]; clear h
 by_cases h : w = [49]
 ·rw [if_pos h, h]; exact r_one l
 rw [if_neg h]; clear h
 by_cases h : w = [50]
 ·rw [if_pos h, h]; exact r_two l
 rw [if_neg h]; clear h
 by_cases h : w = [110, 111, 112, 101]
 ·rw [if_pos h, h]; exact r_nope l
 rw [if_neg h]; clear h
 by_cases h : w = [67, 82, 69, 65, 84, 69]
 ·rw [if_pos h, h]; exact r_CREATE l
 rw [if_neg h]
def tabR : Rdr := ⟨tabF, (readerS vF).tk⟩
theorem tabR_eq : readerS vF = tabR := by
 show Rdr.mk (rdS vF) _ = Rdr.mk tabF _
 rw [show rdS vF = tabF from funext fun w => funext fun l => tabF_eq w l]
 rfl
theorem sh_a : parseP tabR [[68, 85, 80], [73, 70], [49], [69, 76, 83, 69], [50], [84, 72, 69, 78]] = ([.mk 2 216 [] [], .mk 3 1 [.mk 1 1 [] []] [.mk 1 2 [] []]], 0) := by kernel_rfl
theorem sh_b : parseP tabR [[73, 70]] = ([], -22) := by kernel_rfl
theorem sh_c : parseP tabR [[110, 111, 112, 101]] = ([], -13) := by kernel_rfl
theorem sh_d : parseP tabR [[67, 82, 69, 65, 84, 69]] = ([], -32) := by kernel_rfl
theorem vrd_F : VRd vF := by
 have h : ((newL 167).all fun w => decide (w.name.length ≤ 100) && (decide (0 ≤ w.flags) && (decide (w.flags ≤ 7) && decide (0 ≤ w.xt ∧ w.xt ≤ 100000)))) = true := by kernel_rfl
 have k : ∀ w ∈ newL 167, w.name.length ≤ 100 ∧ 0 ≤ w.flags ∧ w.flags ≤ 7 ∧ 0 ≤ w.xt ∧ w.xt ≤ 100000 := fun w hw => by
  have := List.all_eq_true.1 h w hw
  simpa only [Bool.and_eq_true, decide_eq_true_eq] using this
 refine ⟨⟨by show (newL 167).length ≤ _; rw [newL_len]; omega, fun w hw => ?_⟩, fun w hw => ?_, ?_⟩
 ·have := k w hw; exact ⟨by omega, this.2.1, this.2.2.1⟩
 ·have := k w hw; unfold Fit64; omega
 ·show (newB cF.mem.toNat 167).length ≤ _; rw [newB_len]; decide
end Go.Proofs.Ytlponhgbbfgkgaa
namespace Go.Proofs.Ytlponhgbbfgkgaa
open Go.RowKit
set_option maxRecDepth 100000
set_option maxHeartbeats 8000000
theorem ws_small {ws : List Str} (h : (decide (ws.length ≤ 1000000) && ws.all fun w => decide (w.length ≤ 1000000)) = true) : WsOk ws := by
 rw [Bool.and_eq_true, decide_eq_true_eq, List.all_eq_true] at h
 exact ⟨h.1, fun w hw => by have := oT (h.2 w hw); omega⟩
def eF15 : PV := .agg (cVm vF ++ [i64 0, .seq 0 [] .any, i64 0, i64 0, i64 0, boo false, i64 0])
theorem flat_cVmX (v : VVm) (l : List PV) (h : FlatL l) : Flat (.agg (cVm v ++ l)) := by unfold Flat; exact flatL_app (flat_cVm v) h
@[simp] theorem flat_eF15 : Flat eF15 := flat_cVmX _ _ (by simp [FlatL, Flat])
theorem ref_New15 : PureC Try.prog 15 [] eF15 := by
 refine pW tG (rs := [.cell 0 59]) Try.func15 rfl rfl rfl (by simp) (by simp) (fun B => ?_)
 refine zu1 ?_
 refine zp1 ?_
 refine zc rfl Try.func28 ((ref_New cF fits_F) _) ?_
 refine zy5 ?_
 refine zs1 ?_
 refine zu3 ?_
 refine zR ?_
 rfl
def shT : List VNode := [.mk 2 216 [] [], .mk 3 1 [.mk 1 1 [] []] [.mk 1 2 [] []]]
theorem imp_node (k n : Int) : Imp (.agg [i64 k, i64 n, .seq 0 [] .clip, .seq 0 [] .clip]) (eNode (.mk k n [] [])) :=
 imp_agg ⟨Imp.refl _, Imp.refl _, imp_seq _ _ _, imp_seq _ _ _, trivial⟩
theorem lawAst_shown : PureC Try.prog 5 [] (boo true) := by
 have p1 := ast_Parse vF [[68, 85, 80], [73, 70], [49], [69, 76, 83, 69], [50], [84, 72, 69, 78]] vrd_F (ws_small (by kernel_rfl)) (by decide)
 have p2 := ast_Parse vF [[73, 70]] vrd_F (ws_small (by kernel_rfl)) (by decide)
 have p3 := ast_Parse vF [[110, 111, 112, 101]] vrd_F (ws_small (by kernel_rfl)) (by decide)
 have p4 := ast_Parse vF [[67, 82, 69, 65, 84, 69]] vrd_F (ws_small (by kernel_rfl)) (by decide)
 rw [tabR_eq, sh_a] at p1
 rw [tabR_eq, sh_b] at p2
 rw [tabR_eq, sh_c] at p3
 rw [tabR_eq, sh_d] at p4
 refine pW tG (rs := [.tmp 0]) Try.func5 rfl rfl rfl (by simp) (by simp) (fun B => ?_)
 refine zu1 ?_
 refine z8 ?_
 refine zc rfl Try.func15 ((ref_New15) _) ?_
 refine zs3 ?_
 refine zp2 ?_
 refine Wa 14 rfl (bsL cStr [_, _, _, _, _, _] rfl rfl) ?_
 refine zc rfl Try.func9 ((p1) _) ?_
 refine zs5 ?_
 refine zp2 ?_
 refine Wa 20 rfl (bsL cStr [_] rfl rfl) ?_
 refine zc rfl Try.func9 ((p2) _) ?_
 refine zs5 ?_
 refine zp2 ?_
 refine Wa 26 rfl (bsL cStr [_] rfl rfl) ?_
 refine zc rfl Try.func9 ((p3) _) ?_
 refine zs5 ?_
 refine zp2 ?_
 refine Wa 32 rfl (bsL cStr [_] rfl rfl) ?_
 refine zc rfl Try.func9 ((p4) _) ?_
 refine zs5 ?_
 refine Ws ?_
 refine zp3 ?_
 refine WO_false 38 rfl (by rfl) ?_
 refine zs4 ?_
 refine Wf rfl (by rfl) ?_
 refine Wj ?_
 refine zp3 ?_
 refine WO_true 45 rfl (by rfl) ?_
 refine zy4 ?_
 refine WO_true 49 rfl (by rfl) ?_
 refine zy4 ?_
 refine WO_true 53 rfl (by rfl) ?_
 refine z1 ?_
 refine Wv tG rfl rfl rfl (by (simp_all; done)) (iN cNode 4 (fun _ => rfl) default (by (simp_all; done))) ?_
 refine zy5 ?_
 refine WO_true 60 rfl (by rfl) ?_
 refine z1 ?_
 refine Wv tG rfl rfl rfl (by (simp_all; done)) (iN cNode 4 (fun _ => rfl) default (by (simp_all; done))) ?_
 refine zy5 ?_
 refine WO_true 67 rfl (by rfl) ?_
 refine z1 ?_
 refine Wv tG rfl rfl rfl (by (simp_all; done)) (iN cNode 4 (fun _ => rfl) default (by (simp_all; done))) ?_
 refine zy5 ?_
 refine WO_true 74 rfl (by rfl) ?_
 refine z1 ?_
 refine Wv tG rfl rfl rfl (by (simp_all; done)) (iN cNode 4 (fun _ => rfl) default (by (simp_all; done))) ?_
 refine zy5 ?_
 refine WO_true 81 rfl (by rfl) ?_
 refine z1 ?_
 refine Wv tG rfl rfl rfl (by (simp_all; done)) (iN cNode 4 (fun _ => rfl) default (by (simp_all; done))) ?_
 refine zy5 ?_
 refine z1 ?_
 refine WO_true 89 rfl (by rfl) ?_
 refine z1 ?_
 refine Wv tG rfl rfl rfl (by (simp_all; done)) (iN cNode 4 (fun _ => rfl) default (by (simp_all; done))) ?_
 refine zy2 ?_
 refine Wa 93 rfl (sqN_eq [.mk 1 1 [] []]) ?_
 refine Wv tG rfl rfl rfl (by (simp_all; done)) (iN cNode 4 (fun _ => rfl) default (by (simp_all; done))) ?_
 refine zy5 ?_
 refine WO_true 99 rfl (by rfl) ?_
 refine z1 ?_
 refine Wv tG rfl rfl rfl (by (simp_all; done)) (iN cNode 4 (fun _ => rfl) default (by (simp_all; done))) ?_
 refine zy5 ?_
 refine z1 ?_
 refine WO_true 107 rfl (by rfl) ?_
 refine z1 ?_
 refine Wv tG rfl rfl rfl (by (simp_all; done)) (iN cNode 4 (fun _ => rfl) default (by (simp_all; done))) ?_
 refine zy2 ?_
 refine Wa 111 rfl (sqN_eq [.mk 1 2 [] []]) ?_
 refine Wv tG rfl rfl rfl (by (simp_all; done)) (iN cNode 4 (fun _ => rfl) default (by (simp_all; done))) ?_
 refine zy5 ?_
 refine WO_true 117 rfl (by rfl) ?_
 refine z1 ?_
 refine zc rfl Try.func12 ((ast_May shT (by decide)) _) ?_
 refine zy2 ?_
 refine WO_true 121 rfl (by rfl) ?_
 refine z1 ?_
 refine Wm 122 rfl (imp_node 99 0) ?_
 refine z1 ?_
 refine Wa 123 rfl ((show PV.seq 1 _ .clip = .seq (List.length [VNode.mk 99 0 [] []]) (List.flatMap cNode [VNode.mk 99 0 [] []]) .clip from rfl)) ?_
 refine zc rfl Try.func12 ((ast_May [.mk 99 0 [] []] (by decide)) _) ?_
 refine zy3 ?_
 refine WO_true 127 rfl (by rfl) ?_
 refine zy2 ?_
 refine zc rfl Try.func14 ((ast_Same shT shT (by decide) (by decide)) _) ?_
 refine zy2 ?_
 refine WO_true 132 rfl (by rfl) ?_
 refine zy2 ?_
 refine z2 ?_ (q := (by (simp_all; done)))
 refine Wa 135 rfl (sq_slice cNode 4 (fun _ => rfl) (by (simp_all; done))) ?_
 refine zc rfl Try.func14 ((ast_Same shT (shT.take 1) (by decide) (by decide)) _) ?_
 refine zs3 ?_
 refine zR ?_
 rfl
end Go.Proofs.Ytlponhgbbfgkgaa
namespace Go.Proofs.Ytlponhgbbfgkgaa
open Go.RowKit
set_option maxRecDepth 100000
set_option maxHeartbeats 8000000
def MayD (x : VNode) : Prop := ∀ o lp : Int, 0 ≤ lp → lp ≤ o → o ≤ 16 → PureC Try.prog 24 [eNode x, i64 o, i64 lp] (boo (mayN x o lp))
theorem may_in2 {x : VNode} {o l l' : Int} (hf : flagN x.kind x.n x.b = true) (hl : l' = if x.kind = 7 ∨ x.kind = 8 then l + 1 else l) (h : ¬ 16 ≤ o) : mayN x o l = (mayL x.a (o + 1) l' && mayL x.b (o + 1) l') := by
 have h1 : ¬ x.kind = 1 := fun q => by rw [q] at hf; cases hf
 have h2 : ¬ x.kind = 2 := fun q => by rw [q] at hf; cases hf
 have h9 : ¬ x.kind = 9 := fun q => by rw [q] at hf; cases hf
 have h10 : ¬ x.kind = 10 := fun q => by rw [q] at hf; cases hf
 have h11 : ¬ x.kind = 11 := fun q => by rw [q] at hf; cases hf
 rw [may_in h1 h2 h9 h10 h11 h, hf, ← hl, Bool.true_and]
theorem may_y (x : VNode) (ha : ∀ k, k < x.a.length → MayD (x.a.getD k default)) (hb : ∀ k, k < x.b.length → MayD (x.b.getD k default)) (hla : x.a.length ≤ 1000000) (hlb : x.b.length ≤ 1000000)
  (o lp : Int) (h0 : 0 ≤ lp) (h1 : lp ≤ o) (h2 : o ≤ 16) (hf : flagN x.kind x.n x.b = true) : PureC Try.prog 24 [eNode x, i64 o, i64 lp] (boo (mayN x o lp)) := by
 have w1 : IntKind.i64.wrap (o + 1) = o + 1 := i64_ok2 (by omega) (by omega)
 have w2 : IntKind.i64.wrap (lp + 1) = lp + 1 := i64_ok2 (by omega) (by omega)
 obtain ⟨l', hl'⟩ : ∃ l', l' = if x.kind = 7 ∨ x.kind = 8 then lp + 1 else lp := ⟨_, rfl⟩
 have b1 : 0 ≤ l' ∧ l' ≤ o + 1 := by rw [hl']; split <;> omega
 have n1 : ¬ x.kind = 1 := fun q => by rw [q] at hf; cases hf
 have n2 : ¬ x.kind = 2 := fun q => by rw [q] at hf; cases hf
 have n9 : ¬ x.kind = 9 := fun q => by rw [q] at hf; cases hf
 have n10 : ¬ x.kind = 10 := fun q => by rw [q] at hf; cases hf
 have n11 : ¬ x.kind = 11 := fun q => by rw [q] at hf; cases hf
 refine pW tG (rs := [.tmp 6]) Try.func24 rfl rfl rfl (by simp) (by simp) (fun B => ?_)
 refine zu2 ?_
 refine W_meet [(1, i64 o), (2, i64 lp), (3, .ptr 0 0), (7, boo (bareN x))] [.cells (cNode x) 62] [] ?_ ?_
 ·refine W_region rfl ?_
  refine zy5 ?_
  refine Wb 16 rfl (fun hg1 => ?_) (fun hg1 => ?_)
  ·refine zy5 ?_
   refine zs1 ?_
   exact ⟨[], (fitT (sub := by repeat (first | exact subL_nil | refine subL_cons (by first | exact imp_of rfl | exact imp_of (congrArg boo (by unfold bareN; rw [empty_len, empty_len, hg1]; rfl))) ?_)))⟩
  ·refine z6 ?_
   iterate 3 refine z6 ?_
   refine zs2 ?_
   exact ⟨[], (fitT (sub := by repeat (first | exact subL_nil | refine subL_cons (by first | exact imp_of rfl | exact imp_of (congrArg boo (by unfold bareN; rw [empty_len, empty_len, hg1]; rfl))) ?_)))⟩
 ·refine W_meet [(1, i64 o), (2, i64 l'), (3, .ptr 0 0)] [.cells (cNode x) 62] [] ?_ ?_
  ·refine zu2 ?_
   refine Wl ?_
   refine Ws ?_
   refine zu2 ?_
   refine Wf rfl (by simpa using n1) ?_
   refine W_region rfl ?_
   refine zs2 ?_
   refine Wf rfl (by simpa using n2) ?_
   refine zu2 ?_
   refine Wf rfl (by simpa using n9) ?_
   refine zu2 ?_
   refine Wf rfl (by simpa using n10) ?_
   refine zu2 ?_
   refine Wf rfl (by simpa using n11) ?_
   refine zu2 ?_
   refine Wi rfl (fun hi6 => ?_) (fun hi6 => ?_)
   ·have k3 : x.kind = 3 := by simpa using hi6
    refine zp4 ?_
    refine Wb 65 rfl (fun hg2 => ?_) (fun hg2 => ?_)
    ·refine zy4 ?_
     refine Wb 69 rfl (fun hg3 => ?_) (fun hg3 => ?_)
     ·refine z6 ?_
      iterate 3 refine z6 ?_
      refine zs2 ?_
      refine Wt rfl rfl ?_
      refine zu1 ?_
      refine zR ?_
      (exfalso; simp_all [flagN]; done)
     ·refine zy5 ?_
      refine zs1 ?_
      refine Wi rfl (fun hi7 => ?_) (fun hi7 => ?_)
      ·refine zu1 ?_
       refine zR ?_
       (exfalso; simp_all [flagN]; done)
      ·refine Wj ?_
       exact ⟨[], (fitT (sub := by repeat (first | exact subL_nil | refine subL_cons (by first | exact imp_of rfl | exact imp_of (congrArg i64 (by rw [hl']; (rw [if_neg (by omega)])))) ?_)))⟩
    ·refine z6 ?_
     iterate 8 refine z6 ?_
     refine zs1 ?_
     refine Wf rfl rfl ?_
     refine Wj ?_
     exact ⟨[], (fitT (sub := by repeat (first | exact subL_nil | refine subL_cons (by first | exact imp_of rfl | exact imp_of (congrArg i64 (by rw [hl']; (rw [if_neg (by omega)])))) ?_)))⟩
   ·have k3 : ¬ x.kind = 3 := by simpa using hi6
    refine Ws ?_
    refine zu2 ?_
    refine Wi rfl (fun hi8 => ?_) (fun hi8 => ?_)
    ·have k4 : x.kind = 4 := by simpa using hi8
     refine Wj ?_
     refine Wt rfl hi8 ?_
     refine zp4 ?_
     refine Wb 82 rfl (fun hg4 => ?_) (fun hg4 => ?_)
     ·refine z6 ?_
      iterate 3 refine z6 ?_
      refine zs1 ?_
      refine Wt rfl rfl ?_
      refine zu1 ?_
      refine zR ?_
      (exfalso; simp_all [flagN]; done)
     ·refine zs5 ?_
      refine Wi rfl (fun hi9 => ?_) (fun hi9 => ?_)
      ·refine zu1 ?_
       refine zR ?_
       (exfalso; simp_all [flagN]; done)
      ·refine Wj ?_
       exact ⟨[], (fitT (sub := by repeat (first | exact subL_nil | refine subL_cons (by first | exact imp_of rfl | exact imp_of (congrArg i64 (by rw [hl']; (rw [if_neg (by omega)])))) ?_)))⟩
    ·have k4 : ¬ x.kind = 4 := by simpa using hi8
     refine W_region rfl ?_
     refine zs2 ?_
     refine Wi rfl (fun hi10 => ?_) (fun hi10 => ?_)
     ·have k5 : x.kind = 5 := by simpa using hi10
      refine zp4 ?_
      refine Wb 82 rfl (fun hg4 => ?_) (fun hg4 => ?_)
      ·refine z6 ?_
       iterate 3 refine z6 ?_
       refine zs1 ?_
       refine Wt rfl rfl ?_
       refine zu1 ?_
       refine zR ?_
       (exfalso; simp_all [flagN]; done)
      ·refine zs5 ?_
       refine Wi rfl (fun hi9 => ?_) (fun hi9 => ?_)
       ·refine zu1 ?_
        refine zR ?_
        (exfalso; simp_all [flagN]; done)
       ·refine Wj ?_
        exact ⟨[], (fitT (sub := by repeat (first | exact subL_nil | refine subL_cons (by first | exact imp_of rfl | exact imp_of (congrArg i64 (by rw [hl']; (rw [if_neg (by omega)])))) ?_)))⟩
     ·have k5 : ¬ x.kind = 5 := by simpa using hi10
      refine zu2 ?_
      refine Wi rfl (fun hi11 => ?_) (fun hi11 => ?_)
      ·have k6 : x.kind = 6 := by simpa using hi11
       refine zu3 ?_
       refine Wi rfl (fun hi12 => ?_) (fun hi12 => ?_)
       ·refine zu1 ?_
        refine zR ?_
        (exfalso; simp_all [flagN]; done)
       ·refine Wj ?_
        exact ⟨[], (fitT (sub := by repeat (first | exact subL_nil | refine subL_cons (by first | exact imp_of rfl | exact imp_of (congrArg i64 (by rw [hl']; (rw [if_neg (by omega)])))) ?_)))⟩
      ·have k6 : ¬ x.kind = 6 := by simpa using hi11
       refine Ws ?_
       refine zu2 ?_
       refine Wi rfl (fun hi13 => ?_) (fun hi13 => ?_)
       ·have k7 : x.kind = 7 := by simpa using hi13
        refine Wj ?_
        refine Wt rfl hi13 ?_
        refine Ws ?_
        refine zp4 ?_
        refine Wb 99 rfl (fun hg5 => ?_) (fun hg5 => ?_)
        ·refine zy5 ?_
         refine Wb 104 rfl (fun hg6 => ?_) (fun hg6 => ?_)
         ·refine z6 ?_
          iterate 3 refine z6 ?_
          refine zs1 ?_
          refine Wt rfl rfl ?_
          refine zu1 ?_
          refine zR ?_
          (exfalso; simp_all [flagN]; done)
         ·refine zs5 ?_
          refine Wi rfl (fun hi14 => ?_) (fun hi14 => ?_)
          ·refine zu1 ?_
           refine zR ?_
           (exfalso; simp_all [flagN]; done)
          ·refine Wj ?_
           refine W_region rfl ?_
           refine zs3 ?_
           exact ⟨[], (fitT (sub := by repeat (first | exact subL_nil | refine subL_cons (by first | exact imp_of rfl | exact imp_of (congrArg i64 (by rw [hl']; ((rw [if_pos (by omega)]; exact w2))))) ?_)))⟩
        ·refine z6 ?_
         iterate 2 refine z6 ?_
         refine zy5 ?_
         refine zs2 ?_
         refine Wi rfl (fun hi14 => ?_) (fun hi14 => ?_)
         ·refine zu1 ?_
          refine zR ?_
          (exfalso; simp_all [flagN]; done)
         ·refine Wj ?_
          refine W_region rfl ?_
          refine zs3 ?_
          exact ⟨[], (fitT (sub := by repeat (first | exact subL_nil | refine subL_cons (by first | exact imp_of rfl | exact imp_of (congrArg i64 (by rw [hl']; ((rw [if_pos (by omega)]; exact w2))))) ?_)))⟩
       ·have k7 : ¬ x.kind = 7 := by simpa using hi13
        refine W_region rfl ?_
        refine zs2 ?_
        refine Wi rfl (fun hi15 => ?_) (fun hi15 => ?_)
        ·have k8 : x.kind = 8 := by simpa using hi15
         refine Ws ?_
         refine zp4 ?_
         refine Wb 99 rfl (fun hg5 => ?_) (fun hg5 => ?_)
         ·refine zy5 ?_
          refine Wb 104 rfl (fun hg6 => ?_) (fun hg6 => ?_)
          ·refine z6 ?_
           iterate 3 refine z6 ?_
           refine zs1 ?_
           refine Wt rfl rfl ?_
           refine zu1 ?_
           refine zR ?_
           (exfalso; simp_all [flagN]; done)
          ·refine zs5 ?_
           refine Wi rfl (fun hi14 => ?_) (fun hi14 => ?_)
           ·refine zu1 ?_
            refine zR ?_
            (exfalso; simp_all [flagN]; done)
           ·refine Wj ?_
            refine W_region rfl ?_
            refine zs3 ?_
            exact ⟨[], (fitT (sub := by repeat (first | exact subL_nil | refine subL_cons (by first | exact imp_of rfl | exact imp_of (congrArg i64 (by rw [hl']; ((rw [if_pos (by omega)]; exact w2))))) ?_)))⟩
         ·refine z6 ?_
          iterate 2 refine z6 ?_
          refine zy5 ?_
          refine zs2 ?_
          refine Wi rfl (fun hi14 => ?_) (fun hi14 => ?_)
          ·refine zu1 ?_
           refine zR ?_
           (exfalso; simp_all [flagN]; done)
          ·refine Wj ?_
           refine W_region rfl ?_
           refine zs3 ?_
           exact ⟨[], (fitT (sub := by repeat (first | exact subL_nil | refine subL_cons (by first | exact imp_of rfl | exact imp_of (congrArg i64 (by rw [hl']; ((rw [if_pos (by omega)]; exact w2))))) ?_)))⟩
        ·have k8 : ¬ x.kind = 8 := by simpa using hi15
         refine zu1 ?_
         refine zR ?_
         (exfalso; simp_all [flagN]; done)
  ·refine Ws ?_
   refine zu2 ?_
   refine Wi rfl (fun hi16 => ?_) (fun hi16 => ?_)
   ·have q6 : 16 ≤ o := oT hi16
    refine zu1 ?_
    refine zR ?_
    exact congrArg boo (may_deep n1 n2 n9 n10 n11 q6).symm
   ·have q6 : ¬ 16 ≤ o := oF hi16
    have eM := may_in2 hf hl' q6
    refine Wj ?_
    refine Ws ?_
    refine zu1 ?_
    refine Wl ?_
    show W _ _ _ _ _ _ _
    refine W_loopS (fun (k : Nat) => [(1, i64 o), (2, i64 l'), (3, .ptr 0 0), (8, i64 k)]) (fun (k : Nat) => [.cells (cNode x) 62]) (fun (k : Nat) => []) (fun (k : Nat) => k ≤ x.a.length ∧ mayL (x.a.take k) (o + 1) l' = true) (fun (k : Nat) => x.a.length - k) (0) (by exact ⟨Nat.zero_le _, by rw [List.take_zero, mayL]⟩) [] ?_ ?_
    ·exact fitT
    ·intro k hk
     refine Ws ?_
     refine zp3 ?_
     refine Wa 116 rfl (sqN_eq x.a) ?_
     refine zs2 ?_
     refine Wi rfl (fun hi17 => ?_) (fun hi17 => ?_)
     ·have hlt : k < x.a.length := by have := oT hi17; omega
      refine Wj ?_
      refine Ws ?_
      refine Wl ?_
      refine zp2 ?_
      refine Wa 122 rfl (sqN_eq x.a) ?_
      refine z1 ?_
      refine Wv tG rfl rfl rfl (by omega) (iN cNode 4 (fun _ => rfl) default (by omega)) ?_
      refine zy3 ?_
      refine Wa 127 rfl (congrArg (fun z => PV.val (Value.int .i64 z)) w1) ?_
      refine z1 ?_
      refine zc rfl Try.func24 ((ha k hlt (o + 1) l' b1.1 b1.2 (by omega)) _) ?_
      refine zs1 ?_
      refine zu2 ?_
      refine Wi rfl (fun hi18 => ?_) (fun hi18 => ?_)
      ·have q : mayN (x.a.getD k default) (o + 1) l' = false := by simpa using hi18
       refine zu1 ?_
       refine zR ?_
       exact congrArg boo (by rw [eM, mayL_no hlt q]; simp)
      ·have q : mayN (x.a.getD k default) (o + 1) l' = true := by simpa using hi18
       refine Wj ?_
       refine W_region rfl ?_
       refine zs3 ?_
       exact ⟨k + 1, [], (by exact ⟨by omega, by rw [mayL_get hlt, hk.2, q]; rfl⟩), (by omega), fitT⟩
     ·have hge : x.a.length ≤ k := by have := oF hi17; omega
      have hA : mayL x.a (o + 1) l' = true := by have h3 := hk.2; rw [take_all' x.a k hge] at h3; exact h3
      refine W_exit ?_
      refine Ws ?_
      refine zu1 ?_
      refine Wl ?_
      show W _ _ _ _ _ _ _
      refine W_loopS (fun (j : Nat) => [(1, i64 o), (2, i64 l'), (3, .ptr 0 0), (10, i64 j)]) (fun (j : Nat) => [.cells (cNode x) 62]) (fun (j : Nat) => []) (fun (j : Nat) => j ≤ x.b.length ∧ mayL (x.b.take j) (o + 1) l' = true) (fun (j : Nat) => x.b.length - j) (0) (by exact ⟨Nat.zero_le _, by rw [List.take_zero, mayL]⟩) [] ?_ ?_
      ·exact fitT
      ·intro j hj
       refine Ws ?_
       refine zp3 ?_
       refine Wa 134 rfl (sqN_eq x.b) ?_
       refine zs2 ?_
       refine Wi rfl (fun hi19 => ?_) (fun hi19 => ?_)
       ·have hlt : j < x.b.length := by have := oT hi19; omega
        refine Wj ?_
        refine Ws ?_
        refine Wl ?_
        refine zp2 ?_
        refine Wa 140 rfl (sqN_eq x.b) ?_
        refine z1 ?_
        refine Wv tG rfl rfl rfl (by omega) (iN cNode 4 (fun _ => rfl) default (by omega)) ?_
        refine zy3 ?_
        refine Wa 145 rfl (congrArg (fun z => PV.val (Value.int .i64 z)) w1) ?_
        refine z1 ?_
        refine zc rfl Try.func24 ((hb j hlt (o + 1) l' b1.1 b1.2 (by omega)) _) ?_
        refine zs1 ?_
        refine zu2 ?_
        refine Wi rfl (fun hi20 => ?_) (fun hi20 => ?_)
        ·have q : mayN (x.b.getD j default) (o + 1) l' = false := by simpa using hi20
         refine zu1 ?_
         refine zR ?_
         exact congrArg boo (by rw [eM, mayL_no hlt q]; simp)
        ·have q : mayN (x.b.getD j default) (o + 1) l' = true := by simpa using hi20
         refine Wj ?_
         refine W_region rfl ?_
         refine zs3 ?_
         exact ⟨j + 1, [], (by exact ⟨by omega, by rw [mayL_get hlt, hj.2, q]; rfl⟩), (by omega), fitT⟩
       ·have hge : x.b.length ≤ j := by have := oF hi19; omega
        have hB : mayL x.b (o + 1) l' = true := by have h3 := hj.2; rw [take_all' x.b j hge] at h3; exact h3
        refine W_exit ?_
        refine zu1 ?_
        refine zR ?_
        exact congrArg boo (by rw [eM, hA, hB]; rfl)
theorem nil_of {l : List VNode} (h : decide ((l.length : Int) > 0) = false) : l = [] := by
 cases l with
 | nil => rfl
 | cons a l => have := oF h; rw [List.length_cons] at this; omega
theorem fl_z {k n : Int} {b : List VNode} (hn : n = 0) (hb : b = []) (hk : k = 3 ∨ k = 4 ∨ k = 5 ∨ k = 7 ∨ k = 8) : flagN k n b = true := by
 subst hn hb; rcases hk with rfl | rfl | rfl | rfl | rfl <;> rfl
theorem fl_1 {k n : Int} {b : List VNode} (hn : n = 1) (hb : b = []) (hk : k = 7 ∨ k = 8) : flagN k n b = true := by
 subst hn hb; rcases hk with rfl | rfl <;> rfl
theorem may_none {x : VNode} {o l : Int} (h1 : ¬ x.kind = 1) (h2 : ¬ x.kind = 2) (h9 : ¬ x.kind = 9) (h10 : ¬ x.kind = 10) (h11 : ¬ x.kind = 11) (hf : ¬ flagN x.kind x.n x.b = true) : mayN x o l = false := by
 by_cases h : 16 ≤ o
 ·exact may_deep h1 h2 h9 h10 h11 h
 ·rw [may_in h1 h2 h9 h10 h11 h, show flagN x.kind x.n x.b = false by simpa using hf]; rfl
theorem may_x (x : VNode) (o lp : Int) (h0 : 0 ≤ lp) (h1 : lp ≤ o) (h2 : o ≤ 16) (hf : ¬ flagN x.kind x.n x.b = true) : PureC Try.prog 24 [eNode x, i64 o, i64 lp] (boo (mayN x o lp)) := by
 refine pW tG (rs := [.tmp 6]) Try.func24 rfl rfl rfl (by simp) (by simp) (fun B => ?_)
 refine zu2 ?_
 refine W_meet [(1, i64 o), (2, i64 lp), (3, .ptr 0 0), (7, boo (bareN x))] [.cells (cNode x) 62] [] ?_ ?_
 ·refine W_region rfl ?_
  refine zy5 ?_
  refine Wb 16 rfl (fun hg1 => ?_) (fun hg1 => ?_)
  ·refine zy5 ?_
   refine zs1 ?_
   exact ⟨[], (fitT (sub := by repeat (first | exact subL_nil | refine subL_cons (by first | exact imp_of rfl | exact imp_of (congrArg boo (by unfold bareN; rw [empty_len, empty_len, hg1]; rfl))) ?_)))⟩
  ·refine z6 ?_
   iterate 3 refine z6 ?_
   refine zs2 ?_
   exact ⟨[], (fitT (sub := by repeat (first | exact subL_nil | refine subL_cons (by first | exact imp_of rfl | exact imp_of (congrArg boo (by unfold bareN; rw [empty_len, empty_len, hg1]; rfl))) ?_)))⟩
 ·refine Ws ?_
  refine zu2 ?_
  refine Wl ?_
  refine Ws ?_
  refine zu2 ?_
  refine Wi rfl (fun hi1 => ?_) (fun hi1 => ?_)
  ·have k1 : x.kind = 1 := by simpa using hi1
   refine Wj ?_
   refine Wt rfl hi1 ?_
   refine zu2 ?_
   refine zR ?_
   exact congrArg boo (may_12 (.inl k1)).symm
  ·have k1 : ¬ x.kind = 1 := by simpa using hi1
   refine W_region rfl ?_
   refine zs2 ?_
   refine Wi rfl (fun hi2 => ?_) (fun hi2 => ?_)
   ·have k2 : x.kind = 2 := by simpa using hi2
    refine zu2 ?_
    refine zR ?_
    exact congrArg boo (may_12 (.inr k2)).symm
   ·have k2 : ¬ x.kind = 2 := by simpa using hi2
    refine zu2 ?_
    refine Wi rfl (fun hi3 => ?_) (fun hi3 => ?_)
    ·have k9 : x.kind = 9 := by simpa using hi3
     refine zp2 ?_
     refine Wb 31 rfl (fun hg2 => ?_) (fun hg2 => ?_)
     ·refine zy5 ?_
      refine Wb 36 rfl (fun hg3 => ?_) (fun hg3 => ?_)
      ·refine zs4 ?_
       refine zR ?_
       exact congrArg boo (by rw [may_9 k9]; simp_all <;> rfl)
      ·refine z6 ?_
       refine z6 ?_
       refine zs2 ?_
       refine zR ?_
       exact congrArg boo (by rw [may_9 k9]; simp_all <;> rfl)
     ·refine z6 ?_
      iterate 2 refine z6 ?_
      refine zy2 ?_
      iterate 2 refine z6 ?_
      refine zs2 ?_
      refine zR ?_
      exact congrArg boo (by rw [may_9 k9]; simp_all <;> rfl)
    ·have k9 : ¬ x.kind = 9 := by simpa using hi3
     refine zu2 ?_
     refine Wi rfl (fun hi4 => ?_) (fun hi4 => ?_)
     ·have k10 : x.kind = 10 := by simpa using hi4
      refine zp2 ?_
      refine Wb 43 rfl (fun hg4 => ?_) (fun hg4 => ?_)
      ·refine zy5 ?_
       refine Wb 48 rfl (fun hg5 => ?_) (fun hg5 => ?_)
       ·refine zs4 ?_
        refine zR ?_
        exact congrArg boo (by rw [may_10 k10]; simp_all <;> rfl)
       ·refine z6 ?_
        refine z6 ?_
        refine zs2 ?_
        refine zR ?_
        exact congrArg boo (by rw [may_10 k10]; simp_all <;> rfl)
      ·refine z6 ?_
       iterate 2 refine z6 ?_
       refine zy2 ?_
       iterate 2 refine z6 ?_
       refine zs2 ?_
       refine zR ?_
       exact congrArg boo (by rw [may_10 k10]; simp_all <;> rfl)
     ·have k10 : ¬ x.kind = 10 := by simpa using hi4
      refine zu2 ?_
      refine Wi rfl (fun hi5 => ?_) (fun hi5 => ?_)
      ·have k11 : x.kind = 11 := by simpa using hi5
       refine zp2 ?_
       refine Wb 55 rfl (fun hg6 => ?_) (fun hg6 => ?_)
       ·refine zs5 ?_
        refine zR ?_
        exact congrArg boo (by rw [may_11 k11]; simp_all <;> rfl)
       ·refine z6 ?_
        iterate 2 refine z6 ?_
        refine zs2 ?_
        refine zR ?_
        exact congrArg boo (by rw [may_11 k11]; simp_all <;> rfl)
      ·have k11 : ¬ x.kind = 11 := by simpa using hi5
       refine zu2 ?_
       refine Wi rfl (fun hi6 => ?_) (fun hi6 => ?_)
       ·have k3 : x.kind = 3 := by simpa using hi6
        refine zp4 ?_
        refine WO_true 65 rfl (by exact bne_iff_ne.2 (fun q => hf (by rw [k3, q]; rfl))) ?_
        refine zy4 ?_
        refine Wb 69 rfl (fun hg8 => ?_) (fun hg8 => ?_)
        ·refine z6 ?_
         iterate 3 refine z6 ?_
         refine zs2 ?_
         refine Wt rfl rfl ?_
         refine zu1 ?_
         refine zR ?_
         exact congrArg boo (may_none k1 k2 k9 k10 k11 hf).symm
        ·refine zy5 ?_
         refine zs1 ?_
         refine Wi rfl (fun hi7 => ?_) (fun hi7 => ?_)
         ·refine zu1 ?_
          refine zR ?_
          exact congrArg boo (may_none k1 k2 k9 k10 k11 hf).symm
         ·exact (hf (fl_z (by simpa using hg8) (nil_of hi7) (by omega))).elim
       ·have k3 : ¬ x.kind = 3 := by simpa using hi6
        refine Ws ?_
        refine zu2 ?_
        refine Wi rfl (fun hi8 => ?_) (fun hi8 => ?_)
        ·have k4 : x.kind = 4 := by simpa using hi8
         refine Wj ?_
         refine Wt rfl hi8 ?_
         refine zp4 ?_
         refine Wb 82 rfl (fun hg9 => ?_) (fun hg9 => ?_)
         ·refine z6 ?_
          iterate 3 refine z6 ?_
          refine zs1 ?_
          refine Wt rfl rfl ?_
          refine zu1 ?_
          refine zR ?_
          exact congrArg boo (may_none k1 k2 k9 k10 k11 hf).symm
         ·refine zs5 ?_
          refine Wi rfl (fun hi9 => ?_) (fun hi9 => ?_)
          ·refine zu1 ?_
           refine zR ?_
           exact congrArg boo (may_none k1 k2 k9 k10 k11 hf).symm
          ·exact (hf (fl_z (by simpa using hg9) (nil_of hi9) (by omega))).elim
        ·have k4 : ¬ x.kind = 4 := by simpa using hi8
         refine W_region rfl ?_
         refine zs2 ?_
         refine Wi rfl (fun hi10 => ?_) (fun hi10 => ?_)
         ·have k5 : x.kind = 5 := by simpa using hi10
          refine zp4 ?_
          refine Wb 82 rfl (fun hg9 => ?_) (fun hg9 => ?_)
          ·refine z6 ?_
           iterate 3 refine z6 ?_
           refine zs1 ?_
           refine Wt rfl rfl ?_
           refine zu1 ?_
           refine zR ?_
           exact congrArg boo (may_none k1 k2 k9 k10 k11 hf).symm
          ·refine zs5 ?_
           refine Wi rfl (fun hi9 => ?_) (fun hi9 => ?_)
           ·refine zu1 ?_
            refine zR ?_
            exact congrArg boo (may_none k1 k2 k9 k10 k11 hf).symm
           ·exact (hf (fl_z (by simpa using hg9) (nil_of hi9) (by omega))).elim
         ·have k5 : ¬ x.kind = 5 := by simpa using hi10
          refine zu2 ?_
          refine Wi rfl (fun hi11 => ?_) (fun hi11 => ?_)
          ·have k6 : x.kind = 6 := by simpa using hi11
           refine zu3 ?_
           refine Wt rfl (by exact bne_iff_ne.2 (fun q => hf (by rw [k6, q]; rfl))) ?_
           refine zu1 ?_
           refine zR ?_
           exact congrArg boo (may_none k1 k2 k9 k10 k11 hf).symm
          ·have k6 : ¬ x.kind = 6 := by simpa using hi11
           refine Ws ?_
           refine zu2 ?_
           refine Wi rfl (fun hi13 => ?_) (fun hi13 => ?_)
           ·have k7 : x.kind = 7 := by simpa using hi13
            refine Wj ?_
            refine Wt rfl hi13 ?_
            refine Ws ?_
            refine zp4 ?_
            refine Wb 99 rfl (fun hg10 => ?_) (fun hg10 => ?_)
            ·refine zy5 ?_
             refine Wb 104 rfl (fun hg11 => ?_) (fun hg11 => ?_)
             ·refine z6 ?_
              iterate 3 refine z6 ?_
              refine zs1 ?_
              refine Wt rfl rfl ?_
              refine zu1 ?_
              refine zR ?_
              exact congrArg boo (may_none k1 k2 k9 k10 k11 hf).symm
             ·refine zs5 ?_
              refine Wi rfl (fun hi14 => ?_) (fun hi14 => ?_)
              ·refine zu1 ?_
               refine zR ?_
               exact congrArg boo (may_none k1 k2 k9 k10 k11 hf).symm
              ·exact (hf (fl_1 (by simpa using hg11) (nil_of hi14) (by omega))).elim
            ·refine z6 ?_
             iterate 2 refine z6 ?_
             refine zy5 ?_
             refine zs2 ?_
             refine Wi rfl (fun hi14 => ?_) (fun hi14 => ?_)
             ·refine zu1 ?_
              refine zR ?_
              exact congrArg boo (may_none k1 k2 k9 k10 k11 hf).symm
             ·exact (hf (fl_z (by simpa using hg10) (nil_of hi14) (by omega))).elim
           ·have k7 : ¬ x.kind = 7 := by simpa using hi13
            refine W_region rfl ?_
            refine zs2 ?_
            refine Wi rfl (fun hi15 => ?_) (fun hi15 => ?_)
            ·have k8 : x.kind = 8 := by simpa using hi15
             refine Ws ?_
             refine zp4 ?_
             refine Wb 99 rfl (fun hg10 => ?_) (fun hg10 => ?_)
             ·refine zy5 ?_
              refine Wb 104 rfl (fun hg11 => ?_) (fun hg11 => ?_)
              ·refine z6 ?_
               iterate 3 refine z6 ?_
               refine zs1 ?_
               refine Wt rfl rfl ?_
               refine zu1 ?_
               refine zR ?_
               exact congrArg boo (may_none k1 k2 k9 k10 k11 hf).symm
              ·refine zs5 ?_
               refine Wi rfl (fun hi14 => ?_) (fun hi14 => ?_)
               ·refine zu1 ?_
                refine zR ?_
                exact congrArg boo (may_none k1 k2 k9 k10 k11 hf).symm
               ·exact (hf (fl_1 (by simpa using hg11) (nil_of hi14) (by omega))).elim
             ·refine z6 ?_
              iterate 2 refine z6 ?_
              refine zy5 ?_
              refine zs2 ?_
              refine Wi rfl (fun hi14 => ?_) (fun hi14 => ?_)
              ·refine zu1 ?_
               refine zR ?_
               exact congrArg boo (may_none k1 k2 k9 k10 k11 hf).symm
              ·exact (hf (fl_z (by simpa using hg10) (nil_of hi14) (by omega))).elim
            ·have k8 : ¬ x.kind = 8 := by simpa using hi15
             refine zu1 ?_
             refine zR ?_
             exact congrArg boo (may_none k1 k2 k9 k10 k11 hf).symm
theorem mayD_c : ∀ (n : Nat) (x : VNode), szN x < n → n ≤ 1000001 → MayD x := by
 intro n
 induction n with
 | zero => intro x h; omega
 | succ n ih =>
  intro x hx hn o lp h0 h1 h2
  rw [sz_parts] at hx
  have la := sz_len x.a
  have lb := sz_len x.b
  by_cases hf : flagN x.kind x.n x.b = true
  ·exact may_y x (fun k hk => ih _ (by have := sz_get hk; omega) (by omega)) (fun k hk => ih _ (by have := sz_get hk; omega) (by omega)) (by omega) (by omega) o lp h0 h1 h2 hf
  ·exact may_x x o lp h0 h1 h2 hf
theorem ref_May (l : List VNode) (h : szL l ≤ 1000000) : PureC Try.prog 13 [sq cNode l] (boo (mayL l 0 0)) := by
 have hl := sz_len l
 refine pW tG (rs := [.tmp 2]) Try.func13 rfl rfl rfl (by simp) (by simp) (fun B => ?_)
 refine zu1 ?_
 refine Ws ?_
 refine zu1 ?_
 refine Wl ?_
 show W _ _ _ _ _ _ _
 refine W_loopS (fun (k : Nat) => [(0, sq cNode l), (3, i64 k)]) (fun (k : Nat) => []) (fun (k : Nat) => []) (fun (k : Nat) => k ≤ l.length ∧ mayL (l.take k) 0 0 = true) (fun (k : Nat) => l.length - k) (0) (by exact ⟨Nat.zero_le _, by rw [List.take_zero, mayL]⟩) [] ?_ ?_
 ·exact fitT
 ·intro k hk
  refine Ws ?_
  refine zu4 ?_
  refine Wi rfl (fun hi1 => ?_) (fun hi1 => ?_)
  ·have hlt : k < l.length := by have := oT hi1; omega
   have hz := sz_get hlt
   refine Wj ?_
   refine Ws ?_
   refine Wl ?_
   refine zp2 ?_
   refine Wv tG rfl rfl rfl (by omega) (iN cNode 4 (fun _ => rfl) default (by omega)) ?_
   refine z1 ?_
   refine zc rfl Try.func24 ((mayD_c 1000001 (l.getD k default) (by omega) (by omega) 0 0 (by omega) (by omega) (by omega)) _) ?_
   refine zs1 ?_
   refine zu2 ?_
   refine Wi rfl (fun hi2 => ?_) (fun hi2 => ?_)
   ·have q : mayN (l.getD k default) 0 0 = false := by simpa using hi2
    refine zu1 ?_
    refine zR ?_
    exact congrArg boo (mayL_no hlt q).symm
   ·have q : mayN (l.getD k default) 0 0 = true := by simpa using hi2
    refine Wj ?_
    refine W_region rfl ?_
    refine zs3 ?_
    exact ⟨k + 1, [], (by exact ⟨by omega, by rw [mayL_get hlt, hk.2, q]; rfl⟩), (by omega), fitT⟩
  ·have hge : l.length ≤ k := by have := oF hi1; omega
   refine W_exit ?_
   refine zu1 ?_
   refine zR ?_
   exact congrArg boo (by have h3 := hk.2; rw [take_all' l k hge] at h3; exact h3.symm)
theorem sameD_c : ∀ (n : Nat) (a : List VNode), szL a < n → n ≤ 1000001 → ∀ b : List VNode, szL b ≤ 1000000 → PureC Try.prog 11 [sq cNode a, sq cNode b] (boo (sameL a b)) := by
 intro n
 induction n with
 | zero => intro a h; omega
 | succ n ih =>
  intro a hn hN b hb
  have hla := sz_len a
  have hlb := sz_len b
  refine pW tG (rs := [.tmp 4]) Try.func11 rfl rfl rfl (by simp) (by simp) (fun B => ?_)
  refine zu1 ?_
  refine Ws ?_
  refine zu5 ?_
  refine Wi rfl (fun hi1 => ?_) (fun hi1 => ?_)
  ·have hne : sameL a b = false := by
    cases e : sameL a b with
    | false => rfl
    | true => have := sameL_len e; rw [this] at hi1; simp at hi1
   refine zu1 ?_
   refine zR ?_
   exact congrArg boo hne.symm
  ·have hl : a.length = b.length := by (try simp only [dnL] at *); omega
   refine Wj ?_
   refine Ws ?_
   refine zu1 ?_
   refine Wl ?_
   show W _ _ _ _ _ _ _
   refine W_loopS (fun (k : Nat) => [(0, sq cNode a), (1, sq cNode b), (5, i64 k)]) (fun (k : Nat) => []) (fun (k : Nat) => []) (fun (k : Nat) => k ≤ a.length ∧ ∀ j, j < k → sameN (a.getD j default) (b.getD j default) = true) (fun (k : Nat) => a.length - k) (0) (by exact ⟨Nat.zero_le _, fun j hj => absurd hj (Nat.not_lt_zero _)⟩) [] ?_ ?_
   ·exact fitT
   ·intro k hk
    refine Ws ?_
    refine zu4 ?_
    refine Wi rfl (fun hi2 => ?_) (fun hi2 => ?_)
    ·have hlt : k < a.length := by have := oT hi2; omega
     have hlt2 : k < b.length := by omega
     have q1 := node_sz hlt
     have q2 := node_sz hlt2
     have eN := sameN_parts (a.getD k default) (b.getD k default)
     refine Wj ?_
     refine Ws ?_
     refine Wl ?_
     iterate 2 refine Ws ?_
     refine W_drawU [0, 0, 0, 0, 1, 0, 0, 0, 0, 1, 0, 0, 0, 0, 0, 0, 1, 0, 0, 0, 0, 1, 0, 0] [0, 1, 2, 3, 4, 5, 6, 7, 8, 9, 10, 11, 12, 13, 14, 15, 16, 17, 18, 19, 20, 21, 22, 23] mG rfl (by kernel_rfl) ?_
     iterate 2 refine z3 ?_
     refine Xi tG rfl rfl rfl rfl (fun _ => rfl) (by omega) (iN cNode 4 (fun _ => rfl) default (by omega)) ?_
     refine z3 ?_
     refine z5 ?_
     iterate 2 refine z3 ?_
     refine Xi tG rfl rfl rfl rfl (fun _ => rfl) (by omega) (iN cNode 4 (fun _ => rfl) default (by omega)) ?_
     refine z3 ?_
     refine z5 ?_
     iterate 2 refine z3 ?_
     refine WU_split 30 rfl (fun hg1 => ?_) (fun hg1 => ?_)
     ·refine z7 ?_
      iterate 10 refine z7 ?_
      refine z3 ?_
      refine WU_nil ?_
      refine Wt rfl rfl ?_
      refine zu1 ?_
      refine zR ?_
      exact congrArg boo (same_no hlt (by rw [eN]; simp_all)).symm
     ·refine z3 ?_
      refine z3 ?_
      refine Xi tG rfl rfl rfl rfl (fun _ => rfl) (by omega) (iN cNode 4 (fun _ => rfl) default (by omega)) ?_
      refine z3 ?_
      refine z5 ?_
      iterate 2 refine z3 ?_
      refine Xi tG rfl rfl rfl rfl (fun _ => rfl) (by omega) (iN cNode 4 (fun _ => rfl) default (by omega)) ?_
      refine z3 ?_
      refine z5 ?_
      iterate 2 refine z3 ?_
      refine WU_nil ?_
      refine Wi rfl (fun hi3 => ?_) (fun hi3 => ?_)
      ·refine zu1 ?_
       refine zR ?_
       exact congrArg boo (same_no hlt (by rw [eN]; simp_all)).symm
      ·refine Wj ?_
       refine Ws ?_
       refine W_drawU [0, 0, 0, 0, 1, 0, 0, 0, 0, 1, 0, 0] [0, 1, 2, 3, 4, 5, 6, 7, 8, 9, 10, 11] mG rfl (by kernel_rfl) ?_
       iterate 2 refine z3 ?_
       refine Xi tG rfl rfl rfl rfl (fun _ => rfl) (by omega) (iN cNode 4 (fun _ => rfl) default (by omega)) ?_
       refine z3 ?_
       refine z5 ?_
       refine Xa 47 rfl (sqN_eq (a.getD k default).a) ?_
       iterate 2 refine z3 ?_
       refine Xi tG rfl rfl rfl rfl (fun _ => rfl) (by omega) (iN cNode 4 (fun _ => rfl) default (by omega)) ?_
       refine z3 ?_
       refine z5 ?_
       refine Xa 52 rfl (sqN_eq (b.getD k default).a) ?_
       refine Xc rfl rfl rfl rfl (fun _ => dC rfl Try.func11 rfl rfl ((ih (a.getD k default).a (by omega) (by omega) (b.getD k default).a (by omega)) _)) ?_
       refine z3 ?_
       refine WU_nil ?_
       refine Ws ?_
       refine W_drawU [0, 0, 0, 0, 1, 0, 0, 0, 0, 1, 0, 0] [0, 1, 2, 3, 4, 5, 6, 7, 8, 9, 10, 11] mG rfl (by kernel_rfl) ?_
       iterate 2 refine z3 ?_
       refine Xi tG rfl rfl rfl rfl (fun _ => rfl) (by omega) (iN cNode 4 (fun _ => rfl) default (by omega)) ?_
       refine z3 ?_
       refine z5 ?_
       refine Xa 58 rfl (sqN_eq (a.getD k default).b) ?_
       iterate 2 refine z3 ?_
       refine Xi tG rfl rfl rfl rfl (fun _ => rfl) (by omega) (iN cNode 4 (fun _ => rfl) default (by omega)) ?_
       refine z3 ?_
       refine z5 ?_
       refine Xa 63 rfl (sqN_eq (b.getD k default).b) ?_
       refine Xc rfl rfl rfl rfl (fun _ => dC rfl Try.func11 rfl rfl ((ih (a.getD k default).b (by omega) (by omega) (b.getD k default).b (by omega)) _)) ?_
       refine z3 ?_
       refine WU_nil ?_
       refine zp3 ?_
       refine Wb 67 rfl (fun hg2 => ?_) (fun hg2 => ?_)
       ·refine z6 ?_
        refine z6 ?_
        refine zs1 ?_
        refine Wt rfl rfl ?_
        refine zu1 ?_
        refine zR ?_
        exact congrArg boo (same_no hlt (by rw [eN]; simp_all)).symm
       ·refine zs3 ?_
        refine Wi rfl (fun hi4 => ?_) (fun hi4 => ?_)
        ·refine zu1 ?_
         refine zR ?_
         exact congrArg boo (same_no hlt (by rw [eN]; simp_all)).symm
        ·refine Wj ?_
         refine W_region rfl ?_
         refine zs3 ?_
         exact ⟨k + 1, [], (by exact ⟨by omega, fun j hj => by rcases Nat.lt_succ_iff_lt_or_eq.1 hj with h | h; exact hk.2 j h; rw [h, eN]; simp_all⟩), (by omega), fitT⟩
    ·have hge : a.length ≤ k := by have := oF hi2; omega
     refine W_exit ?_
     refine zu1 ?_
     refine zR ?_
     exact congrArg boo (sameL_all hl (fun j hj => hk.2 j (by omega))).symm
theorem ref_Same16 (a b : List VNode) (ha : szL a ≤ 1000000) (hb : szL b ≤ 1000000) : PureC Try.prog 11 [sq cNode a, sq cNode b] (boo (sameL a b)) := sameD_c _ a (Nat.lt_succ_self _) (by omega) b hb
end Go.Proofs.Ytlponhgbbfgkgaa
namespace Go.Proofs.Ytlponhgbbfgkgaa
open Go.RowKit
set_option maxRecDepth 100000
def SzR (row : PSt → PRes) : Prop := ∀ s : PSt, szL (row s).2.1 + (row s).1.rest.length ≤ s.rest.length
theorem sz_one (x : VNode) : szL [x] = szN x := by rw [szL, szL]; omega
theorem fail_r (s : PSt) (e : Int) : (s.fail e).rest = s.rest := (fail_o s e).2.2
theorem opens_r (s : PSt) : (opensP s).rest = s.rest := by unfold opensP; dsimp only; split <;> first | rfl | exact fail_r _ _
theorem body_sz {row : PSt → PRes} (h : SzR row) (s : PSt) (ends : List (List UInt8)) : szL (bodyP row s ends).2.1 + (bodyP row s ends).1.rest.length ≤ s.rest.length := by
 have h1 := h s
 unfold bodyP
 dsimp only
 split
 ·rw [(ends_o _ _).2.2]; exact h1
 ·exact h1
theorem if_sz {row : PSt → PRes} (h : SzR row) (s : PSt) : szN (ifP row s).2 + (ifP row s).1.rest.length ≤ s.rest.length + 1 := by
 have h1 := body_sz h (opensP s) [[69, 76, 83, 69], [84, 72, 69, 78]]
 rw [opens_r] at h1
 unfold ifP
 dsimp only
 split
 ·have h2 := body_sz h (bodyP row (opensP s) [[69, 76, 83, 69], [84, 72, 69, 78]]).1 [[84, 72, 69, 78]]
  rw [szN]; unfold shutP; dsimp only; omega
 ·rw [szN, szL]; unfold shutP; dsimp only; omega
theorem begin_sz {row : PSt → PRes} (h : SzR row) (s : PSt) : szN (beginP row s).2 + (beginP row s).1.rest.length ≤ s.rest.length + 1 := by
 have h1 := body_sz h (opensP s) [[85, 78, 84, 73, 76], [65, 71, 65, 73, 78], [87, 72, 73, 76, 69]]
 rw [opens_r] at h1
 unfold beginP
 dsimp only
 split
 ·rw [szN, szL]; unfold shutP; dsimp only; omega
 split
 ·have h2 := body_sz h (bodyP row (opensP s) [[85, 78, 84, 73, 76], [65, 71, 65, 73, 78], [87, 72, 73, 76, 69]]).1 [[82, 69, 80, 69, 65, 84]]
  rw [szN]; unfold shutP; dsimp only; omega
 ·rw [szN, szL]; unfold shutP; dsimp only; omega
theorem loopN_sz {row : PSt → PRes} (h : SzR row) (ask : Int) (s : PSt) : szN (loopN row ask s).2 + (loopN row ask s).1.rest.length ≤ s.rest.length + 1 := by
 have h1 := body_sz h { opensP s with loops := (opensP s).loops + 1 } [[76, 79, 79, 80], [43, 76, 79, 79, 80]]
 have h2 := congrArg List.length (opens_r s)
 unfold loopN
 dsimp only at h1 ⊢
 rw [szN, szL]; unfold shutP; dsimp only; omega
theorem bare_sz (k n : Int) : szN (.mk k n [] []) = 1 := by rw [szN, szL]
theorem name_r (s : PSt) : (nameP s).1.rest.length ≤ s.rest.length := by
 unfold nameP
 split
 ·rw [fail_r]; omega
 ·rename_i w ws h
  rw [h]
  dsimp only
  split
  ·rw [fail_r, List.length_cons]; dsimp only; omega
  ·rw [List.length_cons]; dsimp only; omega
theorem on_sz {R : Rdr} {row : PSt → PRes} (h : SzR row) {sp : List UInt8} {s : PSt} {q : PSt × VNode} (e : onP R row sp s = some q) : szN q.2 + q.1.rest.length ≤ s.rest.length + 1 := by
 have hn := name_r s
 unfold onP at e
 split at e
 ·cases e; exact if_sz h s
 split at e
 ·cases e; exact begin_sz h s
 split at e
 ·cases e; exact loopN_sz h 0 s
 split at e
 ·cases e; exact loopN_sz h 1 s
 split at e
 ·cases e; unfold leaveP; dsimp only; rw [bare_sz]; split <;> (try rw [fail_r]) <;> omega
 split at e
 ·cases e; unfold exitP; dsimp only; rw [bare_sz]; split <;> (try rw [fail_r]) <;> omega
 split at e
 ·cases e; (try dsimp only); rw [bare_sz]; omega
 split at e
 ·cases e; unfold charP; dsimp only; rw [bare_sz]; omega
 split at e
 ·cases e; unfold tickP; dsimp only; rw [bare_sz]; split <;> (try rw [fail_r]) <;> omega
 ·cases e
theorem loop_sz {R : Rdr} (hR : ∀ w l, szN (R.rd w l).2.2 = 1) : ∀ (m : Nat) (s : PSt) (acc : List VNode), szL (loopP R m s acc).2.1 + (loopP R m s acc).1.rest.length ≤ szL acc + s.rest.length
 | 0, s, acc => by rw [loopP, fail_r, szL]; (try dsimp only); omega
 | m + 1, s, acc => by
  have ih := loop_sz hR m
  have hrow : SzR (fun s => loopP R m s []) := fun s => by have := ih s []; rw [szL] at this; dsimp only; omega
  rw [loopP]
  split
  ·rw [szL]; dsimp only; omega
  split
  ·dsimp only; omega
  ·rename_i w ws h
   rw [h, List.length_cons]
   dsimp only
   split
   ·have k := ih (({ s with rest := ws } : PSt).fail (R.rd w s.loops).1) (acc ++ [(R.rd w s.loops).2.2])
    rw [fail_r, sz_app, sz_one, hR] at k
    dsimp only at k
    omega
   ·split
    ·rw [fail_r]; dsimp only; omega
    ·rename_i q hq
     have k1 := on_sz hrow hq
     rw [fail_r] at k1
     dsimp only at k1
     have k2 := ih q.1 (acc ++ [q.2])
     rw [sz_app, sz_one] at k2
     omega
theorem parse_sz {R : Rdr} (hR : ∀ w l, szN (R.rd w l).2.2 = 1) (ws : List (List UInt8)) : szL (parseP R ws).1 ≤ ws.length := by
 have h := loop_sz hR (ws.length + 1) ⟨ws, 0, 0, 0⟩ []
 rw [szL] at h
 dsimp only at h
 unfold parseP
 dsimp only
 generalize loopP R (ws.length + 1) ⟨ws, 0, 0, 0⟩ [] = P at h ⊢
 generalize (if P.1.bad = 0 ∧ P.2.2 ≠ [] then endsP P.1 P.2.2 else P.1) = z
 by_cases c : z.bad ≠ 0
 ·rw [if_pos c]; dsimp only; rw [szL]; omega
 ·rw [if_neg c]; dsimp only; omega
theorem rds_sz (v : VVm) (w : Str) (l : Int) : szN (rdS v w l).2.2 = 1 := by
 unfold rdS
 split
 ·exact bare_sz _ _
 split
 ·exact bare_sz _ _
 split
 ·exact bare_sz _ _
 ·exact bare_sz _ _
theorem parse_small (v : VVm) (ws : List Str) : szL (parseP (readerS v) ws).1 ≤ ws.length := parse_sz (fun w l => rds_sz v w l) ws
end Go.Proofs.Ytlponhgbbfgkgaa
namespace Go.Proofs.Ytlponhgbbfgkgaa
open Go.RowKit
set_option maxRecDepth 100000
theorem wf_fit {n : Int} (h : (Lit.int .i64 n).wf = true) : Fit64 n := fit_wf h
theorem rd_int64 {w : World} {cs : List Value} (h : Rd w 3 cs) : ∃ n, Fit64 n ∧ RepL (c0 w) [i64 n] cs := by
 obtain ⟨n, h1, h2⟩ := rd_int_rep Try.underlying3 h
 exact ⟨n, wf_fit h1, h2⟩
theorem rd_byte {w : World} {cs : List Value} (h : Rd w 5 cs) : ∃ b : UInt8, True ∧ RepL (c0 w) (cByte b) cs := by
 obtain ⟨n, h1, h2⟩ := rd_int_rep Try.underlying5 h
 have h3 := byte_wf h1
 refine ⟨UInt8.ofNat n.toNat, trivial, ?_⟩
 have e : ((UInt8.ofNat n.toNat).toNat : Int) = n := by rw [UInt8.toNat_ofNat']; omega
 unfold cByte
 rw [e]; exact h2
theorem str_size' (s : ByteArray) : s.size = s.data.toList.length := by show s.data.size = _; simp
theorem rd_str {w : World} {cs : List Value} (h : Rd w 9 cs) : ∃ s : Str, s.length ≤ 9223372036854775807 ∧ RepL (c0 w) [str s] cs := by
 obtain ⟨s, h1, h2⟩ := rd_string_rep Try.underlying9 h
 refine ⟨s.data.toList, by unfold maxLen at h1; have : s.size = s.data.toList.length := (str_size' s); omega, ?_⟩
 rw [← str_of]; exact h2
theorem rd_boo {w : World} {cs : List Value} (h : Rd w 4 cs) : ∃ b : Bool, True ∧ RepL (c0 w) [boo b] cs := by
 obtain ⟨b, h1⟩ := rd_bool_rep Try.underlying4 h
 exact ⟨b, trivial, h1⟩
theorem rd_bytes {w : World} {cs : List Value} (h : Rd w 24 cs) : ∃ l : List UInt8, l.length ≤ 9223372036854775807 ∧ RepL (c0 w) [sq cByte l] cs := by
 obtain ⟨l, _, h2, h3⟩ := rd_slice_rep cByte (fun _ => True) 1 Try.underlying24 (by kernel_rfl) (by omega) (fun es h => rd_byte h) h
 exact ⟨l, by unfold maxLen at h2; omega, h3⟩
theorem rd_intl {w : World} {cs : List Value} (h : Rd w 28 cs) : ∃ l : List Int, ((∀ x ∈ l, Fit64 x) ∧ l.length ≤ 9223372036854775807) ∧ RepL (c0 w) [sq cInt l] cs := by
 obtain ⟨l, h1, h2, h3⟩ := rd_slice_rep cInt Fit64 1 Try.underlying28 (by kernel_rfl) (by omega) (fun es h => rd_int64 h) h
 exact ⟨l, ⟨h1, by unfold maxLen at h2; omega⟩, h3⟩
structure OkConf (x : VConf) : Prop where
 o_mem : Fit64 x.mem
 o_data : Fit64 x.data
 o_ret : Fit64 x.ret
 o_words : Fit64 x.words
 o_out : Fit64 x.out
theorem rd_Conf {w : World} {cs : List Value} (h : Rd w 23 cs) : ∃ x : VConf, OkConf x ∧ RepL (c0 w) (cConf x) cs := by
 have h0 := rd_all Try.underlying23 [(3, 1), (3, 1), (3, 1), (3, 1), (3, 1)] (by kernel_rfl) (by kernel_rfl) (by kernel_rfl) h
 simp only [RdAll] at h0
 obtain ⟨a0, b0, e0, _, r0, t0⟩ := h0
 obtain ⟨a1, b1, e1, _, r1, t1⟩ := t0
 obtain ⟨a2, b2, e2, _, r2, t2⟩ := t1
 obtain ⟨a3, b3, e3, _, r3, t3⟩ := t2
 obtain ⟨a4, b4, e4, _, r4, t4⟩ := t3
 obtain ⟨x0, k0, p0⟩ := rd_int64 r0
 obtain ⟨x1, k1, p1⟩ := rd_int64 r1
 obtain ⟨x2, k2, p2⟩ := rd_int64 r2
 obtain ⟨x3, k3, p3⟩ := rd_int64 r3
 obtain ⟨x4, k4, p4⟩ := rd_int64 r4
 refine ⟨⟨x0, x1, x2, x3, x4⟩, ⟨k0, k1, k2, k3, k4⟩, ?_⟩
 subst e0 e1 e2 e3 e4
 have key := (RepL.append p0 (RepL.append p1 (RepL.append p2 (RepL.append p3 (RepL.append p4 (repL_nil.2 t4))))))
 exact key
structure OkPatch (x : VPatch) : Prop where
 o_place : Fit64 x.place
 o_old : x.old.length ≤ 9223372036854775807
theorem rd_Patch {w : World} {cs : List Value} (h : Rd w 113 cs) : ∃ x : VPatch, OkPatch x ∧ RepL (c0 w) (cPatch x) cs := by
 have h0 := rd_all Try.underlying113 [(3, 1), (24, 1)] (by kernel_rfl) (by kernel_rfl) (by kernel_rfl) h
 simp only [RdAll] at h0
 obtain ⟨a0, b0, e0, _, r0, t0⟩ := h0
 obtain ⟨a1, b1, e1, _, r1, t1⟩ := t0
 obtain ⟨x0, k0, p0⟩ := rd_int64 r0
 obtain ⟨x1, k1, p1⟩ := rd_bytes r1
 refine ⟨⟨x0, x1⟩, ⟨k0, k1⟩, ?_⟩
 subst e0 e1
 have key := (RepL.append p0 (RepL.append p1 (repL_nil.2 t1)))
 exact key
theorem rd_Patchs {w : World} {cs : List Value} (h : Rd w 25 cs) : ∃ l : List VPatch, ((∀ x ∈ l, OkPatch x) ∧ l.length ≤ 9223372036854775807) ∧ RepL (c0 w) [sq cPatch l] cs := by
 obtain ⟨l, h1, h2, h3⟩ := rd_slice_rep cPatch OkPatch 2 Try.underlying25 (by kernel_rfl) (by omega) (fun es h => rd_Patch h) h
 exact ⟨l, ⟨h1, by unfold maxLen at h2; omega⟩, h3⟩
structure OkMem (x : VMem) : Prop where
 o_b : x.b.length ≤ 9223372036854775807
 o_old : (∀ a ∈ x.old, OkPatch a) ∧ x.old.length ≤ 9223372036854775807
theorem rd_Mem {w : World} {cs : List Value} (h : Rd w 27 cs) : ∃ x : VMem, OkMem x ∧ RepL (c0 w) (cMem x) cs := by
 have h0 := rd_all Try.underlying27 [(24, 1), (25, 1)] (by kernel_rfl) (by kernel_rfl) (by kernel_rfl) h
 simp only [RdAll] at h0
 obtain ⟨a0, b0, e0, _, r0, t0⟩ := h0
 obtain ⟨a1, b1, e1, _, r1, t1⟩ := t0
 obtain ⟨x0, k0, p0⟩ := rd_bytes r0
 obtain ⟨x1, k1, p1⟩ := rd_Patchs r1
 refine ⟨⟨x0, x1⟩, ⟨k0, k1⟩, ?_⟩
 subst e0 e1
 have key := (RepL.append p0 (RepL.append p1 (repL_nil.2 t1)))
 exact key
structure OkPic (x : VPic) : Prop where
 o_b : x.b.length ≤ 9223372036854775807
 o_on : True
theorem rd_Pic {w : World} {cs : List Value} (h : Rd w 32 cs) : ∃ x : VPic, OkPic x ∧ RepL (c0 w) (cPic x) cs := by
 have h0 := rd_all Try.underlying32 [(24, 1), (4, 1)] (by kernel_rfl) (by kernel_rfl) (by kernel_rfl) h
 simp only [RdAll] at h0
 obtain ⟨a0, b0, e0, _, r0, t0⟩ := h0
 obtain ⟨a1, b1, e1, _, r1, t1⟩ := t0
 obtain ⟨x0, k0, p0⟩ := rd_bytes r0
 obtain ⟨x1, k1, p1⟩ := rd_boo r1
 refine ⟨⟨x0, x1⟩, ⟨k0, k1⟩, ?_⟩
 subst e0 e1
 have key := (RepL.append p0 (RepL.append p1 (repL_nil.2 t1)))
 exact key
structure OkWord (x : VWord) : Prop where
 o_name : x.name.length ≤ 9223372036854775807
 o_xt : Fit64 x.xt
 o_flags : Fit64 x.flags
theorem rd_Word {w : World} {cs : List Value} (h : Rd w 111 cs) : ∃ x : VWord, OkWord x ∧ RepL (c0 w) (cWord x) cs := by
 have h0 := rd_all Try.underlying111 [(9, 1), (3, 1), (3, 1)] (by kernel_rfl) (by kernel_rfl) (by kernel_rfl) h
 simp only [RdAll] at h0
 obtain ⟨a0, b0, e0, _, r0, t0⟩ := h0
 obtain ⟨a1, b1, e1, _, r1, t1⟩ := t0
 obtain ⟨a2, b2, e2, _, r2, t2⟩ := t1
 obtain ⟨x0, k0, p0⟩ := rd_str r0
 obtain ⟨x1, k1, p1⟩ := rd_int64 r1
 obtain ⟨x2, k2, p2⟩ := rd_int64 r2
 refine ⟨⟨x0, x1, x2⟩, ⟨k0, k1, k2⟩, ?_⟩
 subst e0 e1 e2
 have key := (RepL.append p0 (RepL.append p1 (RepL.append p2 (repL_nil.2 t2))))
 exact key
theorem rd_Words {w : World} {cs : List Value} (h : Rd w 30 cs) : ∃ l : List VWord, ((∀ x ∈ l, OkWord x) ∧ l.length ≤ 9223372036854775807) ∧ RepL (c0 w) [sq cWord l] cs := by
 obtain ⟨l, h1, h2, h3⟩ := rd_slice_rep cWord OkWord 3 Try.underlying30 (by kernel_rfl) (by omega) (fun es h => rd_Word h) h
 exact ⟨l, ⟨h1, by unfold maxLen at h2; omega⟩, h3⟩
structure OkFrame (x : VFrame) : Prop where
 o_d : Fit64 x.d
 o_r : Fit64 x.r
 o_ip : Fit64 x.ip
theorem rd_Frame {w : World} {cs : List Value} (h : Rd w 87 cs) : ∃ x : VFrame, OkFrame x ∧ RepL (c0 w) (cFrame x) cs := by
 have h0 := rd_all Try.underlying87 [(3, 1), (3, 1), (3, 1)] (by kernel_rfl) (by kernel_rfl) (by kernel_rfl) h
 simp only [RdAll] at h0
 obtain ⟨a0, b0, e0, _, r0, t0⟩ := h0
 obtain ⟨a1, b1, e1, _, r1, t1⟩ := t0
 obtain ⟨a2, b2, e2, _, r2, t2⟩ := t1
 obtain ⟨x0, k0, p0⟩ := rd_int64 r0
 obtain ⟨x1, k1, p1⟩ := rd_int64 r1
 obtain ⟨x2, k2, p2⟩ := rd_int64 r2
 refine ⟨⟨x0, x1, x2⟩, ⟨k0, k1, k2⟩, ?_⟩
 subst e0 e1 e2
 have key := (RepL.append p0 (RepL.append p1 (RepL.append p2 (repL_nil.2 t2))))
 exact key
theorem rd_Frames {w : World} {cs : List Value} (h : Rd w 29 cs) : ∃ l : List VFrame, ((∀ x ∈ l, OkFrame x) ∧ l.length ≤ 9223372036854775807) ∧ RepL (c0 w) [sq cFrame l] cs := by
 obtain ⟨l, h1, h2, h3⟩ := rd_slice_rep cFrame OkFrame 3 Try.underlying29 (by kernel_rfl) (by omega) (fun es h => rd_Frame h) h
 exact ⟨l, ⟨h1, by unfold maxLen at h2; omega⟩, h3⟩
structure OkReq (x : VReq) : Prop where
 o_kind : Fit64 x.kind
 o_arg : Fit64 x.arg
 o_hand : Fit64 x.hand
 o_rank : Fit64 x.rank
 o_delay : Fit64 x.delay
 o_id : Fit64 x.id
theorem rd_Req {w : World} {cs : List Value} (h : Rd w 171 cs) : ∃ x : VReq, OkReq x ∧ RepL (c0 w) (cReq x) cs := by
 have h0 := rd_all Try.underlying171 [(3, 1), (3, 1), (3, 1), (3, 1), (3, 1), (3, 1)] (by kernel_rfl) (by kernel_rfl) (by kernel_rfl) h
 simp only [RdAll] at h0
 obtain ⟨a0, b0, e0, _, r0, t0⟩ := h0
 obtain ⟨a1, b1, e1, _, r1, t1⟩ := t0
 obtain ⟨a2, b2, e2, _, r2, t2⟩ := t1
 obtain ⟨a3, b3, e3, _, r3, t3⟩ := t2
 obtain ⟨a4, b4, e4, _, r4, t4⟩ := t3
 obtain ⟨a5, b5, e5, _, r5, t5⟩ := t4
 obtain ⟨x0, k0, p0⟩ := rd_int64 r0
 obtain ⟨x1, k1, p1⟩ := rd_int64 r1
 obtain ⟨x2, k2, p2⟩ := rd_int64 r2
 obtain ⟨x3, k3, p3⟩ := rd_int64 r3
 obtain ⟨x4, k4, p4⟩ := rd_int64 r4
 obtain ⟨x5, k5, p5⟩ := rd_int64 r5
 refine ⟨⟨x0, x1, x2, x3, x4, x5⟩, ⟨k0, k1, k2, k3, k4, k5⟩, ?_⟩
 subst e0 e1 e2 e3 e4 e5
 have key := (RepL.append p0 (RepL.append p1 (RepL.append p2 (RepL.append p3 (RepL.append p4 (RepL.append p5 (repL_nil.2 t5)))))))
 exact key
theorem rd_Reqs {w : World} {cs : List Value} (h : Rd w 33 cs) : ∃ l : List VReq, ((∀ x ∈ l, OkReq x) ∧ l.length ≤ 9223372036854775807) ∧ RepL (c0 w) [sq cReq l] cs := by
 obtain ⟨l, h1, h2, h3⟩ := rd_slice_rep cReq OkReq 6 Try.underlying33 (by kernel_rfl) (by omega) (fun es h => rd_Req h) h
 exact ⟨l, ⟨h1, by unfold maxLen at h2; omega⟩, h3⟩
structure OkHand (x : VHand) : Prop where
 o_xt : Fit64 x.xt
 o_fuel : Fit64 x.fuel
 o_strikes : Fit64 x.strikes
 o_out : True
theorem rd_Hand {w : World} {cs : List Value} (h : Rd w 89 cs) : ∃ x : VHand, OkHand x ∧ RepL (c0 w) (cHand x) cs := by
 have h0 := rd_all Try.underlying89 [(3, 1), (3, 1), (3, 1), (4, 1)] (by kernel_rfl) (by kernel_rfl) (by kernel_rfl) h
 simp only [RdAll] at h0
 obtain ⟨a0, b0, e0, _, r0, t0⟩ := h0
 obtain ⟨a1, b1, e1, _, r1, t1⟩ := t0
 obtain ⟨a2, b2, e2, _, r2, t2⟩ := t1
 obtain ⟨a3, b3, e3, _, r3, t3⟩ := t2
 obtain ⟨x0, k0, p0⟩ := rd_int64 r0
 obtain ⟨x1, k1, p1⟩ := rd_int64 r1
 obtain ⟨x2, k2, p2⟩ := rd_int64 r2
 obtain ⟨x3, k3, p3⟩ := rd_boo r3
 refine ⟨⟨x0, x1, x2, x3⟩, ⟨k0, k1, k2, k3⟩, ?_⟩
 subst e0 e1 e2 e3
 have key := (RepL.append p0 (RepL.append p1 (RepL.append p2 (RepL.append p3 (repL_nil.2 t3)))))
 exact key
theorem rd_Hands {w : World} {cs : List Value} (h : Rd w 34 cs) : ∃ l : List VHand, ((∀ x ∈ l, OkHand x) ∧ l.length ≤ 9223372036854775807) ∧ RepL (c0 w) [sq cHand l] cs := by
 obtain ⟨l, h1, h2, h3⟩ := rd_slice_rep cHand OkHand 4 Try.underlying34 (by kernel_rfl) (by omega) (fun es h => rd_Hand h) h
 exact ⟨l, ⟨h1, by unfold maxLen at h2; omega⟩, h3⟩
structure OkVm (x : VVm) : Prop where
 o_conf : OkConf x.conf
 o_mem : OkMem x.mem
 o_here : Fit64 x.here
 o_d : (∀ a ∈ x.d, Fit64 a) ∧ x.d.length ≤ 9223372036854775807
 o_r : (∀ a ∈ x.r, Fit64 a) ∧ x.r.length ≤ 9223372036854775807
 o_f : (∀ a ∈ x.f, OkFrame a) ∧ x.f.length ≤ 9223372036854775807
 o_dict : (∀ a ∈ x.dict, OkWord a) ∧ x.dict.length ≤ 9223372036854775807
 o_last : Fit64 x.last
 o_out : x.out.length ≤ 9223372036854775807
 o_pic : OkPic x.pic
 o_req : (∀ a ∈ x.req, OkReq a) ∧ x.req.length ≤ 9223372036854775807
 o_free : Fit64 x.free
 o_next : Fit64 x.next
 o_arg : Fit64 x.arg
 o_self : Fit64 x.self
 o_now : Fit64 x.now
 o_hand : (∀ a ∈ x.hand, OkHand a) ∧ x.hand.length ≤ 9223372036854775807
theorem rd_Vm {w : World} {cs : List Value} (h : Rd w 36 cs) : ∃ x : VVm, OkVm x ∧ RepL (c0 w) (cVm x) cs := by
 have h0 := rd_all Try.underlying36 [(23, 5), (27, 2), (3, 1), (28, 1), (28, 1), (29, 1), (30, 1), (3, 1), (24, 1), (32, 2), (33, 1), (3, 1), (3, 1), (3, 1), (3, 1), (3, 1), (34, 1)] (by kernel_rfl) (by kernel_rfl) (by kernel_rfl) h
 simp only [RdAll] at h0
 obtain ⟨a0, b0, e0, _, r0, t0⟩ := h0
 obtain ⟨a1, b1, e1, _, r1, t1⟩ := t0
 obtain ⟨a2, b2, e2, _, r2, t2⟩ := t1
 obtain ⟨a3, b3, e3, _, r3, t3⟩ := t2
 obtain ⟨a4, b4, e4, _, r4, t4⟩ := t3
 obtain ⟨a5, b5, e5, _, r5, t5⟩ := t4
 obtain ⟨a6, b6, e6, _, r6, t6⟩ := t5
 obtain ⟨a7, b7, e7, _, r7, t7⟩ := t6
 obtain ⟨a8, b8, e8, _, r8, t8⟩ := t7
 obtain ⟨a9, b9, e9, _, r9, t9⟩ := t8
 obtain ⟨a10, b10, e10, _, r10, t10⟩ := t9
 obtain ⟨a11, b11, e11, _, r11, t11⟩ := t10
 obtain ⟨a12, b12, e12, _, r12, t12⟩ := t11
 obtain ⟨a13, b13, e13, _, r13, t13⟩ := t12
 obtain ⟨a14, b14, e14, _, r14, t14⟩ := t13
 obtain ⟨a15, b15, e15, _, r15, t15⟩ := t14
 obtain ⟨a16, b16, e16, _, r16, t16⟩ := t15
 obtain ⟨x0, k0, p0⟩ := rd_Conf r0
 obtain ⟨x1, k1, p1⟩ := rd_Mem r1
 obtain ⟨x2, k2, p2⟩ := rd_int64 r2
 obtain ⟨x3, k3, p3⟩ := rd_intl r3
 obtain ⟨x4, k4, p4⟩ := rd_intl r4
 obtain ⟨x5, k5, p5⟩ := rd_Frames r5
 obtain ⟨x6, k6, p6⟩ := rd_Words r6
 obtain ⟨x7, k7, p7⟩ := rd_int64 r7
 obtain ⟨x8, k8, p8⟩ := rd_bytes r8
 obtain ⟨x9, k9, p9⟩ := rd_Pic r9
 obtain ⟨x10, k10, p10⟩ := rd_Reqs r10
 obtain ⟨x11, k11, p11⟩ := rd_int64 r11
 obtain ⟨x12, k12, p12⟩ := rd_int64 r12
 obtain ⟨x13, k13, p13⟩ := rd_int64 r13
 obtain ⟨x14, k14, p14⟩ := rd_int64 r14
 obtain ⟨x15, k15, p15⟩ := rd_int64 r15
 obtain ⟨x16, k16, p16⟩ := rd_Hands r16
 refine ⟨⟨x0, x1, x2, x3, x4, x5, x6, x7, x8, x9, x10, x11, x12, x13, x14, x15, x16⟩, ⟨k0, k1, k2, k3, k4, k5, k6, k7, k8, k9, k10, k11, k12, k13, k14, k15, k16⟩, ?_⟩
 subst e0 e1 e2 e3 e4 e5 e6 e7 e8 e9 e10 e11 e12 e13 e14 e15 e16
 have key := (RepL.append p0 (RepL.append p1 (RepL.append p2 (RepL.append p3 (RepL.append p4 (RepL.append p5 (RepL.append p6 (RepL.append p7 (RepL.append p8 (RepL.append p9 (RepL.append p10 (RepL.append p11 (RepL.append p12 (RepL.append p13 (RepL.append p14 (RepL.append p15 (RepL.append p16 (repL_nil.2 t16))))))))))))))))))
 exact key
theorem okVm_in {v : VVm} (h : OkVm v) : VIn2 v :=
 { b := h.o_mem.o_b, old := h.o_mem.o_old.2, dict := h.o_dict.2, pt := fun p hp => ⟨.inr (h.o_mem.o_old.1 p hp).o_place, (h.o_mem.o_old.1 p hp).o_old⟩, f := h.o_f.2, hand := h.o_hand.2 }
end Go.Proofs.Ytlponhgbbfgkgaa
namespace Go.Proofs.Ytlponhgbbfgkgaa
open Go.RowKit
open Go.WideShapes
set_option maxRecDepth 100000
set_option maxHeartbeats 8000000
theorem vrd_of {v : VVm} (h : OkVm v) (m : may10 v = true) : VRd v := by
 unfold may10 at m
 rw [Bool.and_eq_true] at m
 have hr := m.2
 unfold right10 rightA rightC at hr
 simp only [Bool.and_eq_true] at hr
 have hd : right9 v.dict = true := by simp_all
 have hm : memRight v.mem = true := by simp_all
 unfold right9 at hd
 rw [Bool.and_eq_true, List.all_eq_true, decide_eq_true_eq] at hd
 unfold memRight at hm
 simp only [Bool.and_eq_true, decide_eq_true_eq] at hm
 refine ⟨⟨by omega, fun w hw => ?_⟩, fun w hw => (h.o_dict.1 w hw).o_xt, by omega⟩
 have q := hd.1 w hw
 unfold wordOk at q
 rw [decide_eq_true_eq] at q
 exact ⟨(h.o_dict.1 w hw).o_name, q.2.1, q.2.2⟩
structure VMayIn where
 v : VVm
 a : List Str
 b : List Str
 cut : UInt8
def OkStrs (l : List Str) : Prop := (∀ s ∈ l, s.length ≤ 9223372036854775807) ∧ l.length ≤ 9223372036854775807
structure OkMayIn (x : VMayIn) : Prop where
 v : OkVm x.v
 a : OkStrs x.a
 b : OkStrs x.b
def cMayIn (x : VMayIn) : List PV := cVm x.v ++ ([sq cStr x.a] ++ ([sq cStr x.b] ++ cByte x.cut))
def eMayIn (x : VMayIn) : PV := .agg (cMayIn x)
theorem rd_strs {w : World} {cs : List Value} (h : Rd w 37 cs) : ∃ l : List Str, OkStrs l ∧ RepL (c0 w) [sq cStr l] cs := by
 obtain ⟨l, h1, h2, h3⟩ := rd_slice_rep cStr (fun s => s.length ≤ 9223372036854775807) 1 Try.underlying37 (by kernel_rfl) (by omega) (fun es h => rd_str h) h
 exact ⟨l, ⟨h1, by unfold maxLen at h2; omega⟩, h3⟩
theorem rd_MayIn {w : World} {cs : List Value} (h : Rd w 53 cs) : ∃ x : VMayIn, OkMayIn x ∧ RepL (c0 w) (cMayIn x) cs := by
 have h0 := rd_all Try.underlying53 [(36, 23), (37, 1), (37, 1), (5, 1)] (by kernel_rfl) (by kernel_rfl) (by kernel_rfl) h
 simp only [RdAll] at h0
 obtain ⟨a0, b0, e0, _, r0, t0⟩ := h0
 obtain ⟨a1, b1, e1, _, r1, t1⟩ := t0
 obtain ⟨a2, b2, e2, _, r2, t2⟩ := t1
 obtain ⟨a3, b3, e3, _, r3, t3⟩ := t2
 obtain ⟨x0, k0, p0⟩ := rd_Vm r0
 obtain ⟨x1, k1, p1⟩ := rd_strs r1
 obtain ⟨x2, k2, p2⟩ := rd_strs r2
 obtain ⟨x3, k3, p3⟩ := rd_byte r3
 refine ⟨⟨x0, x1, x2, x3⟩, ⟨k0, k1, k2⟩, ?_⟩
 subst e0 e1 e2 e3
 have key := RepL.append p0 (RepL.append p1 (RepL.append p2 (RepL.append p3 (repL_nil.2 t3))))
 rw [List.append_nil] at key
 exact key
theorem reads_mayin {w : World} {v : Value} (h : Reads w 53 v) : ∃ x : VMayIn, OkMayIn x ∧ Rep (c0 w) (eMayIn x) v := by
 obtain ⟨cs, h1, h2⟩ := reads_struct Try.underlying53 h
 obtain ⟨x, h3, h4⟩ := rd_MayIn h2.2
 exact ⟨x, h3, reads_agg (t := 53) ⟨cs, h1, h4⟩⟩
def fewW (l : List Str) (most : Int) : Bool := decide ((l.length : Int) ≤ most) && l.all (fun s => decide (s.length ≤ 40))
theorem law_few (l : List Str) (most : Int) (hl : l.length ≤ 9223372036854775807) : PureC Try.prog 7 [sq cStr l, i64 most] (boo (fewW l most)) := by
 refine pW tG (rs := [.tmp 4]) Try.func7 rfl rfl rfl (by simp) (by simp) (fun B => ?_)
 refine zu1 ?_
 refine Ws ?_
 refine zu4 ?_
 refine Wi rfl (fun hi1 => ?_) (fun hi1 => ?_)
 ·have hno : ¬ (l.length : Int) ≤ most := by have := oT hi1; omega
  refine zu1 ?_
  refine zR ?_
  exact congrArg boo (by rw [fewW, decide_eq_false hno]; rfl)
 ·have hyes : (l.length : Int) ≤ most := by have := oF hi1; omega
  refine Wj ?_
  refine Ws ?_
  refine zu1 ?_
  refine Wl ?_
  show W _ _ _ _ _ _ _
  refine W_loopS (fun (k : Nat) => [(0, sq cStr l), (5, i64 k)]) (fun (k : Nat) => []) (fun (k : Nat) => []) (fun (k : Nat) => k ≤ l.length ∧ (l.take k).all (fun s => decide (s.length ≤ 40)) = true) (fun (k : Nat) => l.length - k) (0) (by exact ⟨Nat.zero_le _, rfl⟩) [] ?_ ?_
  ·exact fitT
  ·intro k hk
   refine Ws ?_
   refine zu4 ?_
   refine Wi rfl (fun hi2 => ?_) (fun hi2 => ?_)
   ·have hlt : k < l.length := by have := oT hi2; omega
    refine Wj ?_
    refine Ws ?_
    refine Wl ?_
    refine zp2 ?_
    refine Wv tG rfl rfl rfl (by omega) (iN cStr 1 (fun _ => rfl) [] (by omega)) ?_
    refine zy2 ?_
    refine Wa 20 rfl (str_len _) ?_
    refine zs1 ?_
    refine Wi rfl (fun hi3 => ?_) (fun hi3 => ?_)
    ·have hn : l.all (fun s => decide (s.length ≤ 40)) = false := all_no [] hlt (decide_eq_false (by have := oT hi3; omega))
     refine zu1 ?_
     refine zR ?_
     rw [fewW, decide_eq_true hyes, hn]; rfl
    ·have hy : decide ((l.getD k []).length ≤ 40) = true := decide_eq_true (by have := oF hi3; omega)
     refine Wj ?_
     refine W_region rfl ?_
     refine zs3 ?_
     exact ⟨k + 1, [], (by exact ⟨by omega, all_snoc [] hlt hk.2 hy⟩), (by omega), fitT⟩
   ·have hge : l.length ≤ k := by have := oF hi2; omega
    have hall : l.all (fun s => decide (s.length ≤ 40)) = true := by have h1 := hk.2; rw [take_all' _ k hge] at h1; exact h1
    refine W_exit ?_
    refine zu1 ?_
    refine zR ?_
    rw [fewW, decide_eq_true hyes, hall]; rfl
end Go.Proofs.Ytlponhgbbfgkgaa
