import Derived.Test.YtphgdofmjpdhaaaGreatPk9
set_option linter.unusedVariables false
set_option linter.unusedSimpArgs false
namespace Go.Proofs.YtphgdofmjpdhaaaGreat
open Go.RowKit
set_option linter.unusedVariables false
set_option maxRecDepth 100000
def sC : VConf := ⟨2048, 32, 32, 200, 500⟩
theorem sC_fits : fitsV sC := by unfold fitsV sC; decide
def stockS (d : List Int) : VVm := { newVm sC with d := d }
theorem newB_words : (newL 167).all wordOk = true := by decide +kernel
theorem stock_right {d : List Int} (hd : d.length ≤ 32) : RightP (stockS d) := by
 have hl : (newB 2048 167).length = 2048 := newB_len _ _
 refine ⟨sC_fits, ?_, ?_, ⟨(by show (0 : Nat) ≤ 130; decide), .inr rfl⟩, ?_, (by show (1368 : Int) ≤ 1368; decide), (by show (1368 : Int) ≤ 2048; decide), rfl, rfl, ?_, (by show ((0 : Nat) : Int) ≤ 32; decide), (by show (0 : Nat) ≤ 64; decide), ?_, (by show ((0 : Nat) : Int) ≤ 500; decide), (by show (0 : Nat) ≤ 16; decide), (by show (0 : Int) ≤ 0; decide), (by show (0 : Int) ≤ 64; decide), (by show (0 : Int) ≤ 0; decide), (by show (0 : Int) ≤ 4611686018427387904; decide), (by show (0 : Nat) ≤ 64; decide)⟩
 ·show memRight ⟨newB 2048 167, []⟩ = true
  unfold memRight
  simp only [List.all_nil, Bool.true_and, hl]
  decide
 ·show right9 (newL 167) = true
  unfold right9
  rw [newB_words, newL_len]; rfl
 ·show ((newB 2048 167).length : Int) = 2048
  rw [hl]; rfl
 ·show (d.length : Int) ≤ 32
  omega
 ·show ((newL 167).length : Int) ≤ 200
  rw [newL_len]; decide
theorem stock_good {d : List Int} (hd : d.length ≤ 32) (hf : FitL d) : GoodV 0 (stockS d) :=
 ⟨(right_iff _).2 (stock_right hd), Nat.le_refl _, hf, ⟨fit_0, fit_0, fit_0⟩⟩
theorem put2_take {b : List UInt8} {a n : Nat} (h : 8 ≤ a) : (put2 b a n).take 8 = b.take 8 := by
 unfold put2
 rw [List.take_set_of_le (by omega), List.take_set_of_le h]
theorem newB_take {M : Nat} (hM : 8 ≤ M) : ∀ k, (newB M k).take 8 = [10, 0, 0, 0, 0, 0, 0, 0]
 | 0 => by
  obtain ⟨m, rfl⟩ : ∃ m, M = m + 8 := ⟨M - 8, by omega⟩
  rfl
 | k + 1 => by
  have ih := newB_take hM k
  unfold newB stepB
  simp only
  split <;> split <;> simp only [put2_take (show 8 ≤ 24 by omega), put2_take (show 8 ≤ 16 by omega), put2_take (show 8 ≤ 32 + 8 * k by omega), ih]
theorem stock_base {v : VVm} (h : v.mem = ⟨newB 2048 167, []⟩) : memFetch v.mem 0 = (10, 0) := by
 rw [h]
 have hl : (newB 2048 167).length = 2048 := newB_len _ _
 have ht := newB_take (M := 2048) (by omega) 167
 have hc : memCellAt ⟨newB 2048 167, []⟩ 0 = 0 := by
  unfold memCellAt memThere
  simp only [hl]
  decide
 unfold memFetch
 rw [hc, if_pos rfl]
 show (getC (((newB 2048 167).drop 0).take 8), 0) = _
 rw [List.drop_zero, ht]
 decide +kernel
theorem doR_ok {v : VVm} {k : Nat} {r : VVm × List Int × Int} (h0 : k ≤ v.d.length) (h1 : r.2.2 = 0) (h2 : ((v.d.length - k + r.2.1.length : Nat) : Int) ≤ v.conf.data) : doR v k r = ({ r.1 with d := v.d.take (v.d.length - k) ++ r.2.1 }, 0) := by
 unfold doR
 rw [if_neg (by omega), if_neg (by rw [h1]; simp), if_neg (by omega)]
theorem doR_bad {v : VVm} {k : Nat} {r : VVm × List Int × Int} (h0 : k ≤ v.d.length) (h1 : r.2.2 ≠ 0) : doR v k r = (v, r.2.2) := by
 unfold doR
 rw [if_neg (by omega), if_pos h1]
theorem D73 : doS (stockS [7, -2]) 73 = ({ stockS [7, -2] with d := [-1, -4] }, 0) := by
 have hk : takesS 73 (names.getD (73 : Int).toNat []) = 2 := by decide +kernel
 have hn : names.getD (73 : Int).toNat [] = [47, 77, 79, 68] := by decide +kernel
 rw [doS_deed (by decide) (by decide), hk, hn, ds_73]
 have e : pDivMod ((stockS [7, -2]).d.drop ((stockS [7, -2]).d.length - 2)) = ([-1, -4], 0) := by
  show pDivMod [7, -2] = _
  decide +kernel
 rw [e]
 exact doR_ok (by decide) rfl (by decide)
theorem D39 : doS (stockS [7, -2]) 39 = ({ stockS [7, -2] with d := [5] }, 0) := by
 have hn : names.getD (39 : Int).toNat [] = [43] := by decide +kernel
 rw [doS_deed (by decide) (by decide), hn]
 have hk : takesS 39 [43] = 2 := by decide +kernel
 rw [hk]
 have e : doneS (stockS [7, -2]) 39 [43] ((stockS [7, -2]).d.drop ((stockS [7, -2]).d.length - 2)) = (stockS [7, -2], [5], 0) := by
  show (stockS [7, -2], [(twoS [43] 7 (-2)).1], (twoS [43] 7 (-2)).2.2) = _
  have h : twoS [43] 7 (-2) = (5, true, 0) := by decide +kernel
  rw [h]
 rw [e]
 exact doR_ok (by decide) rfl (by decide)
theorem D83 : doS (stockS [7, -2]) 83 = (stockS [7, -2], -9) := by
 have hk : takesS 83 (names.getD (83 : Int).toNat []) = 1 := by decide +kernel
 have hn : names.getD (83 : Int).toNat [] = [64] := by decide +kernel
 rw [doS_deed (by decide) (by decide), hk, hn, ds_83]
 have hc : memCellAt (stockS [7, -2]).mem (-2) = -9 := by
  unfold memCellAt memThere
  rw [show decide ((8 : Int) = 0 ∨ 0 < (8 : Int) ∧ 0 ≤ (-2 : Int) ∧ (-2 : Int) + 8 ≤ (((stockS [7, -2]).mem.b.length : Nat) : Int)) = false from decide_eq_false (by omega)]
  rfl
 have hf : memFetch (stockS [7, -2]).mem (-2) = (0, -9) := by unfold memFetch; rw [hc]; rfl
 have e : pFetch (stockS [7, -2]) ((stockS [7, -2]).d.drop ((stockS [7, -2]).d.length - 1)) = (stockS [7, -2], [0], -9) := by
  show (stockS [7, -2], [(memFetch (stockS [7, -2]).mem (-2)).1], (memFetch (stockS [7, -2]).mem (-2)).2) = _
  rw [hf]
 rw [e]
 exact doR_bad (by decide) (by decide)
theorem num_dot : numberS [46] = 110 := by decide +kernel
theorem D110 : doS (stockS [7, -2]) 110 = ({ stockS [7, -2] with d := [7], out := [45, 50, 32] }, 0) := by
 have hk : takesS 110 (names.getD (110 : Int).toNat []) = 1 := by decide +kernel
 have hn : names.getD (110 : Int).toNat [] = [46] := by decide +kernel
 rw [doS_deed (by decide) (by decide), hk, hn, ds_110]
 have hb : baseS (stockS [7, -2]) = 10 := by unfold baseS; rw [stock_base rfl]
 have hs : showS (-2) 10 = ([45, 50], 0) := by decide +kernel
 have e : pPrint (stockS [7, -2]) (pDot (showS (xat ((stockS [7, -2]).d.drop ((stockS [7, -2]).d.length - 1)) 0) (baseS (stockS [7, -2])))) = ({ stockS [7, -2] with out := [45, 50, 32] }, [], 0) := by
  show pPrint (stockS [7, -2]) (pDot (showS (-2) (baseS (stockS [7, -2])))) = _
  rw [hb, hs]
  rfl
 rw [e]
 exact doR_ok (by decide) rfl (by decide)
end Go.Proofs.YtphgdofmjpdhaaaGreat
namespace Go.Proofs.YtphgdofmjpdhaaaGreat
open Go.RowKit
set_option linter.unusedVariables false
set_option maxRecDepth 100000
set_option maxHeartbeats 4000000
theorem law_stocked (d : List Int) : PureC Tryz.prog 21 [sq cInt d] (eVm (stockS d)) := by
 refine pW tG (rs := [.cell 2 36]) Tryz.func21 rfl rfl rfl (by simp) (by simp) (fun B => ?_)
 refine Ws ?_
 refine W_region rfl ?_
 refine We tG rfl rfl rfl trivial ?_
 refine Wn ?_
 refine Ws ?_
 refine W_region rfl ?_
 refine We tG rfl rfl rfl trivial ?_
 refine Wc rfl rfl (dC rfl Tryz.func44 rfl rfl ((show PureC _ _ [eConf sC] (tVm (newVm sC, 0)) from ref_New sC sC_fits) _)) ?_
 iterate 6 refine We tG rfl rfl rfl trivial ?_
 refine Wn ?_
 refine Ws ?_
 refine W_region rfl ?_
 iterate 3 refine We tG rfl rfl rfl trivial ?_
 refine Wn ?_
 refine Ws ?_
 refine W_region rfl ?_
 iterate 2 refine We tG rfl rfl rfl trivial ?_
 refine Wn ?_
 refine Wq ?_
 refine lP rfl ?_
 first | rfl | (simp_all; done) | (simp_all; omega)
theorem law_shown_of (v : VVm) (hv : VmOk v) (hs : VSm v) (h0 : PureC Tryz.prog 21 [sq cInt [7, -2]] (eVm v)) (h1 : doS v 73 = ({ v with d := [-1, -4] }, 0)) (h2 : doS v 39 = ({ v with d := [5] }, 0)) (h3 : doS v 83 = (v, -9)) (h4 : doS v 110 = ({ v with d := [7], out := [45, 50, 32] }, 0)) : PureC Tryz.prog 12 [] (boo true) := by
 have p1 := h1 ▸ prim_Do v hv 73
 have p2 := h2 ▸ prim_Do v hv 39
 have p3 := h3 ▸ prim_Do v hv 83
 have p4 := h4 ▸ prim_Do v hv 110
 have pn := num_dot ▸ ref_Number [46]
 refine pW tG (rs := [.tmp 0]) Tryz.func12 rfl rfl rfl (by simp) (by simp) (fun B => ?_)
 refine Ws ?_
 refine W_region rfl ?_
 refine We tG rfl rfl rfl trivial ?_
 refine Wn ?_
 refine Ws ?_
 refine W_region rfl ?_
 refine We tG rfl rfl rfl trivial ?_
 first | refine Wa 10 rfl (bsL cInt [_, _] rfl rfl) ?_ | skip
 refine Wc rfl rfl (dC rfl Tryz.func21 rfl rfl ((h0) _)) ?_
 iterate 2 refine We tG rfl rfl rfl trivial ?_
 refine Wn ?_
 refine Ws ?_
 refine W_region rfl ?_
 refine We tG rfl rfl rfl trivial ?_
 refine Wc rfl rfl (dC rfl Tryz.func14 rfl rfl ((p1) _)) ?_
 iterate 6 refine We tG rfl rfl rfl trivial ?_
 refine Wn ?_
 refine Ws ?_
 refine W_region rfl ?_
 refine We tG rfl rfl rfl trivial ?_
 refine Wc rfl rfl (dC rfl Tryz.func14 rfl rfl ((p2) _)) ?_
 iterate 6 refine We tG rfl rfl rfl trivial ?_
 refine Wn ?_
 refine Ws ?_
 refine W_region rfl ?_
 refine We tG rfl rfl rfl trivial ?_
 refine Wc rfl rfl (dC rfl Tryz.func14 rfl rfl ((p3) _)) ?_
 iterate 6 refine We tG rfl rfl rfl trivial ?_
 refine Wn ?_
 refine Ws ?_
 refine W_drawU [1, 0, 0, 0, 0, 0, 2, 3, 0] [0, 1, 2, 3, 4, 5, 6, 7, 8] mG rfl (by kernel_rfl) ?_
 refine Xf tG rfl rfl rfl rfl (fun _ => rfl) trivial ?_
 refine Xc rfl rfl rfl rfl (fun _ => dC rfl Tryz.func22 rfl rfl ((pn) _)) ?_
 refine Xc rfl rfl rfl rfl (fun _ => dC rfl Tryz.func14 rfl rfl ((p4) _)) ?_
 refine Xe tG rfl rfl rfl rfl (fun _ => rfl) trivial ?_
 refine Xe tG rfl rfl rfl rfl (fun _ => rfl) trivial ?_
 refine Xe tG rfl rfl rfl rfl (fun _ => rfl) trivial ?_
 refine WU_ev2 tG rfl rfl rfl rfl rfl trivial rfl ?_
 refine WU_ev3 tG rfl rfl rfl rfl rfl trivial ?_
 refine Xe tG rfl rfl rfl rfl (fun _ => rfl) trivial ?_
 refine WU_nil ?_
 refine Ws ?_
 refine W_region rfl ?_
 iterate 6 refine We tG rfl rfl rfl trivial ?_
 first | refine Wa 38 rfl (bsL cInt [_, _] rfl rfl) ?_ | skip
 refine Wc rfl rfl (dC rfl Tryz.func23 rfl rfl ((ref_Same4 [-1, -4] [-1, -4] (by simp) (by simp)) _)) ?_
 iterate 2 refine We tG rfl rfl rfl trivial ?_
 refine Wb 41 rfl (fun hg2 => ?_) (fun hg2 => ?_)
 ·refine We tG rfl rfl rfl trivial ?_
  iterate 3 refine We tG rfl rfl rfl trivial ?_
  refine Wb 45 rfl (fun hg3 => ?_) (fun hg3 => ?_)
  ·refine We tG rfl rfl rfl trivial ?_
   iterate 2 refine We tG rfl rfl rfl trivial ?_
   first | refine Wa 48 rfl (bsL cInt [_] rfl rfl) ?_ | skip
   refine Wc rfl rfl (dC rfl Tryz.func23 rfl rfl ((ref_Same4 [5] [5] (by simp) (by simp)) _)) ?_
   iterate 2 refine We tG rfl rfl rfl trivial ?_
   refine Wb 51 rfl (fun hg4 => ?_) (fun hg4 => ?_)
   ·refine We tG rfl rfl rfl trivial ?_
    iterate 3 refine We tG rfl rfl rfl trivial ?_
    refine Wb 55 rfl (fun hg5 => ?_) (fun hg5 => ?_)
    ·refine We tG rfl rfl rfl trivial ?_
     refine We tG rfl rfl rfl trivial ?_
     refine Wc rfl rfl (dC rfl Tryz.func18 rfl rfl ((ref_Same10 v v hs hs) _)) ?_
     iterate 2 refine We tG rfl rfl rfl trivial ?_
     refine Wb 60 rfl (fun hg6 => ?_) (fun hg6 => ?_)
     ·refine We tG rfl rfl rfl trivial ?_
      iterate 3 refine We tG rfl rfl rfl trivial ?_
      refine Wb 64 rfl (fun hg7 => ?_) (fun hg7 => ?_)
      ·refine We tG rfl rfl rfl trivial ?_
       refine We tG rfl rfl rfl trivial ?_
       first | refine Wd rfl rfl (does_bytes_str (lO tG rfl) rfl (lO tG rfl) rfl (lO tG rfl) rfl rfl rfl) ?_ | refine Wd rfl rfl (does_byte1_str (lO tG rfl) rfl (lO tG rfl) rfl (lO tG rfl) rfl rfl rfl) ?_
       refine We tG rfl rfl rfl trivial ?_
       refine Wa 68 rfl (str_eql _ _) ?_
       iterate 2 refine We tG rfl rfl rfl trivial ?_
       refine Wb 70 rfl (fun hg8 => ?_) (fun hg8 => ?_)
       ·refine Wc rfl rfl (dC rfl Tryz.func16 rfl rfl ((prim_Does 23) _)) ?_
        iterate 2 refine We tG rfl rfl rfl trivial ?_
        refine Wb 73 rfl (fun hg9 => ?_) (fun hg9 => ?_)
        ·refine Wc rfl rfl (dC rfl Tryz.func16 rfl rfl ((prim_Does 129) _)) ?_
         iterate 2 refine We tG rfl rfl rfl trivial ?_
         refine Wb 76 rfl (fun hg10 => ?_) (fun hg10 => ?_)
         ·refine Wc rfl rfl (dC rfl Tryz.func16 rfl rfl ((prim_Does 22) _)) ?_
          iterate 3 refine We tG rfl rfl rfl trivial ?_
          refine Wb 80 rfl (fun hg11 => ?_) (fun hg11 => ?_)
          ·refine Wc rfl rfl (dC rfl Tryz.func16 rfl rfl ((prim_Does 130) _)) ?_
           iterate 3 refine We tG rfl rfl rfl trivial ?_
           refine Wn ?_
           refine Wq ?_
           refine lP rfl ?_
           first | rfl | (simp_all; done) | (simp_all; omega)
          ·refine Wk rfl rfl ?_
           refine Wk rfl rfl ?_
           iterate 2 refine We tG rfl rfl rfl trivial ?_
           refine Wn ?_
           refine Wq ?_
           refine lP rfl ?_
           first | rfl | (simp_all; done) | (simp_all; omega)
         ·refine Wk rfl rfl ?_
          refine Wk rfl rfl ?_
          iterate 2 refine We tG rfl rfl rfl trivial ?_
          iterate 2 refine Wk rfl rfl ?_
          iterate 2 refine We tG rfl rfl rfl trivial ?_
          refine Wn ?_
          refine Wq ?_
          refine lP rfl ?_
          first | rfl | (simp_all; done) | (simp_all; omega)
        ·refine Wk rfl rfl ?_
         iterate 2 refine We tG rfl rfl rfl trivial ?_
         iterate 2 refine Wk rfl rfl ?_
         iterate 2 refine We tG rfl rfl rfl trivial ?_
         iterate 2 refine Wk rfl rfl ?_
         iterate 2 refine We tG rfl rfl rfl trivial ?_
         refine Wn ?_
         refine Wq ?_
         refine lP rfl ?_
         first | rfl | (simp_all; done) | (simp_all; omega)
       ·refine Wk rfl rfl ?_
        iterate 2 refine We tG rfl rfl rfl trivial ?_
        refine Wk rfl rfl ?_
        iterate 2 refine We tG rfl rfl rfl trivial ?_
        iterate 2 refine Wk rfl rfl ?_
        iterate 2 refine We tG rfl rfl rfl trivial ?_
        iterate 2 refine Wk rfl rfl ?_
        iterate 2 refine We tG rfl rfl rfl trivial ?_
        refine Wn ?_
        refine Wq ?_
        refine lP rfl ?_
        first | rfl | (simp_all; done) | (simp_all; omega)
      ·refine Wk rfl rfl ?_
       iterate 3 refine Wk rfl rfl ?_
       iterate 2 refine We tG rfl rfl rfl trivial ?_
       refine Wk rfl rfl ?_
       iterate 2 refine We tG rfl rfl rfl trivial ?_
       refine Wk rfl rfl ?_
       iterate 2 refine We tG rfl rfl rfl trivial ?_
       iterate 2 refine Wk rfl rfl ?_
       iterate 2 refine We tG rfl rfl rfl trivial ?_
       iterate 2 refine Wk rfl rfl ?_
       iterate 2 refine We tG rfl rfl rfl trivial ?_
       refine Wn ?_
       refine Wq ?_
       refine lP rfl ?_
       first | rfl | (simp_all; done) | (simp_all; omega)
     ·refine Wk rfl rfl ?_
      refine Wk rfl rfl ?_
      iterate 2 refine We tG rfl rfl rfl trivial ?_
      iterate 4 refine Wk rfl rfl ?_
      iterate 2 refine We tG rfl rfl rfl trivial ?_
      refine Wk rfl rfl ?_
      iterate 2 refine We tG rfl rfl rfl trivial ?_
      refine Wk rfl rfl ?_
      iterate 2 refine We tG rfl rfl rfl trivial ?_
      iterate 2 refine Wk rfl rfl ?_
      iterate 2 refine We tG rfl rfl rfl trivial ?_
      iterate 2 refine Wk rfl rfl ?_
      iterate 2 refine We tG rfl rfl rfl trivial ?_
      refine Wn ?_
      refine Wq ?_
      refine lP rfl ?_
      first | rfl | (simp_all; done) | (simp_all; omega)
    ·refine Wk rfl rfl ?_
     iterate 2 refine Wk rfl rfl ?_
     iterate 2 refine We tG rfl rfl rfl trivial ?_
     iterate 2 refine Wk rfl rfl ?_
     iterate 2 refine We tG rfl rfl rfl trivial ?_
     iterate 4 refine Wk rfl rfl ?_
     iterate 2 refine We tG rfl rfl rfl trivial ?_
     refine Wk rfl rfl ?_
     iterate 2 refine We tG rfl rfl rfl trivial ?_
     refine Wk rfl rfl ?_
     iterate 2 refine We tG rfl rfl rfl trivial ?_
     iterate 2 refine Wk rfl rfl ?_
     iterate 2 refine We tG rfl rfl rfl trivial ?_
     iterate 2 refine Wk rfl rfl ?_
     iterate 2 refine We tG rfl rfl rfl trivial ?_
     refine Wn ?_
     refine Wq ?_
     refine lP rfl ?_
     first | rfl | (simp_all; done) | (simp_all; omega)
   ·refine Wk rfl rfl ?_
    refine Wk rfl rfl ?_
    iterate 2 refine We tG rfl rfl rfl trivial ?_
    iterate 3 refine Wk rfl rfl ?_
    iterate 2 refine We tG rfl rfl rfl trivial ?_
    iterate 2 refine Wk rfl rfl ?_
    iterate 2 refine We tG rfl rfl rfl trivial ?_
    iterate 4 refine Wk rfl rfl ?_
    iterate 2 refine We tG rfl rfl rfl trivial ?_
    refine Wk rfl rfl ?_
    iterate 2 refine We tG rfl rfl rfl trivial ?_
    refine Wk rfl rfl ?_
    iterate 2 refine We tG rfl rfl rfl trivial ?_
    iterate 2 refine Wk rfl rfl ?_
    iterate 2 refine We tG rfl rfl rfl trivial ?_
    iterate 2 refine Wk rfl rfl ?_
    iterate 2 refine We tG rfl rfl rfl trivial ?_
    refine Wn ?_
    refine Wq ?_
    refine lP rfl ?_
    first | rfl | (simp_all; done) | (simp_all; omega)
  ·refine Wk rfl rfl ?_
   iterate 3 refine Wk rfl rfl ?_
   iterate 2 refine We tG rfl rfl rfl trivial ?_
   iterate 2 refine Wk rfl rfl ?_
   iterate 2 refine We tG rfl rfl rfl trivial ?_
   iterate 3 refine Wk rfl rfl ?_
   iterate 2 refine We tG rfl rfl rfl trivial ?_
   iterate 2 refine Wk rfl rfl ?_
   iterate 2 refine We tG rfl rfl rfl trivial ?_
   iterate 4 refine Wk rfl rfl ?_
   iterate 2 refine We tG rfl rfl rfl trivial ?_
   refine Wk rfl rfl ?_
   iterate 2 refine We tG rfl rfl rfl trivial ?_
   refine Wk rfl rfl ?_
   iterate 2 refine We tG rfl rfl rfl trivial ?_
   iterate 2 refine Wk rfl rfl ?_
   iterate 2 refine We tG rfl rfl rfl trivial ?_
   iterate 2 refine Wk rfl rfl ?_
   iterate 2 refine We tG rfl rfl rfl trivial ?_
   refine Wn ?_
   refine Wq ?_
   refine lP rfl ?_
   first | rfl | (simp_all; done) | (simp_all; omega)
 ·refine Wk rfl rfl ?_
  refine Wk rfl rfl ?_
  iterate 2 refine We tG rfl rfl rfl trivial ?_
  iterate 4 refine Wk rfl rfl ?_
  iterate 2 refine We tG rfl rfl rfl trivial ?_
  iterate 2 refine Wk rfl rfl ?_
  iterate 2 refine We tG rfl rfl rfl trivial ?_
  iterate 3 refine Wk rfl rfl ?_
  iterate 2 refine We tG rfl rfl rfl trivial ?_
  iterate 2 refine Wk rfl rfl ?_
  iterate 2 refine We tG rfl rfl rfl trivial ?_
  iterate 4 refine Wk rfl rfl ?_
  iterate 2 refine We tG rfl rfl rfl trivial ?_
  refine Wk rfl rfl ?_
  iterate 2 refine We tG rfl rfl rfl trivial ?_
  refine Wk rfl rfl ?_
  iterate 2 refine We tG rfl rfl rfl trivial ?_
  iterate 2 refine Wk rfl rfl ?_
  iterate 2 refine We tG rfl rfl rfl trivial ?_
  iterate 2 refine Wk rfl rfl ?_
  iterate 2 refine We tG rfl rfl rfl trivial ?_
  refine Wn ?_
  refine Wq ?_
  refine lP rfl ?_
  first | rfl | (simp_all; done) | (simp_all; omega)
theorem law_shown : PureC Tryz.prog 12 [] (boo true) := by
 have hg : GoodV 0 (stockS [7, -2]) := stock_good (by decide) (fun a ha => by simp at ha; rcases ha with rfl | rfl <;> unfold Fit64 <;> omega)
 have R := (right_iff _).1 hg.right
 refine law_shown_of (stockS [7, -2]) (good_ok hg (by decide)) ?_ (law_stocked _) D73 D39 D83 D110
 have a1 := R.r
 have a2 := R.fl
 have a3 := R.dl
 have a4 := R.handl
 have b1 : (stockS [7, -2]).conf.ret = 32 := rfl
 have b2 : (stockS [7, -2]).conf.words = 200 := rfl
 exact ⟨by decide, by decide, by omega, by omega, by omega, by decide, by omega⟩
end Go.Proofs.YtphgdofmjpdhaaaGreat
namespace Go.Proofs.YtphgdofmjpdhaaaGreat
open Go.RowKit
set_option linter.unusedVariables false
set_option maxRecDepth 100000
theorem wf_fit {n : Int} (h : (Lit.int .i64 n).wf = true) : Fit64 n := fit_wf h
theorem rd_int64 {w : World} {cs : List Value} (h : Rd w 3 cs) : ∃ n, Fit64 n ∧ RepL (c0 w) [i64 n] cs := by
 obtain ⟨n, h1, h2⟩ := rd_int_rep Tryz.underlying3 h
 exact ⟨n, wf_fit h1, h2⟩
theorem rd_byte {w : World} {cs : List Value} (h : Rd w 5 cs) : ∃ b : UInt8, True ∧ RepL (c0 w) (cByte b) cs := by
 obtain ⟨n, h1, h2⟩ := rd_int_rep Tryz.underlying5 h
 have h3 := byte_wf h1
 refine ⟨UInt8.ofNat n.toNat, trivial, ?_⟩
 have e : ((UInt8.ofNat n.toNat).toNat : Int) = n := by rw [UInt8.toNat_ofNat']; omega
 unfold cByte
 rw [e]; exact h2
theorem str_size' (s : ByteArray) : s.size = s.data.toList.length := by show s.data.size = _; simp
theorem rd_str {w : World} {cs : List Value} (h : Rd w 9 cs) : ∃ s : Str, s.length ≤ 9223372036854775807 ∧ RepL (c0 w) [str s] cs := by
 obtain ⟨s, h1, h2⟩ := rd_string_rep Tryz.underlying9 h
 refine ⟨s.data.toList, by unfold maxLen at h1; have : s.size = s.data.toList.length := (str_size' s); omega, ?_⟩
 rw [← str_of]; exact h2
theorem rd_boo {w : World} {cs : List Value} (h : Rd w 4 cs) : ∃ b : Bool, True ∧ RepL (c0 w) [boo b] cs := by
 obtain ⟨b, h1⟩ := rd_bool_rep Tryz.underlying4 h
 exact ⟨b, trivial, h1⟩
theorem rd_bytes {w : World} {cs : List Value} (h : Rd w 24 cs) : ∃ l : List UInt8, l.length ≤ 9223372036854775807 ∧ RepL (c0 w) [sq cByte l] cs := by
 obtain ⟨l, _, h2, h3⟩ := rd_slice_rep cByte (fun _ => True) 1 Tryz.underlying24 (by kernel_rfl) (by omega) (fun es h => rd_byte h) h
 exact ⟨l, by unfold maxLen at h2; omega, h3⟩
theorem rd_intl {w : World} {cs : List Value} (h : Rd w 28 cs) : ∃ l : List Int, ((∀ x ∈ l, Fit64 x) ∧ l.length ≤ 9223372036854775807) ∧ RepL (c0 w) [sq cInt l] cs := by
 obtain ⟨l, h1, h2, h3⟩ := rd_slice_rep cInt Fit64 1 Tryz.underlying28 (by kernel_rfl) (by omega) (fun es h => rd_int64 h) h
 exact ⟨l, ⟨h1, by unfold maxLen at h2; omega⟩, h3⟩
structure OkConf (x : VConf) : Prop where
 o_mem : Fit64 x.mem
 o_data : Fit64 x.data
 o_ret : Fit64 x.ret
 o_words : Fit64 x.words
 o_out : Fit64 x.out
theorem rd_Conf {w : World} {cs : List Value} (h : Rd w 23 cs) : ∃ x : VConf, OkConf x ∧ RepL (c0 w) (cConf x) cs := by
 have h0 := rd_all Tryz.underlying23 [(3, 1), (3, 1), (3, 1), (3, 1), (3, 1)] (by kernel_rfl) (by kernel_rfl) (by kernel_rfl) h
 simp only [RdAll] at h0
 obtain ⟨a0, b0, e0, _, r0, t0⟩ := h0
 obtain ⟨a1, b1, e1, _, r1, t1⟩ := t0
 obtain ⟨a2, b2, e2, _, r2, t2⟩ := t1
 obtain ⟨a3, b3, e3, _, r3, t3⟩ := t2
 obtain ⟨a4, b4, e4, _, r4, t4⟩ := t3
 obtain ⟨x0, k0, p0⟩ := rd_int64 r0
 obtain ⟨x1, k1, p1⟩ := rd_int64 r1
 obtain ⟨x2, k2, p2⟩ := rd_int64 r2
 obtain ⟨x3, k3, p3⟩ := rd_int64 r3
 obtain ⟨x4, k4, p4⟩ := rd_int64 r4
 refine ⟨⟨x0, x1, x2, x3, x4⟩, ⟨k0, k1, k2, k3, k4⟩, ?_⟩
 subst e0 e1 e2 e3 e4
 have key := (RepL.append p0 (RepL.append p1 (RepL.append p2 (RepL.append p3 (RepL.append p4 (repL_nil.2 t4))))))
 exact key
structure OkPatch (x : VPatch) : Prop where
 o_place : Fit64 x.place
 o_old : x.old.length ≤ 9223372036854775807
theorem rd_Patch {w : World} {cs : List Value} (h : Rd w 138 cs) : ∃ x : VPatch, OkPatch x ∧ RepL (c0 w) (cPatch x) cs := by
 have h0 := rd_all Tryz.underlying138 [(3, 1), (24, 1)] (by kernel_rfl) (by kernel_rfl) (by kernel_rfl) h
 simp only [RdAll] at h0
 obtain ⟨a0, b0, e0, _, r0, t0⟩ := h0
 obtain ⟨a1, b1, e1, _, r1, t1⟩ := t0
 obtain ⟨x0, k0, p0⟩ := rd_int64 r0
 obtain ⟨x1, k1, p1⟩ := rd_bytes r1
 refine ⟨⟨x0, x1⟩, ⟨k0, k1⟩, ?_⟩
 subst e0 e1
 have key := (RepL.append p0 (RepL.append p1 (repL_nil.2 t1)))
 exact key
theorem rd_Patchs {w : World} {cs : List Value} (h : Rd w 25 cs) : ∃ l : List VPatch, ((∀ x ∈ l, OkPatch x) ∧ l.length ≤ 9223372036854775807) ∧ RepL (c0 w) [sq cPatch l] cs := by
 obtain ⟨l, h1, h2, h3⟩ := rd_slice_rep cPatch OkPatch 2 Tryz.underlying25 (by kernel_rfl) (by omega) (fun es h => rd_Patch h) h
 exact ⟨l, ⟨h1, by unfold maxLen at h2; omega⟩, h3⟩
structure OkMem (x : VMem) : Prop where
 o_b : x.b.length ≤ 9223372036854775807
 o_old : (∀ a ∈ x.old, OkPatch a) ∧ x.old.length ≤ 9223372036854775807
theorem rd_Mem {w : World} {cs : List Value} (h : Rd w 27 cs) : ∃ x : VMem, OkMem x ∧ RepL (c0 w) (cMem x) cs := by
 have h0 := rd_all Tryz.underlying27 [(24, 1), (25, 1)] (by kernel_rfl) (by kernel_rfl) (by kernel_rfl) h
 simp only [RdAll] at h0
 obtain ⟨a0, b0, e0, _, r0, t0⟩ := h0
 obtain ⟨a1, b1, e1, _, r1, t1⟩ := t0
 obtain ⟨x0, k0, p0⟩ := rd_bytes r0
 obtain ⟨x1, k1, p1⟩ := rd_Patchs r1
 refine ⟨⟨x0, x1⟩, ⟨k0, k1⟩, ?_⟩
 subst e0 e1
 have key := (RepL.append p0 (RepL.append p1 (repL_nil.2 t1)))
 exact key
structure OkPic (x : VPic) : Prop where
 o_b : x.b.length ≤ 9223372036854775807
 o_on : True
theorem rd_Pic {w : World} {cs : List Value} (h : Rd w 32 cs) : ∃ x : VPic, OkPic x ∧ RepL (c0 w) (cPic x) cs := by
 have h0 := rd_all Tryz.underlying32 [(24, 1), (4, 1)] (by kernel_rfl) (by kernel_rfl) (by kernel_rfl) h
 simp only [RdAll] at h0
 obtain ⟨a0, b0, e0, _, r0, t0⟩ := h0
 obtain ⟨a1, b1, e1, _, r1, t1⟩ := t0
 obtain ⟨x0, k0, p0⟩ := rd_bytes r0
 obtain ⟨x1, k1, p1⟩ := rd_boo r1
 refine ⟨⟨x0, x1⟩, ⟨k0, k1⟩, ?_⟩
 subst e0 e1
 have key := (RepL.append p0 (RepL.append p1 (repL_nil.2 t1)))
 exact key
structure OkWord (x : VWord) : Prop where
 o_name : x.name.length ≤ 9223372036854775807
 o_xt : Fit64 x.xt
 o_flags : Fit64 x.flags
theorem rd_Word {w : World} {cs : List Value} (h : Rd w 140 cs) : ∃ x : VWord, OkWord x ∧ RepL (c0 w) (cWord x) cs := by
 have h0 := rd_all Tryz.underlying140 [(9, 1), (3, 1), (3, 1)] (by kernel_rfl) (by kernel_rfl) (by kernel_rfl) h
 simp only [RdAll] at h0
 obtain ⟨a0, b0, e0, _, r0, t0⟩ := h0
 obtain ⟨a1, b1, e1, _, r1, t1⟩ := t0
 obtain ⟨a2, b2, e2, _, r2, t2⟩ := t1
 obtain ⟨x0, k0, p0⟩ := rd_str r0
 obtain ⟨x1, k1, p1⟩ := rd_int64 r1
 obtain ⟨x2, k2, p2⟩ := rd_int64 r2
 refine ⟨⟨x0, x1, x2⟩, ⟨k0, k1, k2⟩, ?_⟩
 subst e0 e1 e2
 have key := (RepL.append p0 (RepL.append p1 (RepL.append p2 (repL_nil.2 t2))))
 exact key
theorem rd_Words {w : World} {cs : List Value} (h : Rd w 30 cs) : ∃ l : List VWord, ((∀ x ∈ l, OkWord x) ∧ l.length ≤ 9223372036854775807) ∧ RepL (c0 w) [sq cWord l] cs := by
 obtain ⟨l, h1, h2, h3⟩ := rd_slice_rep cWord OkWord 3 Tryz.underlying30 (by kernel_rfl) (by omega) (fun es h => rd_Word h) h
 exact ⟨l, ⟨h1, by unfold maxLen at h2; omega⟩, h3⟩
structure OkFrame (x : VFrame) : Prop where
 o_d : Fit64 x.d
 o_r : Fit64 x.r
 o_ip : Fit64 x.ip
theorem rd_Frame {w : World} {cs : List Value} (h : Rd w 97 cs) : ∃ x : VFrame, OkFrame x ∧ RepL (c0 w) (cFrame x) cs := by
 have h0 := rd_all Tryz.underlying97 [(3, 1), (3, 1), (3, 1)] (by kernel_rfl) (by kernel_rfl) (by kernel_rfl) h
 simp only [RdAll] at h0
 obtain ⟨a0, b0, e0, _, r0, t0⟩ := h0
 obtain ⟨a1, b1, e1, _, r1, t1⟩ := t0
 obtain ⟨a2, b2, e2, _, r2, t2⟩ := t1
 obtain ⟨x0, k0, p0⟩ := rd_int64 r0
 obtain ⟨x1, k1, p1⟩ := rd_int64 r1
 obtain ⟨x2, k2, p2⟩ := rd_int64 r2
 refine ⟨⟨x0, x1, x2⟩, ⟨k0, k1, k2⟩, ?_⟩
 subst e0 e1 e2
 have key := (RepL.append p0 (RepL.append p1 (RepL.append p2 (repL_nil.2 t2))))
 exact key
theorem rd_Frames {w : World} {cs : List Value} (h : Rd w 29 cs) : ∃ l : List VFrame, ((∀ x ∈ l, OkFrame x) ∧ l.length ≤ 9223372036854775807) ∧ RepL (c0 w) [sq cFrame l] cs := by
 obtain ⟨l, h1, h2, h3⟩ := rd_slice_rep cFrame OkFrame 3 Tryz.underlying29 (by kernel_rfl) (by omega) (fun es h => rd_Frame h) h
 exact ⟨l, ⟨h1, by unfold maxLen at h2; omega⟩, h3⟩
structure OkReq (x : VReq) : Prop where
 o_kind : Fit64 x.kind
 o_arg : Fit64 x.arg
 o_hand : Fit64 x.hand
 o_rank : Fit64 x.rank
 o_delay : Fit64 x.delay
 o_id : Fit64 x.id
theorem rd_Req {w : World} {cs : List Value} (h : Rd w 61 cs) : ∃ x : VReq, OkReq x ∧ RepL (c0 w) (cReq x) cs := by
 have h0 := rd_all Tryz.underlying61 [(3, 1), (3, 1), (3, 1), (3, 1), (3, 1), (3, 1)] (by kernel_rfl) (by kernel_rfl) (by kernel_rfl) h
 simp only [RdAll] at h0
 obtain ⟨a0, b0, e0, _, r0, t0⟩ := h0
 obtain ⟨a1, b1, e1, _, r1, t1⟩ := t0
 obtain ⟨a2, b2, e2, _, r2, t2⟩ := t1
 obtain ⟨a3, b3, e3, _, r3, t3⟩ := t2
 obtain ⟨a4, b4, e4, _, r4, t4⟩ := t3
 obtain ⟨a5, b5, e5, _, r5, t5⟩ := t4
 obtain ⟨x0, k0, p0⟩ := rd_int64 r0
 obtain ⟨x1, k1, p1⟩ := rd_int64 r1
 obtain ⟨x2, k2, p2⟩ := rd_int64 r2
 obtain ⟨x3, k3, p3⟩ := rd_int64 r3
 obtain ⟨x4, k4, p4⟩ := rd_int64 r4
 obtain ⟨x5, k5, p5⟩ := rd_int64 r5
 refine ⟨⟨x0, x1, x2, x3, x4, x5⟩, ⟨k0, k1, k2, k3, k4, k5⟩, ?_⟩
 subst e0 e1 e2 e3 e4 e5
 have key := (RepL.append p0 (RepL.append p1 (RepL.append p2 (RepL.append p3 (RepL.append p4 (RepL.append p5 (repL_nil.2 t5)))))))
 exact key
theorem rd_Reqs {w : World} {cs : List Value} (h : Rd w 33 cs) : ∃ l : List VReq, ((∀ x ∈ l, OkReq x) ∧ l.length ≤ 9223372036854775807) ∧ RepL (c0 w) [sq cReq l] cs := by
 obtain ⟨l, h1, h2, h3⟩ := rd_slice_rep cReq OkReq 6 Tryz.underlying33 (by kernel_rfl) (by omega) (fun es h => rd_Req h) h
 exact ⟨l, ⟨h1, by unfold maxLen at h2; omega⟩, h3⟩
structure OkHand (x : VHand) : Prop where
 o_xt : Fit64 x.xt
 o_fuel : Fit64 x.fuel
 o_strikes : Fit64 x.strikes
 o_out : True
theorem rd_Hand {w : World} {cs : List Value} (h : Rd w 99 cs) : ∃ x : VHand, OkHand x ∧ RepL (c0 w) (cHand x) cs := by
 have h0 := rd_all Tryz.underlying99 [(3, 1), (3, 1), (3, 1), (4, 1)] (by kernel_rfl) (by kernel_rfl) (by kernel_rfl) h
 simp only [RdAll] at h0
 obtain ⟨a0, b0, e0, _, r0, t0⟩ := h0
 obtain ⟨a1, b1, e1, _, r1, t1⟩ := t0
 obtain ⟨a2, b2, e2, _, r2, t2⟩ := t1
 obtain ⟨a3, b3, e3, _, r3, t3⟩ := t2
 obtain ⟨x0, k0, p0⟩ := rd_int64 r0
 obtain ⟨x1, k1, p1⟩ := rd_int64 r1
 obtain ⟨x2, k2, p2⟩ := rd_int64 r2
 obtain ⟨x3, k3, p3⟩ := rd_boo r3
 refine ⟨⟨x0, x1, x2, x3⟩, ⟨k0, k1, k2, k3⟩, ?_⟩
 subst e0 e1 e2 e3
 have key := (RepL.append p0 (RepL.append p1 (RepL.append p2 (RepL.append p3 (repL_nil.2 t3)))))
 exact key
theorem rd_Hands {w : World} {cs : List Value} (h : Rd w 34 cs) : ∃ l : List VHand, ((∀ x ∈ l, OkHand x) ∧ l.length ≤ 9223372036854775807) ∧ RepL (c0 w) [sq cHand l] cs := by
 obtain ⟨l, h1, h2, h3⟩ := rd_slice_rep cHand OkHand 4 Tryz.underlying34 (by kernel_rfl) (by omega) (fun es h => rd_Hand h) h
 exact ⟨l, ⟨h1, by unfold maxLen at h2; omega⟩, h3⟩
structure OkVm (x : VVm) : Prop where
 o_conf : OkConf x.conf
 o_mem : OkMem x.mem
 o_here : Fit64 x.here
 o_d : (∀ a ∈ x.d, Fit64 a) ∧ x.d.length ≤ 9223372036854775807
 o_r : (∀ a ∈ x.r, Fit64 a) ∧ x.r.length ≤ 9223372036854775807
 o_f : (∀ a ∈ x.f, OkFrame a) ∧ x.f.length ≤ 9223372036854775807
 o_dict : (∀ a ∈ x.dict, OkWord a) ∧ x.dict.length ≤ 9223372036854775807
 o_last : Fit64 x.last
 o_out : x.out.length ≤ 9223372036854775807
 o_pic : OkPic x.pic
 o_req : (∀ a ∈ x.req, OkReq a) ∧ x.req.length ≤ 9223372036854775807
 o_free : Fit64 x.free
 o_next : Fit64 x.next
 o_arg : Fit64 x.arg
 o_self : Fit64 x.self
 o_now : Fit64 x.now
 o_hand : (∀ a ∈ x.hand, OkHand a) ∧ x.hand.length ≤ 9223372036854775807
theorem rd_Vm {w : World} {cs : List Value} (h : Rd w 36 cs) : ∃ x : VVm, OkVm x ∧ RepL (c0 w) (cVm x) cs := by
 have h0 := rd_all Tryz.underlying36 [(23, 5), (27, 2), (3, 1), (28, 1), (28, 1), (29, 1), (30, 1), (3, 1), (24, 1), (32, 2), (33, 1), (3, 1), (3, 1), (3, 1), (3, 1), (3, 1), (34, 1)] (by kernel_rfl) (by kernel_rfl) (by kernel_rfl) h
 simp only [RdAll] at h0
 obtain ⟨a0, b0, e0, _, r0, t0⟩ := h0
 obtain ⟨a1, b1, e1, _, r1, t1⟩ := t0
 obtain ⟨a2, b2, e2, _, r2, t2⟩ := t1
 obtain ⟨a3, b3, e3, _, r3, t3⟩ := t2
 obtain ⟨a4, b4, e4, _, r4, t4⟩ := t3
 obtain ⟨a5, b5, e5, _, r5, t5⟩ := t4
 obtain ⟨a6, b6, e6, _, r6, t6⟩ := t5
 obtain ⟨a7, b7, e7, _, r7, t7⟩ := t6
 obtain ⟨a8, b8, e8, _, r8, t8⟩ := t7
 obtain ⟨a9, b9, e9, _, r9, t9⟩ := t8
 obtain ⟨a10, b10, e10, _, r10, t10⟩ := t9
 obtain ⟨a11, b11, e11, _, r11, t11⟩ := t10
 obtain ⟨a12, b12, e12, _, r12, t12⟩ := t11
 obtain ⟨a13, b13, e13, _, r13, t13⟩ := t12
 obtain ⟨a14, b14, e14, _, r14, t14⟩ := t13
 obtain ⟨a15, b15, e15, _, r15, t15⟩ := t14
 obtain ⟨a16, b16, e16, _, r16, t16⟩ := t15
 obtain ⟨x0, k0, p0⟩ := rd_Conf r0
 obtain ⟨x1, k1, p1⟩ := rd_Mem r1
 obtain ⟨x2, k2, p2⟩ := rd_int64 r2
 obtain ⟨x3, k3, p3⟩ := rd_intl r3
 obtain ⟨x4, k4, p4⟩ := rd_intl r4
 obtain ⟨x5, k5, p5⟩ := rd_Frames r5
 obtain ⟨x6, k6, p6⟩ := rd_Words r6
 obtain ⟨x7, k7, p7⟩ := rd_int64 r7
 obtain ⟨x8, k8, p8⟩ := rd_bytes r8
 obtain ⟨x9, k9, p9⟩ := rd_Pic r9
 obtain ⟨x10, k10, p10⟩ := rd_Reqs r10
 obtain ⟨x11, k11, p11⟩ := rd_int64 r11
 obtain ⟨x12, k12, p12⟩ := rd_int64 r12
 obtain ⟨x13, k13, p13⟩ := rd_int64 r13
 obtain ⟨x14, k14, p14⟩ := rd_int64 r14
 obtain ⟨x15, k15, p15⟩ := rd_int64 r15
 obtain ⟨x16, k16, p16⟩ := rd_Hands r16
 refine ⟨⟨x0, x1, x2, x3, x4, x5, x6, x7, x8, x9, x10, x11, x12, x13, x14, x15, x16⟩, ⟨k0, k1, k2, k3, k4, k5, k6, k7, k8, k9, k10, k11, k12, k13, k14, k15, k16⟩, ?_⟩
 subst e0 e1 e2 e3 e4 e5 e6 e7 e8 e9 e10 e11 e12 e13 e14 e15 e16
 have key := (RepL.append p0 (RepL.append p1 (RepL.append p2 (RepL.append p3 (RepL.append p4 (RepL.append p5 (RepL.append p6 (RepL.append p7 (RepL.append p8 (RepL.append p9 (RepL.append p10 (RepL.append p11 (RepL.append p12 (RepL.append p13 (RepL.append p14 (RepL.append p15 (RepL.append p16 (repL_nil.2 t16))))))))))))))))))
 exact key
theorem okVm_in {v : VVm} (h : OkVm v) : VIn2 v :=
 { b := h.o_mem.o_b, old := h.o_mem.o_old.2, dict := h.o_dict.2, pt := fun p hp => ⟨.inr (h.o_mem.o_old.1 p hp).o_place, (h.o_mem.o_old.1 p hp).o_old⟩, f := h.o_f.2, hand := h.o_hand.2 }
theorem reads_vm {w : World} {v : Value} (h : Reads w 36 v) : ∃ x : VVm, OkVm x ∧ Rep (c0 w) (eVm x) v := by
 obtain ⟨cs, h1, h2⟩ := reads_struct Tryz.underlying36 h
 obtain ⟨x, h3, h4⟩ := rd_Vm h2.2
 exact ⟨x, h3, reads_agg (t := 36) ⟨cs, h1, h4⟩⟩
theorem reads_i64 {w : World} {v : Value} (h : Reads w 3 v) : ∃ n, Fit64 n ∧ Rep (c0 w) (i64 n) v := by
 obtain ⟨n, rfl, h2⟩ := reads_int Tryz.underlying3 h
 exact ⟨n, wf_fit h2, by unfold i64; exact rep_val _ _⟩
end Go.Proofs.YtphgdofmjpdhaaaGreat
namespace Go.Proofs.YtphgdofmjpdhaaaGreat
open Go.RowKit
set_option linter.unusedVariables false
set_option maxRecDepth 100000
set_option maxHeartbeats 4000000
theorem right_sm {v : VVm} (R : RightP v) (h : v.mem.old.length ≤ 1000000) : VSm v := by
 have hc := R.fits
 unfold fitsV at hc
 have a0 := R.d
 have a1 := R.r
 have a2 := R.fl
 have a3 := R.dl
 have a4 := R.req
 have a5 := R.handl
 exact ⟨h, by omega, by omega, by omega, by omega, by omega, by omega⟩
theorem right_in {v : VVm} (R : RightP v) (h : v.mem.old.length ≤ 1000000) : VIn2 v := by
 have hc := R.fits
 unfold fitsV at hc
 have a1 := R.len
 have a2 := R.fl
 have a3 := R.dl
 have a5 := R.handl
 refine { b := by omega, old := by omega, dict := by omega, pt := ?_, f := by omega, hand := by omega }
 intro p hp
 have hm := R.mem
 unfold memRight at hm
 rw [Bool.and_eq_true, List.all_eq_true] at hm
 have := hm.1 p hp
 unfold memThere at this
 rw [decide_eq_true_eq] at this
 unfold Fit64
 omega
theorem may_good {v : VVm} (hv : OkVm v) (h : may10 v = true) : GoodV 60 v := by
 unfold may10 at h
 rw [Bool.and_eq_true] at h
 refine ⟨h.2, ?_, hv.o_d.1, hv.o_arg, hv.o_self, hv.o_now⟩
 have h1 := h.1
 unfold few10 few3 at h1
 simp only [Bool.and_eq_true, decide_eq_true_eq] at h1
 exact h1.1.1.2
theorem law_stays_of (hsh : PureC Tryz.prog 12 [] (boo true)) (v r1 : VVm) (r2 n : Int) (hv : VIn2 v) (hd : may10 v = true → PureC Tryz.prog 14 [eVm v, i64 n] (tVm (r1, r2)))
  (he : may10 v = true → r2 ≠ 0 → r1 = v) (hg : may10 v = true → RightP r1 ∧ r1.mem.old.length ≤ 62) (hsame : may10 v = true → reset v r1 = v) (hvs : may10 v = true → VSm v) : PureC Tryz.prog 5 [eVm v, i64 n] (boo true) := by
 refine pW tG (rs := [.tmp 4]) Tryz.func5 rfl rfl rfl (by simp) (by simp) (fun B => ?_)
 refine Ws ?_
 refine W_region rfl ?_
 iterate 2 refine We tG rfl rfl rfl trivial ?_
 refine Wn ?_
 refine Ws ?_
 refine W_region rfl ?_
 refine Wc rfl rfl (dC rfl Tryz.func12 rfl rfl ((hsh) _)) ?_
 refine We tG rfl rfl rfl trivial ?_
 refine Wn ?_
 iterate 2 refine Ws ?_
 refine W_region rfl ?_
 refine We tG rfl rfl rfl trivial ?_
 refine Wc rfl rfl (dC rfl Tryz.func13 rfl rfl ((ref_May10 v hv) _)) ?_
 refine We tG rfl rfl rfl trivial ?_
 refine Wn ?_
 refine Wi rfl (fun hi1 => ?_) (fun hi1 => ?_)
 ·refine Ws ?_
  refine W_region rfl ?_
  iterate 2 refine We tG rfl rfl rfl trivial ?_
  refine Wn ?_
  refine Wq ?_
  refine lP rfl ?_
  first | rfl | (simp_all; done) | (simp_all; omega)
 ·have hm : may10 v = true := not_f hi1
  have hR := hg hm
  have hvs := hvs hm
  have hrs := right_sm hR.1 (by omega)
  have hr1 := (right_iff _).2 hR.1
  have pr : PureC Tryz.prog 19 [eVm r1] (boo true) := by have := ref_Right10 r1 (right_in hR.1 (by omega)); rw [hr1] at this; exact this
  have ps : PureC Tryz.prog 18 [eVm (reset v r1), eVm v] (boo true) := by have := ref_Same10 v v hvs hvs; rw [decide_eq_true rfl] at this; rw [hsame hm]; exact this
  refine Wj ?_
  refine Ws ?_
  refine W_region rfl ?_
  iterate 2 refine We tG rfl rfl rfl trivial ?_
  refine Wc rfl rfl (dC rfl Tryz.func14 rfl rfl ((hd hm) _)) ?_
  iterate 6 refine We tG rfl rfl rfl trivial ?_
  refine Wn ?_
  iterate 2 refine Ws ?_
  refine W_region rfl ?_
  iterate 3 refine We tG rfl rfl rfl trivial ?_
  refine Wb 22 rfl (fun hg1 => ?_) (fun hg1 => ?_)
  ·have hn : r2 ≠ 0 := by intro h; rw [h] at hg1; simp at hg1
   have pt : PureC Tryz.prog 18 [eVm r1, eVm v] (boo true) := by have := ref_Same10 r1 v hrs hvs; rw [decide_eq_true (he hm hn)] at this; exact this
   iterate 2 refine We tG rfl rfl rfl trivial ?_
   refine Wc rfl rfl (dC rfl Tryz.func18 rfl rfl ((pt) _)) ?_
   iterate 3 refine We tG rfl rfl rfl trivial ?_
   refine WO_false 28 rfl (by rfl) ?_
   refine We tG rfl rfl rfl trivial ?_
   refine Wc rfl rfl (dC rfl Tryz.func19 rfl rfl ((pr) _)) ?_
   iterate 2 refine We tG rfl rfl rfl trivial ?_
   refine Wn ?_
   refine Wf rfl (by rfl) ?_
   refine Wj ?_
   refine Ws ?_
   refine W_region rfl ?_
   iterate 3 refine We tG rfl rfl rfl trivial ?_
   refine Wn ?_
   refine Ws ?_
   refine W_region rfl ?_
   iterate 4 refine We tG rfl rfl rfl trivial ?_
   refine Wn ?_
   refine Ws ?_
   refine W_region rfl ?_
   iterate 4 refine We tG rfl rfl rfl trivial ?_
   refine Wn ?_
   refine Ws ?_
   refine W_region rfl ?_
   iterate 4 refine We tG rfl rfl rfl trivial ?_
   refine Wn ?_
   refine Ws ?_
   refine W_region rfl ?_
   iterate 4 refine We tG rfl rfl rfl trivial ?_
   refine Wn ?_
   refine Ws ?_
   refine W_region rfl ?_
   iterate 4 refine We tG rfl rfl rfl trivial ?_
   refine Wn ?_
   refine Ws ?_
   refine W_region rfl ?_
   iterate 4 refine We tG rfl rfl rfl trivial ?_
   refine Wn ?_
   refine Ws ?_
   refine W_region rfl ?_
   iterate 4 refine We tG rfl rfl rfl trivial ?_
   refine Wn ?_
   refine Ws ?_
   refine W_region rfl ?_
   iterate 4 refine We tG rfl rfl rfl trivial ?_
   refine Wn ?_
   refine Ws ?_
   refine W_region rfl ?_
   iterate 2 refine We tG rfl rfl rfl trivial ?_
   refine WO_true 59 rfl (by rfl) ?_
   iterate 2 refine We tG rfl rfl rfl trivial ?_
   refine Wc rfl rfl (dC rfl Tryz.func18 rfl rfl ((ps) _)) ?_
   iterate 2 refine We tG rfl rfl rfl trivial ?_
   refine Wn ?_
   refine Wq ?_
   refine lP rfl ?_
   first | rfl | (simp_all; done) | (simp_all; omega)
  ·refine Wk rfl rfl ?_
   iterate 3 refine Wk rfl rfl ?_
   iterate 3 refine We tG rfl rfl rfl trivial ?_
   refine Wc rfl rfl (dC rfl Tryz.func19 rfl rfl ((pr) _)) ?_
   iterate 2 refine We tG rfl rfl rfl trivial ?_
   refine Wn ?_
   refine Wf rfl (by rfl) ?_
   refine Wj ?_
   refine Ws ?_
   refine W_region rfl ?_
   iterate 3 refine We tG rfl rfl rfl trivial ?_
   refine Wn ?_
   refine Ws ?_
   refine W_region rfl ?_
   iterate 4 refine We tG rfl rfl rfl trivial ?_
   refine Wn ?_
   refine Ws ?_
   refine W_region rfl ?_
   iterate 4 refine We tG rfl rfl rfl trivial ?_
   refine Wn ?_
   refine Ws ?_
   refine W_region rfl ?_
   iterate 4 refine We tG rfl rfl rfl trivial ?_
   refine Wn ?_
   refine Ws ?_
   refine W_region rfl ?_
   iterate 4 refine We tG rfl rfl rfl trivial ?_
   refine Wn ?_
   refine Ws ?_
   refine W_region rfl ?_
   iterate 4 refine We tG rfl rfl rfl trivial ?_
   refine Wn ?_
   refine Ws ?_
   refine W_region rfl ?_
   iterate 4 refine We tG rfl rfl rfl trivial ?_
   refine Wn ?_
   refine Ws ?_
   refine W_region rfl ?_
   iterate 4 refine We tG rfl rfl rfl trivial ?_
   refine Wn ?_
   refine Ws ?_
   refine W_region rfl ?_
   iterate 4 refine We tG rfl rfl rfl trivial ?_
   refine Wn ?_
   refine Ws ?_
   refine W_region rfl ?_
   iterate 2 refine We tG rfl rfl rfl trivial ?_
   refine WO_true 59 rfl (by rfl) ?_
   iterate 2 refine We tG rfl rfl rfl trivial ?_
   refine Wc rfl rfl (dC rfl Tryz.func18 rfl rfl ((ps) _)) ?_
   iterate 2 refine We tG rfl rfl rfl trivial ?_
   refine Wn ?_
   refine Wq ?_
   refine lP rfl ?_
   first | rfl | (simp_all; done) | (simp_all; omega)
theorem law_stays (hsh : PureC Tryz.prog 12 [] (boo true)) (v : VVm) (hv : OkVm v) (n : Int) : PureC Tryz.prog 5 [eVm v, i64 n] (boo true) := by
 refine law_stays_of hsh v (doS v n).1 (doS v n).2 n (okVm_in hv) (fun hm => prim_Do v (good_ok (may_good hv hm) (by decide)) n) (fun hm h => doS_err h) (fun hm => ?_) (fun hm => doS_same (may_good hv hm)) (fun hm => ?_)
 ·have g := doS_good (n := n) (may_good hv hm)
  exact ⟨(right_iff _).1 g.right, g.old⟩
 ·have g := may_good hv hm
  exact right_sm ((right_iff _).1 g.right) (by have := g.old; omega)
end Go.Proofs.YtphgdofmjpdhaaaGreat
namespace Go.Proofs.YtphgdofmjpdhaaaGreat
open Go.RowKit
open Go.WideShapes
set_option linter.unusedVariables false
set_option maxRecDepth 100000
theorem walk_PrimStays (v0 v1 : Value) (w : World) (h0 : Reads w 36 v0) (h1 : Reads w 3 v1) :
  Calls Tryz.prog 5 #[v0, v1] w fun e w' => e = .returned (.bool true) ∧ Below w.heap.size w w' := by
 obtain ⟨x, hx, hr⟩ := reads_vm h0
 obtain ⟨n, hn, hs⟩ := reads_i64 h1
 exact law_calls (args := [eVm x, i64 n]) (law_stays law_shown x hx n) (repL_cons.2 ⟨hr, repL_cons.2 ⟨hs, repL_nil.2 rfl⟩⟩)
end Go.Proofs.YtphgdofmjpdhaaaGreat
