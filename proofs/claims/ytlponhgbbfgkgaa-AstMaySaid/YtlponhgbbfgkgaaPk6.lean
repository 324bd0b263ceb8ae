import Derived.Test.YtlponhgbbfgkgaaPk5
set_option linter.unusedVariables false
set_option linter.unusedSimpArgs false
namespace Go.Proofs.Ytlponhgbbfgkgaa
open Go.RowKit
open Go.WideShapes
set_option maxRecDepth 100000
set_option maxHeartbeats 8000000
theorem few_ok {l : List Str} (h : fewW l 40 = true) : l.length ≤ 40 ∧ ∀ s ∈ l, s.length ≤ 40 := by
 unfold fewW at h
 rw [Bool.and_eq_true, decide_eq_true_eq, List.all_eq_true] at h
 exact ⟨by omega, fun s hs => oT (h.2 s hs)⟩
@[simp] theorem flat_mayIn (v : VVm) (a b : List Str) (cut : UInt8) : Flat (.agg (cVm v ++ ([sq cStr a] ++ ([sq cStr b] ++ cByte cut)))) := by
 unfold Flat
 exact flatL_app (flat_cVm v) (flatL_app (by simp [FlatL]) (flatL_app (by simp [FlatL]) (by simp)))
@[simp] theorem flat_mayIn2 (v : VVm) (a b : List Str) (cut : UInt8) : FlatL (cVm v ++ sq cStr a :: sq cStr b :: cByte cut) := flatL_app (flat_cVm v) (by simp [FlatL])
theorem take_strs {s : List Str} {k : Nat} : sq cStr ((s.take (((k : Nat) : Int)).toNat).drop 0) = sq cStr (s.take k) := by rw [Int.toNat_natCast, List.drop_zero]
theorem lfb {b : Bool} (h : b = false → False) : PV.val (Value.bool b) = boo true := by
 cases b with
 | true => rfl
 | false => exact (h rfl).elim
theorem law_AstMay (v : VVm) (a b : List Str) (cut : UInt8) (hv : OkVm v) (ha : OkStrs a) (hb : OkStrs b) : PureC Try.prog 4 [.agg (cVm v ++ ([sq cStr a] ++ ([sq cStr b] ++ cByte cut)))] (boo true) := by
 obtain ⟨bm, hbm⟩ : ∃ z, may10 v = z := ⟨_, rfl⟩
 obtain ⟨bA, hbA⟩ : ∃ z, fewW a 40 = z := ⟨_, rfl⟩
 obtain ⟨bB, hbB⟩ : ∃ z, fewW b 40 = z := ⟨_, rfl⟩
 have pm := ref_May10 v (okVm_in hv)
 have pA := law_few a 40 ha.2
 have pB := law_few b 40 hb.2
 rw [hbm] at pm
 rw [hbA] at pA
 rw [hbB] at pB
 refine pW tG (rs := [.tmp 2]) Try.func4 rfl rfl rfl (by simp) (by simp) (fun B => ?_)
 refine zu2 ?_
 refine zu4 ?_
 refine zu3 ?_
 refine zu3 ?_
 refine zu3 ?_
 refine z8 ?_
 refine zc rfl Try.func5 ((lawAst_shown) _) ?_
 refine zs1 ?_
 refine Ws ?_
 refine zp1 ?_
 refine zc rfl Try.func6 ((pm) _) ?_
 refine zy2 ?_
 refine Wb 29 rfl (fun hg1 => ?_) (fun hg1 => ?_)
 ·refine z6 ?_
  iterate 2 refine z6 ?_
  refine zy2 ?_
  iterate 3 refine z6 ?_
  refine zs1 ?_
  refine Wt rfl rfl ?_
  refine zu2 ?_
  refine zR ?_
  rfl
 ·refine z1 ?_
  refine zc rfl Try.func7 ((pA) _) ?_
  refine zy3 ?_
  refine Wb 34 rfl (fun hg2 => ?_) (fun hg2 => ?_)
  ·refine z6 ?_
   iterate 2 refine z6 ?_
   refine zs1 ?_
   refine Wt rfl rfl ?_
   refine zu2 ?_
   refine zR ?_
   rfl
  ·refine z1 ?_
   refine zc rfl Try.func7 ((pB) _) ?_
   refine zs2 ?_
   refine Wi rfl (fun hi1 => ?_) (fun hi1 => ?_)
   ·refine zu2 ?_
    refine zR ?_
    rfl
   ·have hm : may10 v = true := by rw [hbm]; simpa using hg1
    have wA := few_ok (l := a) (by rw [hbA]; simpa using hg2)
    have wB := few_ok (l := b) (by rw [hbB]; simpa using hi1)
    have hV := vrd_of hv hm
    obtain ⟨A, hA⟩ : ∃ z, parseP (readerS v) a = z := ⟨_, rfl⟩
    obtain ⟨B', hB⟩ : ∃ z, parseP (readerS v) b = z := ⟨_, rfl⟩
    obtain ⟨C, hC⟩ : ∃ z, parseP (readerS v) (a ++ b) = z := ⟨_, rfl⟩
    have kM := parse_may (readerS_ok v) a
    have kN := parse_none (R := readerS v) a
    have kA := parse_small v a
    rw [hA] at kM kN
    have kB := parse_small v b
    have kC := parse_small v (a ++ b)
    have p1 := ast_Parse v a hV ⟨by omega, fun s hs => by have := wA.2 s hs; omega⟩ (by omega)
    have p2 := ast_Parse v b hV ⟨by omega, fun s hs => by have := wB.2 s hs; omega⟩ (by omega)
    have p3 := ast_Parse v (a ++ b) hV ⟨by rw [List.length_append]; omega, fun s hs => by rcases List.mem_append.1 hs with h | h; have := wA.2 s h; omega; have := wB.2 s h; omega⟩ (by rw [List.length_append]; omega)
    have d1 := fun h => parse_two (R := readerS v) (readerS_ok v) a b h
    have d2 := fun h => parse_first (R := readerS v) (readerS_ok v) a b h
    have d4 := parse_none (R := readerS v) (a ++ b)
    rw [hA, hB, hC] at d1
    rw [hA, hC] at d2
    rw [hC] at d4
    have f1 : A.2 ≠ 0 ∨ C.2 = B'.2 := by by_cases h : A.2 = 0; exact .inr (d1 h).1; exact .inl h
    have f2 : (A.2 = 0 ∨ A.2 = -22 ∨ A.2 = -16) ∨ C.2 = A.2 := by by_cases h : soft A.2; exact .inl h; exact .inr (d2 h)
    have f3 : A.2 = 0 ∨ A.1.length = 0 := by by_cases h : A.2 = 0; exact .inl h; exact .inr (by rw [kN h]; rfl)
    have f4 : C.2 = 0 ∨ C.1.length = 0 := by by_cases h : C.2 = 0; exact .inl h; exact .inr (by rw [d4 h]; rfl)
    have f7 : A.2 = 0 → B'.2 = 0 → sameL C.1 (A.1 ++ B'.1) = true := fun h k => by rw [(d1 h).2 k]; exact sameL_rfl _
    rw [List.length_append] at kC
    rw [hA] at kA p1
    rw [hB] at kB p2
    rw [hC] at kC p3
    have sA := sz_len A.1
    have sB := sz_len B'.1
    have sC := sz_len C.1
    have e115 : IntKind.i64.wrap ((a.length : Int) + 1) = ((a.length + 1 : Nat) : Int) := by rw [i64_ok2 (by omega) (by omega)]; omega
    obtain ⟨kk, hkk⟩ : ∃ kk : Nat, cut.toNat % (a.length + 1) = kk := ⟨_, rfl⟩
    have hk2 : kk ≤ a.length := by have := Nat.mod_lt cut.toNat (show a.length + 1 > 0 by omega); omega
    have e116 : (IntKind.i64.wrap (cut.toNat : Int)).tmod ((a.length + 1 : Nat) : Int) = (kk : Int) := by
     have := cut.toNat_lt
     rw [i64_ok2 (by omega) (by omega), Int.tmod_eq_emod_of_nonneg (by omega), ← hkk]; rfl
    have p4 := ast_Parse v (a.take kk) hV ⟨by rw [List.length_take]; omega, fun s hs => by have := wA.2 s (List.mem_of_mem_take hs); omega⟩ (by rw [List.length_take]; omega)
    obtain ⟨K, hK⟩ : ∃ z, parseP (readerS v) (a.take kk) = z := ⟨_, rfl⟩
    have d5 := fun h => parse_first (R := readerS v) (readerS_ok v) (a.take kk) (a.drop kk) h
    rw [List.take_append_drop, hA, hK] at d5
    rw [hK] at p4
    have f5 : (K.2 = 0 ∨ K.2 = -22 ∨ K.2 = -16) ∨ A.2 = K.2 := by by_cases h : soft K.2; exact .inl h; exact .inr (d5 h)
    clear d1 d2 d4 d5
    refine Wj ?_
    refine zp2 ?_
    refine zc rfl Try.func9 ((p1) _) ?_
    refine zs5 ?_
    refine zp2 ?_
    refine zc rfl Try.func9 ((p2) _) ?_
    refine zs5 ?_
    refine Ws ?_
    refine V3.W_drawD_3 [6, 0, 0, 2, 0, 9, 0, 0, 0, 0, 0, 0] [0, 1, 2, 4, 3, 5, 6, 7, 8, 9, 10, 11] mG rfl (by kernel_rfl) ?_
    refine V3.WU_rd_3 1 rfl rfl rfl rfl rfl (fun H2 h2 => does_load_ptr (lO tG rfl) rfl rfl h2 rfl) ?_
    refine V3.z3_3 ?_
    refine V3.WU_as_3 54 rfl ((show PV.seq 0 _ .clip = .seq (List.length ([] : List Str)) (List.flatMap cStr ([] : List Str)) .clip from rfl)) ?_
    iterate 2 refine V3.z3_3 ?_
    refine V3.WU_does2_3 rfl rfl rfl rfl (does_append_clip (lO tG rfl) rfl (lO tG rfl) (lO tG rfl) rfl rfl (by exact ⟨_, rfl⟩) (by exact ⟨rfl, rfl, flatMap_len _ 1 (fun _ => rfl) _, okC_flat _ (fun _ => rfl) _⟩) (by exact flatMap_len _ 1 (fun _ => rfl) _) (by ((simp_all; omega))) (by ((simp_all; omega)))) ?_
    refine V3.WU_as_3 56 rfl (sq_append cStr) ?_
    refine V3.WU_wrX_3 2 rfl rfl rfl rfl (does_append_own (lO tG rfl) rfl (lO tG rfl) (lO tG rfl) rfl rfl rfl rfl (by simp) (by exact ⟨_, rfl⟩) (by exact ⟨rfl, rfl, flatMap_len _ 1 (fun _ => rfl) _, okC_flat _ (fun _ => rfl) _⟩) (by ((simp_all; omega))) (by ((simp_all; omega)))) ?_
    refine V3.WU_as_3 58 rfl (sq_append cStr) ?_
    refine V3.WU_call0_3 rfl rfl rfl rfl (fun _ => dC rfl Try.func9 rfl rfl ((p3) _)) ?_
    iterate 5 refine V3.z3_3 ?_
    refine V3.WU_nil_3 ?_
    refine Ws ?_
    refine zp3 ?_
    refine Wb 64 rfl (fun hg3 => ?_) (fun hg3 => ?_)
    ·refine z1 ?_
     refine zc rfl Try.func13 ((ref_May A.1 (by omega)) _) ?_
     refine zy3 ?_
     refine Wb 69 rfl (fun hg4 => ?_) (fun hg4 => ?_)
     ·refine z6 ?_
      iterate 6 refine z6 ?_
      refine zs1 ?_
      refine Wt rfl rfl ?_
      refine zu1 ?_
      refine zR ?_
      (refine lfb fun hz => ?_; clear pm pA pB p1 p2 p3 p4 hv ha hb wA wB; ((exact absurd (kM (by simp only [dnL] at *; omega)) (by simpa using hg4))))
     ·refine zy3 ?_
      refine Wb 72 rfl (fun hg5 => ?_) (fun hg5 => ?_)
      ·refine zs5 ?_
       refine Wi rfl (fun hi2 => ?_) (fun hi2 => ?_)
       ·refine zu1 ?_
        refine zR ?_
        (refine lfb fun hz => ?_; clear pm pA pB p1 p2 p3 p4 hv ha hb wA wB; ((simp only [dnL] at * <;> omega)))
       ·refine Wj ?_
        refine Ws ?_
        refine zp3 ?_
        refine Wb 80 rfl (fun hg6 => ?_) (fun hg6 => ?_)
        ·refine zs3 ?_
         refine Wi rfl (fun hi3 => ?_) (fun hi3 => ?_)
         ·refine zp2 ?_
          refine Wb 85 rfl (fun hg7 => ?_) (fun hg7 => ?_)
          ·refine zy4 ?_
           refine Wb 89 rfl (fun hg8 => ?_) (fun hg8 => ?_)
           ·refine zy2 ?_
            refine Wa 91 rfl ((show PV.seq 0 _ .clip = .seq (List.length ([] : List VNode)) (List.flatMap cNode ([] : List VNode)) .clip from rfl)) ?_
            refine z1 ?_
            refine Wd rfl rfl (does_append_clip (lO tG rfl) rfl (lO tG rfl) (lO tG rfl) rfl rfl (by exact ⟨_, rfl⟩) (by exact ⟨rfl, rfl, flatMap_len _ 4 (fun _ => rfl) _, okC_flat _ (fun _ => rfl) _⟩) (by exact flatMap_len _ 4 (fun _ => rfl) _) (by ((simp only [dnL] at *; omega))) (by ((simp only [dnL] at *; omega)))) ?_
            refine Wa 93 rfl (sq_append cNode) ?_
            refine z1 ?_
            refine Wd rfl rfl (does_append_own (lO tG rfl) rfl (lO tG rfl) (lO tG rfl) rfl rfl rfl rfl (by simp) (by exact ⟨_, rfl⟩) (by exact ⟨rfl, rfl, flatMap_len _ 4 (fun _ => rfl) _, okC_flat _ (fun _ => rfl) _⟩) (by ((simp only [dnL] at *; omega))) (by ((simp only [dnL] at *; omega)))) ?_
            refine Wa 95 rfl (sq_append cNode) ?_
            refine zc rfl Try.func11 ((ref_Same16 C.1 (A.1 ++ B'.1) (by omega) (by rw [sz_app]; omega)) _) ?_
            refine zs2 ?_
            refine zR ?_
            (refine lfb fun hz => ?_; clear pm pA pB p1 p2 p3 p4 hv ha hb wA wB; ((simp only [dnL] at * <;> omega)))
           ·refine z6 ?_
            iterate 6 refine z6 ?_
            refine zs2 ?_
            refine zR ?_
            (refine lfb fun hz => ?_; clear pm pA pB p1 p2 p3 p4 hv ha hb wA wB; ((simp only [dnL] at * <;> omega)))
          ·refine z6 ?_
           refine z6 ?_
           refine zy2 ?_
           iterate 7 refine z6 ?_
           refine zs2 ?_
           refine zR ?_
           contradiction
         ·refine Wj ?_
          refine Ws ?_
          refine zu2 ?_
          refine Wi rfl (fun hi4 => ?_) (fun hi4 => ?_)
          ·refine zp2 ?_
           refine Wb 101 rfl (fun hg9 => ?_) (fun hg9 => ?_)
           ·refine zy5 ?_
            refine Wb 106 rfl (fun hg10 => ?_) (fun hg10 => ?_)
            ·refine zs5 ?_
             refine zR ?_
             (refine lfb fun hz => ?_; clear pm pA pB p1 p2 p3 p4 hv ha hb wA wB; ((simp only [dnL] at * <;> omega)))
            ·refine z6 ?_
             iterate 2 refine z6 ?_
             refine zs2 ?_
             refine zR ?_
             (refine lfb fun hz => ?_; clear pm pA pB p1 p2 p3 p4 hv ha hb wA wB; ((simp only [dnL] at * <;> omega)))
           ·refine z6 ?_
            iterate 2 refine z6 ?_
            refine zy2 ?_
            iterate 3 refine z6 ?_
            refine zs2 ?_
            refine zR ?_
            contradiction
          ·refine Wj ?_
           refine zp5 ?_
           refine Wa 115 rfl (congrArg (fun z => PV.val (Value.int .i64 z)) e115) ?_
           refine z1 ?_
           refine Wa 116 rfl (congrArg (fun z => PV.val (Value.int .i64 z)) e116) ?_
           refine zs1 ?_
           refine Ws ?_
           refine V3.W_drawD_3 [1, 0, 0, 0, 0, 0, 0, 0, 0, 0] [0, 1, 2, 3, 4, 5, 6, 7, 8, 9] mG rfl (by kernel_rfl) ?_
           refine V3.z5_3 ?_
           iterate 2 refine V3.z3_3 ?_
           refine V3.z4_3 ?_ (q := (by (simp only [dnL] at *; omega)))
           refine V3.WU_as_3 121 rfl (sq_slice cStr 1 (fun _ => rfl) (by omega)) ?_
           refine V3.WU_as_3 121 rfl (take_strs) ?_
           refine V3.WU_call0_3 rfl rfl rfl rfl (fun _ => dC rfl Try.func9 rfl rfl ((p4) _)) ?_
           iterate 5 refine V3.z3_3 ?_
           refine V3.WU_nil_3 ?_
           refine zp2 ?_
           refine Wb 126 rfl (fun hg11 => ?_) (fun hg11 => ?_)
           ·refine zy4 ?_
            refine Wb 130 rfl (fun hg12 => ?_) (fun hg12 => ?_)
            ·refine z6 ?_
             refine z6 ?_
             refine zy2 ?_
             iterate 2 refine z6 ?_
             refine zy5 ?_
             refine z1 ?_
             refine Wb 142 rfl (fun hg13 => ?_) (fun hg13 => ?_)
             ·refine z6 ?_
              iterate 2 refine z6 ?_
              refine zy2 ?_
              iterate 2 refine z6 ?_
              refine zy2 ?_
              iterate 2 refine z6 ?_
              refine zs3 ?_
              refine zR ?_
              rfl
             ·refine zy5 ?_
              refine Wb 147 rfl (fun hg14 => ?_) (fun hg14 => ?_)
              ·refine z6 ?_
               refine z6 ?_
               refine zy2 ?_
               iterate 2 refine z6 ?_
               refine zs3 ?_
               refine zR ?_
               rfl
              ·refine zy4 ?_
               refine Wb 151 rfl (fun hg15 => ?_) (fun hg15 => ?_)
               ·refine z6 ?_
                refine z6 ?_
                refine zs3 ?_
                refine zR ?_
                rfl
               ·refine zs5 ?_
                refine zR ?_
                (refine lfb fun hz => ?_; clear pm pA pB p1 p2 p3 p4 hv ha hb wA wB; ((simp only [dnL] at * <;> omega)))
            ·refine zy4 ?_
             refine Wb 134 rfl (fun hg16 => ?_) (fun hg16 => ?_)
             ·refine z6 ?_
              refine z6 ?_
              refine zy5 ?_
              refine z1 ?_
              refine Wb 142 rfl (fun hg13 => ?_) (fun hg13 => ?_)
              ·refine z6 ?_
               iterate 2 refine z6 ?_
               refine zy2 ?_
               iterate 2 refine z6 ?_
               refine zy2 ?_
               iterate 2 refine z6 ?_
               refine zs3 ?_
               refine zR ?_
               rfl
              ·refine zy5 ?_
               refine Wb 147 rfl (fun hg14 => ?_) (fun hg14 => ?_)
               ·refine z6 ?_
                refine z6 ?_
                refine zy2 ?_
                iterate 2 refine z6 ?_
                refine zs3 ?_
                refine zR ?_
                rfl
               ·refine zy4 ?_
                refine Wb 151 rfl (fun hg15 => ?_) (fun hg15 => ?_)
                ·refine z6 ?_
                 refine z6 ?_
                 refine zs3 ?_
                 refine zR ?_
                 rfl
                ·refine zs5 ?_
                 refine zR ?_
                 (refine lfb fun hz => ?_; clear pm pA pB p1 p2 p3 p4 hv ha hb wA wB; ((simp only [dnL] at * <;> omega)))
             ·refine zy5 ?_
              refine Wb 139 rfl (fun hg17 => ?_) (fun hg17 => ?_)
              ·refine zy3 ?_
               refine Wb 142 rfl (fun hg13 => ?_) (fun hg13 => ?_)
               ·refine z6 ?_
                iterate 2 refine z6 ?_
                refine zy2 ?_
                iterate 2 refine z6 ?_
                refine zy2 ?_
                iterate 2 refine z6 ?_
                refine zs3 ?_
                refine zR ?_
                rfl
               ·refine zy5 ?_
                refine Wb 147 rfl (fun hg14 => ?_) (fun hg14 => ?_)
                ·refine z6 ?_
                 refine z6 ?_
                 refine zy2 ?_
                 iterate 2 refine z6 ?_
                 refine zs3 ?_
                 refine zR ?_
                 rfl
                ·refine zy4 ?_
                 refine Wb 151 rfl (fun hg15 => ?_) (fun hg15 => ?_)
                 ·refine z6 ?_
                  refine z6 ?_
                  refine zs3 ?_
                  refine zR ?_
                  rfl
                 ·refine zs5 ?_
                  refine zR ?_
                  (refine lfb fun hz => ?_; clear pm pA pB p1 p2 p3 p4 hv ha hb wA wB; ((simp only [dnL] at * <;> omega)))
              ·refine z6 ?_
               iterate 14 refine z6 ?_
               refine zs2 ?_
               refine zR ?_
               (refine lfb fun hz => ?_; clear pm pA pB p1 p2 p3 p4 hv ha hb wA wB; ((simp only [dnL] at * <;> omega)))
           ·refine z6 ?_
            iterate 10 refine z6 ?_
            refine zy2 ?_
            iterate 15 refine z6 ?_
            refine zs2 ?_
            refine zR ?_
            contradiction
        ·refine z6 ?_
         refine z6 ?_
         refine zs1 ?_
         refine Wf rfl rfl ?_
         refine Wj ?_
         refine Ws ?_
         refine zu2 ?_
         refine Wi rfl (fun hi4 => ?_) (fun hi4 => ?_)
         ·refine zp2 ?_
          refine Wb 101 rfl (fun hg9 => ?_) (fun hg9 => ?_)
          ·refine zy5 ?_
           refine Wb 106 rfl (fun hg10 => ?_) (fun hg10 => ?_)
           ·refine zs5 ?_
            refine zR ?_
            (refine lfb fun hz => ?_; clear pm pA pB p1 p2 p3 p4 hv ha hb wA wB; ((simp only [dnL] at * <;> omega)))
           ·refine z6 ?_
            iterate 2 refine z6 ?_
            refine zs2 ?_
            refine zR ?_
            (refine lfb fun hz => ?_; clear pm pA pB p1 p2 p3 p4 hv ha hb wA wB; ((simp only [dnL] at * <;> omega)))
          ·refine z6 ?_
           iterate 2 refine z6 ?_
           refine zy2 ?_
           iterate 3 refine z6 ?_
           refine zs2 ?_
           refine zR ?_
           contradiction
         ·refine Wj ?_
          refine zp5 ?_
          refine Wa 115 rfl (congrArg (fun z => PV.val (Value.int .i64 z)) e115) ?_
          refine z1 ?_
          refine Wa 116 rfl (congrArg (fun z => PV.val (Value.int .i64 z)) e116) ?_
          refine zs1 ?_
          refine Ws ?_
          refine V3.W_drawD_3 [1, 0, 0, 0, 0, 0, 0, 0, 0, 0] [0, 1, 2, 3, 4, 5, 6, 7, 8, 9] mG rfl (by kernel_rfl) ?_
          refine V3.z5_3 ?_
          iterate 2 refine V3.z3_3 ?_
          refine V3.z4_3 ?_ (q := (by (simp only [dnL] at *; omega)))
          refine V3.WU_as_3 121 rfl (sq_slice cStr 1 (fun _ => rfl) (by omega)) ?_
          refine V3.WU_as_3 121 rfl (take_strs) ?_
          refine V3.WU_call0_3 rfl rfl rfl rfl (fun _ => dC rfl Try.func9 rfl rfl ((p4) _)) ?_
          iterate 5 refine V3.z3_3 ?_
          refine V3.WU_nil_3 ?_
          refine zp2 ?_
          refine Wb 126 rfl (fun hg11 => ?_) (fun hg11 => ?_)
          ·refine zy4 ?_
           refine Wb 130 rfl (fun hg12 => ?_) (fun hg12 => ?_)
           ·refine z6 ?_
            refine z6 ?_
            refine zy2 ?_
            iterate 2 refine z6 ?_
            refine zy5 ?_
            refine z1 ?_
            refine Wb 142 rfl (fun hg13 => ?_) (fun hg13 => ?_)
            ·refine z6 ?_
             iterate 2 refine z6 ?_
             refine zy2 ?_
             iterate 2 refine z6 ?_
             refine zy2 ?_
             iterate 2 refine z6 ?_
             refine zs3 ?_
             refine zR ?_
             rfl
            ·refine zy5 ?_
             refine Wb 147 rfl (fun hg14 => ?_) (fun hg14 => ?_)
             ·refine z6 ?_
              refine z6 ?_
              refine zy2 ?_
              iterate 2 refine z6 ?_
              refine zs3 ?_
              refine zR ?_
              rfl
             ·refine zy4 ?_
              refine Wb 151 rfl (fun hg15 => ?_) (fun hg15 => ?_)
              ·refine z6 ?_
               refine z6 ?_
               refine zs3 ?_
               refine zR ?_
               rfl
              ·refine zs5 ?_
               refine zR ?_
               (refine lfb fun hz => ?_; clear pm pA pB p1 p2 p3 p4 hv ha hb wA wB; ((simp only [dnL] at * <;> omega)))
           ·refine zy4 ?_
            refine Wb 134 rfl (fun hg16 => ?_) (fun hg16 => ?_)
            ·refine z6 ?_
             refine z6 ?_
             refine zy5 ?_
             refine z1 ?_
             refine Wb 142 rfl (fun hg13 => ?_) (fun hg13 => ?_)
             ·refine z6 ?_
              iterate 2 refine z6 ?_
              refine zy2 ?_
              iterate 2 refine z6 ?_
              refine zy2 ?_
              iterate 2 refine z6 ?_
              refine zs3 ?_
              refine zR ?_
              rfl
             ·refine zy5 ?_
              refine Wb 147 rfl (fun hg14 => ?_) (fun hg14 => ?_)
              ·refine z6 ?_
               refine z6 ?_
               refine zy2 ?_
               iterate 2 refine z6 ?_
               refine zs3 ?_
               refine zR ?_
               rfl
              ·refine zy4 ?_
               refine Wb 151 rfl (fun hg15 => ?_) (fun hg15 => ?_)
               ·refine z6 ?_
                refine z6 ?_
                refine zs3 ?_
                refine zR ?_
                rfl
               ·refine zs5 ?_
                refine zR ?_
                (refine lfb fun hz => ?_; clear pm pA pB p1 p2 p3 p4 hv ha hb wA wB; ((simp only [dnL] at * <;> omega)))
            ·refine zy5 ?_
             refine Wb 139 rfl (fun hg17 => ?_) (fun hg17 => ?_)
             ·refine zy3 ?_
              refine Wb 142 rfl (fun hg13 => ?_) (fun hg13 => ?_)
              ·refine z6 ?_
               iterate 2 refine z6 ?_
               refine zy2 ?_
               iterate 2 refine z6 ?_
               refine zy2 ?_
               iterate 2 refine z6 ?_
               refine zs3 ?_
               refine zR ?_
               rfl
              ·refine zy5 ?_
               refine Wb 147 rfl (fun hg14 => ?_) (fun hg14 => ?_)
               ·refine z6 ?_
                refine z6 ?_
                refine zy2 ?_
                iterate 2 refine z6 ?_
                refine zs3 ?_
                refine zR ?_
                rfl
               ·refine zy4 ?_
                refine Wb 151 rfl (fun hg15 => ?_) (fun hg15 => ?_)
                ·refine z6 ?_
                 refine z6 ?_
                 refine zs3 ?_
                 refine zR ?_
                 rfl
                ·refine zs5 ?_
                 refine zR ?_
                 (refine lfb fun hz => ?_; clear pm pA pB p1 p2 p3 p4 hv ha hb wA wB; ((simp only [dnL] at * <;> omega)))
             ·refine z6 ?_
              iterate 14 refine z6 ?_
              refine zs2 ?_
              refine zR ?_
              (refine lfb fun hz => ?_; clear pm pA pB p1 p2 p3 p4 hv ha hb wA wB; ((simp only [dnL] at * <;> omega)))
          ·refine z6 ?_
           iterate 10 refine z6 ?_
           refine zy2 ?_
           iterate 15 refine z6 ?_
           refine zs2 ?_
           refine zR ?_
           contradiction
      ·refine z6 ?_
       iterate 2 refine z6 ?_
       refine zs2 ?_
       refine Wf rfl rfl ?_
       refine Wj ?_
       refine Ws ?_
       refine zp3 ?_
       refine Wb 80 rfl (fun hg6 => ?_) (fun hg6 => ?_)
       ·refine zs3 ?_
        refine Wi rfl (fun hi3 => ?_) (fun hi3 => ?_)
        ·refine zp2 ?_
         refine Wb 85 rfl (fun hg7 => ?_) (fun hg7 => ?_)
         ·refine zy4 ?_
          refine Wb 89 rfl (fun hg8 => ?_) (fun hg8 => ?_)
          ·refine zy2 ?_
           refine Wa 91 rfl ((show PV.seq 0 _ .clip = .seq (List.length ([] : List VNode)) (List.flatMap cNode ([] : List VNode)) .clip from rfl)) ?_
           refine z1 ?_
           refine Wd rfl rfl (does_append_clip (lO tG rfl) rfl (lO tG rfl) (lO tG rfl) rfl rfl (by exact ⟨_, rfl⟩) (by exact ⟨rfl, rfl, flatMap_len _ 4 (fun _ => rfl) _, okC_flat _ (fun _ => rfl) _⟩) (by exact flatMap_len _ 4 (fun _ => rfl) _) (by ((simp_all; omega))) (by ((simp_all; omega)))) ?_
           refine Wa 93 rfl (sq_append cNode) ?_
           refine z1 ?_
           refine Wd rfl rfl (does_append_own (lO tG rfl) rfl (lO tG rfl) (lO tG rfl) rfl rfl rfl rfl (by simp) (by exact ⟨_, rfl⟩) (by exact ⟨rfl, rfl, flatMap_len _ 4 (fun _ => rfl) _, okC_flat _ (fun _ => rfl) _⟩) (by ((simp_all; omega))) (by ((simp_all; omega)))) ?_
           refine Wa 95 rfl (sq_append cNode) ?_
           refine zc rfl Try.func11 ((ref_Same16 C.1 (A.1 ++ B'.1) (by omega) (by rw [sz_app]; omega)) _) ?_
           refine zs2 ?_
           refine zR ?_
           (refine lfb fun hz => ?_; clear pm pA pB p1 p2 p3 p4 hv ha hb wA wB; ((exact absurd (f7 (by simp only [dnL] at *; omega) (by simp only [dnL] at *; omega)) (by rw [hz]; decide))))
          ·refine z6 ?_
           iterate 6 refine z6 ?_
           refine zs2 ?_
           refine zR ?_
           (refine lfb fun hz => ?_; clear pm pA pB p1 p2 p3 p4 hv ha hb wA wB; ((simp only [dnL] at * <;> omega)))
         ·refine z6 ?_
          refine z6 ?_
          refine zy2 ?_
          iterate 7 refine z6 ?_
          refine zs2 ?_
          refine zR ?_
          contradiction
        ·refine Wj ?_
         refine Ws ?_
         refine zu2 ?_
         refine Wi rfl (fun hi4 => ?_) (fun hi4 => ?_)
         ·refine zp2 ?_
          refine Wb 101 rfl (fun hg9 => ?_) (fun hg9 => ?_)
          ·refine zy5 ?_
           refine Wb 106 rfl (fun hg10 => ?_) (fun hg10 => ?_)
           ·refine zs5 ?_
            refine zR ?_
            (refine lfb fun hz => ?_; clear pm pA pB p1 p2 p3 p4 hv ha hb wA wB; ((simp only [dnL] at * <;> omega)))
           ·refine z6 ?_
            iterate 2 refine z6 ?_
            refine zs2 ?_
            refine zR ?_
            (refine lfb fun hz => ?_; clear pm pA pB p1 p2 p3 p4 hv ha hb wA wB; ((simp only [dnL] at * <;> omega)))
          ·refine z6 ?_
           iterate 2 refine z6 ?_
           refine zy2 ?_
           iterate 3 refine z6 ?_
           refine zs2 ?_
           refine zR ?_
           contradiction
         ·refine Wj ?_
          refine zp5 ?_
          refine Wa 115 rfl (congrArg (fun z => PV.val (Value.int .i64 z)) e115) ?_
          refine z1 ?_
          refine Wa 116 rfl (congrArg (fun z => PV.val (Value.int .i64 z)) e116) ?_
          refine zs1 ?_
          refine Ws ?_
          refine V3.W_drawD_3 [1, 0, 0, 0, 0, 0, 0, 0, 0, 0] [0, 1, 2, 3, 4, 5, 6, 7, 8, 9] mG rfl (by kernel_rfl) ?_
          refine V3.z5_3 ?_
          iterate 2 refine V3.z3_3 ?_
          refine V3.z4_3 ?_ (q := (by (simp only [dnL] at *; omega)))
          refine V3.WU_as_3 121 rfl (sq_slice cStr 1 (fun _ => rfl) (by omega)) ?_
          refine V3.WU_as_3 121 rfl (take_strs) ?_
          refine V3.WU_call0_3 rfl rfl rfl rfl (fun _ => dC rfl Try.func9 rfl rfl ((p4) _)) ?_
          iterate 5 refine V3.z3_3 ?_
          refine V3.WU_nil_3 ?_
          refine zp2 ?_
          refine Wb 126 rfl (fun hg11 => ?_) (fun hg11 => ?_)
          ·refine zy4 ?_
           refine Wb 130 rfl (fun hg12 => ?_) (fun hg12 => ?_)
           ·refine z6 ?_
            refine z6 ?_
            refine zy2 ?_
            iterate 2 refine z6 ?_
            refine zy5 ?_
            refine z1 ?_
            refine Wb 142 rfl (fun hg13 => ?_) (fun hg13 => ?_)
            ·refine z6 ?_
             iterate 2 refine z6 ?_
             refine zy2 ?_
             iterate 2 refine z6 ?_
             refine zy2 ?_
             iterate 2 refine z6 ?_
             refine zs3 ?_
             refine zR ?_
             rfl
            ·refine zy5 ?_
             refine Wb 147 rfl (fun hg14 => ?_) (fun hg14 => ?_)
             ·refine z6 ?_
              refine z6 ?_
              refine zy2 ?_
              iterate 2 refine z6 ?_
              refine zs3 ?_
              refine zR ?_
              rfl
             ·refine zy4 ?_
              refine Wb 151 rfl (fun hg15 => ?_) (fun hg15 => ?_)
              ·refine z6 ?_
               refine z6 ?_
               refine zs3 ?_
               refine zR ?_
               rfl
              ·refine zs5 ?_
               refine zR ?_
               (refine lfb fun hz => ?_; clear pm pA pB p1 p2 p3 p4 hv ha hb wA wB; ((simp only [dnL] at * <;> omega)))
           ·refine zy4 ?_
            refine Wb 134 rfl (fun hg16 => ?_) (fun hg16 => ?_)
            ·refine z6 ?_
             refine z6 ?_
             refine zy5 ?_
             refine z1 ?_
             refine Wb 142 rfl (fun hg13 => ?_) (fun hg13 => ?_)
             ·refine z6 ?_
              iterate 2 refine z6 ?_
              refine zy2 ?_
              iterate 2 refine z6 ?_
              refine zy2 ?_
              iterate 2 refine z6 ?_
              refine zs3 ?_
              refine zR ?_
              rfl
             ·refine zy5 ?_
              refine Wb 147 rfl (fun hg14 => ?_) (fun hg14 => ?_)
              ·refine z6 ?_
               refine z6 ?_
               refine zy2 ?_
               iterate 2 refine z6 ?_
               refine zs3 ?_
               refine zR ?_
               rfl
              ·refine zy4 ?_
               refine Wb 151 rfl (fun hg15 => ?_) (fun hg15 => ?_)
               ·refine z6 ?_
                refine z6 ?_
                refine zs3 ?_
                refine zR ?_
                rfl
               ·refine zs5 ?_
                refine zR ?_
                (refine lfb fun hz => ?_; clear pm pA pB p1 p2 p3 p4 hv ha hb wA wB; ((simp only [dnL] at * <;> omega)))
            ·refine zy5 ?_
             refine Wb 139 rfl (fun hg17 => ?_) (fun hg17 => ?_)
             ·refine zy3 ?_
              refine Wb 142 rfl (fun hg13 => ?_) (fun hg13 => ?_)
              ·refine z6 ?_
               iterate 2 refine z6 ?_
               refine zy2 ?_
               iterate 2 refine z6 ?_
               refine zy2 ?_
               iterate 2 refine z6 ?_
               refine zs3 ?_
               refine zR ?_
               rfl
              ·refine zy5 ?_
               refine Wb 147 rfl (fun hg14 => ?_) (fun hg14 => ?_)
               ·refine z6 ?_
                refine z6 ?_
                refine zy2 ?_
                iterate 2 refine z6 ?_
                refine zs3 ?_
                refine zR ?_
                rfl
               ·refine zy4 ?_
                refine Wb 151 rfl (fun hg15 => ?_) (fun hg15 => ?_)
                ·refine z6 ?_
                 refine z6 ?_
                 refine zs3 ?_
                 refine zR ?_
                 rfl
                ·refine zs5 ?_
                 refine zR ?_
                 (refine lfb fun hz => ?_; clear pm pA pB p1 p2 p3 p4 hv ha hb wA wB; ((simp only [dnL] at * <;> omega)))
             ·refine z6 ?_
              iterate 14 refine z6 ?_
              refine zs2 ?_
              refine zR ?_
              (refine lfb fun hz => ?_; clear pm pA pB p1 p2 p3 p4 hv ha hb wA wB; ((simp only [dnL] at * <;> omega)))
          ·refine z6 ?_
           iterate 10 refine z6 ?_
           refine zy2 ?_
           iterate 15 refine z6 ?_
           refine zs2 ?_
           refine zR ?_
           contradiction
       ·refine z6 ?_
        refine z6 ?_
        refine zs1 ?_
        refine Wf rfl rfl ?_
        refine Wj ?_
        refine Ws ?_
        refine zu2 ?_
        refine Wi rfl (fun hi4 => ?_) (fun hi4 => ?_)
        ·refine zp2 ?_
         refine Wb 101 rfl (fun hg9 => ?_) (fun hg9 => ?_)
         ·refine zy5 ?_
          refine Wb 106 rfl (fun hg10 => ?_) (fun hg10 => ?_)
          ·refine zs5 ?_
           refine zR ?_
           (refine lfb fun hz => ?_; clear pm pA pB p1 p2 p3 p4 hv ha hb wA wB; ((simp only [dnL] at * <;> omega)))
          ·refine z6 ?_
           iterate 2 refine z6 ?_
           refine zs2 ?_
           refine zR ?_
           (refine lfb fun hz => ?_; clear pm pA pB p1 p2 p3 p4 hv ha hb wA wB; ((simp only [dnL] at * <;> omega)))
         ·refine z6 ?_
          iterate 2 refine z6 ?_
          refine zy2 ?_
          iterate 3 refine z6 ?_
          refine zs2 ?_
          refine zR ?_
          contradiction
        ·refine Wj ?_
         refine zp5 ?_
         refine Wa 115 rfl (congrArg (fun z => PV.val (Value.int .i64 z)) e115) ?_
         refine z1 ?_
         refine Wa 116 rfl (congrArg (fun z => PV.val (Value.int .i64 z)) e116) ?_
         refine zs1 ?_
         refine Ws ?_
         refine V3.W_drawD_3 [1, 0, 0, 0, 0, 0, 0, 0, 0, 0] [0, 1, 2, 3, 4, 5, 6, 7, 8, 9] mG rfl (by kernel_rfl) ?_
         refine V3.z5_3 ?_
         iterate 2 refine V3.z3_3 ?_
         refine V3.z4_3 ?_ (q := (by (simp only [dnL] at *; omega)))
         refine V3.WU_as_3 121 rfl (sq_slice cStr 1 (fun _ => rfl) (by omega)) ?_
         refine V3.WU_as_3 121 rfl (take_strs) ?_
         refine V3.WU_call0_3 rfl rfl rfl rfl (fun _ => dC rfl Try.func9 rfl rfl ((p4) _)) ?_
         iterate 5 refine V3.z3_3 ?_
         refine V3.WU_nil_3 ?_
         refine zp2 ?_
         refine Wb 126 rfl (fun hg11 => ?_) (fun hg11 => ?_)
         ·refine zy4 ?_
          refine Wb 130 rfl (fun hg12 => ?_) (fun hg12 => ?_)
          ·refine z6 ?_
           refine z6 ?_
           refine zy2 ?_
           iterate 2 refine z6 ?_
           refine zy5 ?_
           refine z1 ?_
           refine Wb 142 rfl (fun hg13 => ?_) (fun hg13 => ?_)
           ·refine z6 ?_
            iterate 2 refine z6 ?_
            refine zy2 ?_
            iterate 2 refine z6 ?_
            refine zy2 ?_
            iterate 2 refine z6 ?_
            refine zs3 ?_
            refine zR ?_
            rfl
           ·refine zy5 ?_
            refine Wb 147 rfl (fun hg14 => ?_) (fun hg14 => ?_)
            ·refine z6 ?_
             refine z6 ?_
             refine zy2 ?_
             iterate 2 refine z6 ?_
             refine zs3 ?_
             refine zR ?_
             rfl
            ·refine zy4 ?_
             refine Wb 151 rfl (fun hg15 => ?_) (fun hg15 => ?_)
             ·refine z6 ?_
              refine z6 ?_
              refine zs3 ?_
              refine zR ?_
              rfl
             ·refine zs5 ?_
              refine zR ?_
              (refine lfb fun hz => ?_; clear pm pA pB p1 p2 p3 p4 hv ha hb wA wB; ((simp only [dnL] at * <;> omega)))
          ·refine zy4 ?_
           refine Wb 134 rfl (fun hg16 => ?_) (fun hg16 => ?_)
           ·refine z6 ?_
            refine z6 ?_
            refine zy5 ?_
            refine z1 ?_
            refine Wb 142 rfl (fun hg13 => ?_) (fun hg13 => ?_)
            ·refine z6 ?_
             iterate 2 refine z6 ?_
             refine zy2 ?_
             iterate 2 refine z6 ?_
             refine zy2 ?_
             iterate 2 refine z6 ?_
             refine zs3 ?_
             refine zR ?_
             rfl
            ·refine zy5 ?_
             refine Wb 147 rfl (fun hg14 => ?_) (fun hg14 => ?_)
             ·refine z6 ?_
              refine z6 ?_
              refine zy2 ?_
              iterate 2 refine z6 ?_
              refine zs3 ?_
              refine zR ?_
              rfl
             ·refine zy4 ?_
              refine Wb 151 rfl (fun hg15 => ?_) (fun hg15 => ?_)
              ·refine z6 ?_
               refine z6 ?_
               refine zs3 ?_
               refine zR ?_
               rfl
              ·refine zs5 ?_
               refine zR ?_
               (refine lfb fun hz => ?_; clear pm pA pB p1 p2 p3 p4 hv ha hb wA wB; ((simp only [dnL] at * <;> omega)))
           ·refine zy5 ?_
            refine Wb 139 rfl (fun hg17 => ?_) (fun hg17 => ?_)
            ·refine zy3 ?_
             refine Wb 142 rfl (fun hg13 => ?_) (fun hg13 => ?_)
             ·refine z6 ?_
              iterate 2 refine z6 ?_
              refine zy2 ?_
              iterate 2 refine z6 ?_
              refine zy2 ?_
              iterate 2 refine z6 ?_
              refine zs3 ?_
              refine zR ?_
              rfl
             ·refine zy5 ?_
              refine Wb 147 rfl (fun hg14 => ?_) (fun hg14 => ?_)
              ·refine z6 ?_
               refine z6 ?_
               refine zy2 ?_
               iterate 2 refine z6 ?_
               refine zs3 ?_
               refine zR ?_
               rfl
              ·refine zy4 ?_
               refine Wb 151 rfl (fun hg15 => ?_) (fun hg15 => ?_)
               ·refine z6 ?_
                refine z6 ?_
                refine zs3 ?_
                refine zR ?_
                rfl
               ·refine zs5 ?_
                refine zR ?_
                (refine lfb fun hz => ?_; clear pm pA pB p1 p2 p3 p4 hv ha hb wA wB; ((simp only [dnL] at * <;> omega)))
            ·refine z6 ?_
             iterate 14 refine z6 ?_
             refine zs2 ?_
             refine zR ?_
             (refine lfb fun hz => ?_; clear pm pA pB p1 p2 p3 p4 hv ha hb wA wB; ((simp only [dnL] at * <;> omega)))
         ·refine z6 ?_
          iterate 10 refine z6 ?_
          refine zy2 ?_
          iterate 15 refine z6 ?_
          refine zs2 ?_
          refine zR ?_
          contradiction
    ·refine z6 ?_
     iterate 2 refine z6 ?_
     refine zy5 ?_
     refine Wb 72 rfl (fun hg5 => ?_) (fun hg5 => ?_)
     ·refine zs5 ?_
      refine Wi rfl (fun hi2 => ?_) (fun hi2 => ?_)
      ·refine zu1 ?_
       refine zR ?_
       (refine lfb fun hz => ?_; clear pm pA pB p1 p2 p3 p4 hv ha hb wA wB; ((simp only [dnL] at * <;> omega)))
      ·refine Wj ?_
       refine Ws ?_
       refine zp3 ?_
       refine Wb 80 rfl (fun hg6 => ?_) (fun hg6 => ?_)
       ·refine zs3 ?_
        refine Wi rfl (fun hi3 => ?_) (fun hi3 => ?_)
        ·refine zp2 ?_
         refine Wb 85 rfl (fun hg7 => ?_) (fun hg7 => ?_)
         ·refine zy4 ?_
          refine Wb 89 rfl (fun hg8 => ?_) (fun hg8 => ?_)
          ·refine zy2 ?_
           refine Wa 91 rfl ((show PV.seq 0 _ .clip = .seq (List.length ([] : List VNode)) (List.flatMap cNode ([] : List VNode)) .clip from rfl)) ?_
           refine z1 ?_
           refine Wd rfl rfl (does_append_clip (lO tG rfl) rfl (lO tG rfl) (lO tG rfl) rfl rfl (by exact ⟨_, rfl⟩) (by exact ⟨rfl, rfl, flatMap_len _ 4 (fun _ => rfl) _, okC_flat _ (fun _ => rfl) _⟩) (by exact flatMap_len _ 4 (fun _ => rfl) _) (by ((simp only [dnL] at *; omega))) (by ((simp only [dnL] at *; omega)))) ?_
           refine Wa 93 rfl (sq_append cNode) ?_
           refine z1 ?_
           refine Wd rfl rfl (does_append_own (lO tG rfl) rfl (lO tG rfl) (lO tG rfl) rfl rfl rfl rfl (by simp) (by exact ⟨_, rfl⟩) (by exact ⟨rfl, rfl, flatMap_len _ 4 (fun _ => rfl) _, okC_flat _ (fun _ => rfl) _⟩) (by ((simp only [dnL] at *; omega))) (by ((simp only [dnL] at *; omega)))) ?_
           refine Wa 95 rfl (sq_append cNode) ?_
           refine zc rfl Try.func11 ((ref_Same16 C.1 (A.1 ++ B'.1) (by omega) (by rw [sz_app]; omega)) _) ?_
           refine zs2 ?_
           refine zR ?_
           (refine lfb fun hz => ?_; clear pm pA pB p1 p2 p3 p4 hv ha hb wA wB; ((simp only [dnL] at * <;> omega)))
          ·refine z6 ?_
           iterate 6 refine z6 ?_
           refine zs2 ?_
           refine zR ?_
           (refine lfb fun hz => ?_; clear pm pA pB p1 p2 p3 p4 hv ha hb wA wB; ((simp only [dnL] at * <;> omega)))
         ·refine z6 ?_
          refine z6 ?_
          refine zy2 ?_
          iterate 7 refine z6 ?_
          refine zs2 ?_
          refine zR ?_
          contradiction
        ·refine Wj ?_
         refine Ws ?_
         refine zu2 ?_
         refine Wi rfl (fun hi4 => ?_) (fun hi4 => ?_)
         ·refine zp2 ?_
          refine Wb 101 rfl (fun hg9 => ?_) (fun hg9 => ?_)
          ·refine zy5 ?_
           refine Wb 106 rfl (fun hg10 => ?_) (fun hg10 => ?_)
           ·refine zs5 ?_
            refine zR ?_
            (refine lfb fun hz => ?_; clear pm pA pB p1 p2 p3 p4 hv ha hb wA wB; ((simp only [dnL] at * <;> omega)))
           ·refine z6 ?_
            iterate 2 refine z6 ?_
            refine zs2 ?_
            refine zR ?_
            (refine lfb fun hz => ?_; clear pm pA pB p1 p2 p3 p4 hv ha hb wA wB; ((simp only [dnL] at * <;> omega)))
          ·refine z6 ?_
           iterate 2 refine z6 ?_
           refine zy2 ?_
           iterate 3 refine z6 ?_
           refine zs2 ?_
           refine zR ?_
           contradiction
         ·refine Wj ?_
          refine zp5 ?_
          refine Wa 115 rfl (congrArg (fun z => PV.val (Value.int .i64 z)) e115) ?_
          refine z1 ?_
          refine Wa 116 rfl (congrArg (fun z => PV.val (Value.int .i64 z)) e116) ?_
          refine zs1 ?_
          refine Ws ?_
          refine V3.W_drawD_3 [1, 0, 0, 0, 0, 0, 0, 0, 0, 0] [0, 1, 2, 3, 4, 5, 6, 7, 8, 9] mG rfl (by kernel_rfl) ?_
          refine V3.z5_3 ?_
          iterate 2 refine V3.z3_3 ?_
          refine V3.z4_3 ?_ (q := (by (simp only [dnL] at *; omega)))
          refine V3.WU_as_3 121 rfl (sq_slice cStr 1 (fun _ => rfl) (by omega)) ?_
          refine V3.WU_as_3 121 rfl (take_strs) ?_
          refine V3.WU_call0_3 rfl rfl rfl rfl (fun _ => dC rfl Try.func9 rfl rfl ((p4) _)) ?_
          iterate 5 refine V3.z3_3 ?_
          refine V3.WU_nil_3 ?_
          refine zp2 ?_
          refine Wb 126 rfl (fun hg11 => ?_) (fun hg11 => ?_)
          ·refine zy4 ?_
           refine Wb 130 rfl (fun hg12 => ?_) (fun hg12 => ?_)
           ·refine z6 ?_
            refine z6 ?_
            refine zy2 ?_
            iterate 2 refine z6 ?_
            refine zy5 ?_
            refine z1 ?_
            refine Wb 142 rfl (fun hg13 => ?_) (fun hg13 => ?_)
            ·refine z6 ?_
             iterate 2 refine z6 ?_
             refine zy2 ?_
             iterate 2 refine z6 ?_
             refine zy2 ?_
             iterate 2 refine z6 ?_
             refine zs3 ?_
             refine zR ?_
             rfl
            ·refine zy5 ?_
             refine Wb 147 rfl (fun hg14 => ?_) (fun hg14 => ?_)
             ·refine z6 ?_
              refine z6 ?_
              refine zy2 ?_
              iterate 2 refine z6 ?_
              refine zs3 ?_
              refine zR ?_
              rfl
             ·refine zy4 ?_
              refine Wb 151 rfl (fun hg15 => ?_) (fun hg15 => ?_)
              ·refine z6 ?_
               refine z6 ?_
               refine zs3 ?_
               refine zR ?_
               rfl
              ·refine zs5 ?_
               refine zR ?_
               (refine lfb fun hz => ?_; clear pm pA pB p1 p2 p3 p4 hv ha hb wA wB; ((simp only [dnL] at * <;> omega)))
           ·refine zy4 ?_
            refine Wb 134 rfl (fun hg16 => ?_) (fun hg16 => ?_)
            ·refine z6 ?_
             refine z6 ?_
             refine zy5 ?_
             refine z1 ?_
             refine Wb 142 rfl (fun hg13 => ?_) (fun hg13 => ?_)
             ·refine z6 ?_
              iterate 2 refine z6 ?_
              refine zy2 ?_
              iterate 2 refine z6 ?_
              refine zy2 ?_
              iterate 2 refine z6 ?_
              refine zs3 ?_
              refine zR ?_
              rfl
             ·refine zy5 ?_
              refine Wb 147 rfl (fun hg14 => ?_) (fun hg14 => ?_)
              ·refine z6 ?_
               refine z6 ?_
               refine zy2 ?_
               iterate 2 refine z6 ?_
               refine zs3 ?_
               refine zR ?_
               rfl
              ·refine zy4 ?_
               refine Wb 151 rfl (fun hg15 => ?_) (fun hg15 => ?_)
               ·refine z6 ?_
                refine z6 ?_
                refine zs3 ?_
                refine zR ?_
                rfl
               ·refine zs5 ?_
                refine zR ?_
                (refine lfb fun hz => ?_; clear pm pA pB p1 p2 p3 p4 hv ha hb wA wB; ((simp only [dnL] at * <;> omega)))
            ·refine zy5 ?_
             refine Wb 139 rfl (fun hg17 => ?_) (fun hg17 => ?_)
             ·refine zy3 ?_
              refine Wb 142 rfl (fun hg13 => ?_) (fun hg13 => ?_)
              ·refine z6 ?_
               iterate 2 refine z6 ?_
               refine zy2 ?_
               iterate 2 refine z6 ?_
               refine zy2 ?_
               iterate 2 refine z6 ?_
               refine zs3 ?_
               refine zR ?_
               rfl
              ·refine zy5 ?_
               refine Wb 147 rfl (fun hg14 => ?_) (fun hg14 => ?_)
               ·refine z6 ?_
                refine z6 ?_
                refine zy2 ?_
                iterate 2 refine z6 ?_
                refine zs3 ?_
                refine zR ?_
                rfl
               ·refine zy4 ?_
                refine Wb 151 rfl (fun hg15 => ?_) (fun hg15 => ?_)
                ·refine z6 ?_
                 refine z6 ?_
                 refine zs3 ?_
                 refine zR ?_
                 rfl
                ·refine zs5 ?_
                 refine zR ?_
                 (refine lfb fun hz => ?_; clear pm pA pB p1 p2 p3 p4 hv ha hb wA wB; ((simp only [dnL] at * <;> omega)))
             ·refine z6 ?_
              iterate 14 refine z6 ?_
              refine zs2 ?_
              refine zR ?_
              (refine lfb fun hz => ?_; clear pm pA pB p1 p2 p3 p4 hv ha hb wA wB; ((simp only [dnL] at * <;> omega)))
          ·refine z6 ?_
           iterate 10 refine z6 ?_
           refine zy2 ?_
           iterate 15 refine z6 ?_
           refine zs2 ?_
           refine zR ?_
           contradiction
       ·refine z6 ?_
        refine z6 ?_
        refine zs1 ?_
        refine Wf rfl rfl ?_
        refine Wj ?_
        refine Ws ?_
        refine zu2 ?_
        refine Wi rfl (fun hi4 => ?_) (fun hi4 => ?_)
        ·refine zp2 ?_
         refine Wb 101 rfl (fun hg9 => ?_) (fun hg9 => ?_)
         ·refine zy5 ?_
          refine Wb 106 rfl (fun hg10 => ?_) (fun hg10 => ?_)
          ·refine zs5 ?_
           refine zR ?_
           (refine lfb fun hz => ?_; clear pm pA pB p1 p2 p3 p4 hv ha hb wA wB; ((simp only [dnL] at * <;> omega)))
          ·refine z6 ?_
           iterate 2 refine z6 ?_
           refine zs2 ?_
           refine zR ?_
           (refine lfb fun hz => ?_; clear pm pA pB p1 p2 p3 p4 hv ha hb wA wB; ((simp only [dnL] at * <;> omega)))
         ·refine z6 ?_
          iterate 2 refine z6 ?_
          refine zy2 ?_
          iterate 3 refine z6 ?_
          refine zs2 ?_
          refine zR ?_
          contradiction
        ·refine Wj ?_
         refine zp5 ?_
         refine Wa 115 rfl (congrArg (fun z => PV.val (Value.int .i64 z)) e115) ?_
         refine z1 ?_
         refine Wa 116 rfl (congrArg (fun z => PV.val (Value.int .i64 z)) e116) ?_
         refine zs1 ?_
         refine Ws ?_
         refine V3.W_drawD_3 [1, 0, 0, 0, 0, 0, 0, 0, 0, 0] [0, 1, 2, 3, 4, 5, 6, 7, 8, 9] mG rfl (by kernel_rfl) ?_
         refine V3.z5_3 ?_
         iterate 2 refine V3.z3_3 ?_
         refine V3.z4_3 ?_ (q := (by (simp_all; done)))
         refine V3.WU_as_3 121 rfl (sq_slice cStr 1 (fun _ => rfl) (by omega)) ?_
         refine V3.WU_as_3 121 rfl (take_strs) ?_
         refine V3.WU_call0_3 rfl rfl rfl rfl (fun _ => dC rfl Try.func9 rfl rfl ((p4) _)) ?_
         iterate 5 refine V3.z3_3 ?_
         refine V3.WU_nil_3 ?_
         refine zp2 ?_
         refine Wb 126 rfl (fun hg11 => ?_) (fun hg11 => ?_)
         ·refine zy4 ?_
          refine Wb 130 rfl (fun hg12 => ?_) (fun hg12 => ?_)
          ·refine z6 ?_
           refine z6 ?_
           refine zy2 ?_
           iterate 2 refine z6 ?_
           refine zy5 ?_
           refine z1 ?_
           refine Wb 142 rfl (fun hg13 => ?_) (fun hg13 => ?_)
           ·refine z6 ?_
            iterate 2 refine z6 ?_
            refine zy2 ?_
            iterate 2 refine z6 ?_
            refine zy2 ?_
            iterate 2 refine z6 ?_
            refine zs3 ?_
            refine zR ?_
            rfl
           ·refine zy5 ?_
            refine Wb 147 rfl (fun hg14 => ?_) (fun hg14 => ?_)
            ·refine z6 ?_
             refine z6 ?_
             refine zy2 ?_
             iterate 2 refine z6 ?_
             refine zs3 ?_
             refine zR ?_
             rfl
            ·refine zy4 ?_
             refine Wb 151 rfl (fun hg15 => ?_) (fun hg15 => ?_)
             ·refine z6 ?_
              refine z6 ?_
              refine zs3 ?_
              refine zR ?_
              rfl
             ·refine zs5 ?_
              refine zR ?_
              (refine lfb fun hz => ?_; clear pm pA pB p1 p2 p3 p4 hv ha hb wA wB; ((simp only [dnL] at * <;> omega)))
          ·refine zy4 ?_
           refine Wb 134 rfl (fun hg16 => ?_) (fun hg16 => ?_)
           ·refine z6 ?_
            refine z6 ?_
            refine zy5 ?_
            refine z1 ?_
            refine Wb 142 rfl (fun hg13 => ?_) (fun hg13 => ?_)
            ·refine z6 ?_
             iterate 2 refine z6 ?_
             refine zy2 ?_
             iterate 2 refine z6 ?_
             refine zy2 ?_
             iterate 2 refine z6 ?_
             refine zs3 ?_
             refine zR ?_
             rfl
            ·refine zy5 ?_
             refine Wb 147 rfl (fun hg14 => ?_) (fun hg14 => ?_)
             ·refine z6 ?_
              refine z6 ?_
              refine zy2 ?_
              iterate 2 refine z6 ?_
              refine zs3 ?_
              refine zR ?_
              rfl
             ·refine zy4 ?_
              refine Wb 151 rfl (fun hg15 => ?_) (fun hg15 => ?_)
              ·refine z6 ?_
               refine z6 ?_
               refine zs3 ?_
               refine zR ?_
               rfl
              ·refine zs5 ?_
               refine zR ?_
               (refine lfb fun hz => ?_; clear pm pA pB p1 p2 p3 p4 hv ha hb wA wB; ((simp only [dnL] at * <;> omega)))
           ·refine zy5 ?_
            refine Wb 139 rfl (fun hg17 => ?_) (fun hg17 => ?_)
            ·refine zy3 ?_
             refine Wb 142 rfl (fun hg13 => ?_) (fun hg13 => ?_)
             ·refine z6 ?_
              iterate 2 refine z6 ?_
              refine zy2 ?_
              iterate 2 refine z6 ?_
              refine zy2 ?_
              iterate 2 refine z6 ?_
              refine zs3 ?_
              refine zR ?_
              rfl
             ·refine zy5 ?_
              refine Wb 147 rfl (fun hg14 => ?_) (fun hg14 => ?_)
              ·refine z6 ?_
               refine z6 ?_
               refine zy2 ?_
               iterate 2 refine z6 ?_
               refine zs3 ?_
               refine zR ?_
               rfl
              ·refine zy4 ?_
               refine Wb 151 rfl (fun hg15 => ?_) (fun hg15 => ?_)
               ·refine z6 ?_
                refine z6 ?_
                refine zs3 ?_
                refine zR ?_
                rfl
               ·refine zs5 ?_
                refine zR ?_
                (refine lfb fun hz => ?_; clear pm pA pB p1 p2 p3 p4 hv ha hb wA wB; ((simp only [dnL] at * <;> omega)))
            ·refine z6 ?_
             iterate 14 refine z6 ?_
             refine zs2 ?_
             refine zR ?_
             (refine lfb fun hz => ?_; clear pm pA pB p1 p2 p3 p4 hv ha hb wA wB; ((simp only [dnL] at * <;> omega)))
         ·refine z6 ?_
          iterate 10 refine z6 ?_
          refine zy2 ?_
          iterate 15 refine z6 ?_
          refine zs2 ?_
          refine zR ?_
          contradiction
     ·refine z6 ?_
      iterate 2 refine z6 ?_
      refine zs2 ?_
      refine Wf rfl rfl ?_
      refine Wj ?_
      refine Ws ?_
      refine zp3 ?_
      refine Wb 80 rfl (fun hg6 => ?_) (fun hg6 => ?_)
      ·refine zs3 ?_
       refine Wi rfl (fun hi3 => ?_) (fun hi3 => ?_)
       ·refine zp2 ?_
        refine Wb 85 rfl (fun hg7 => ?_) (fun hg7 => ?_)
        ·refine zy4 ?_
         refine Wb 89 rfl (fun hg8 => ?_) (fun hg8 => ?_)
         ·refine zy2 ?_
          refine Wa 91 rfl ((show PV.seq 0 _ .clip = .seq (List.length ([] : List VNode)) (List.flatMap cNode ([] : List VNode)) .clip from rfl)) ?_
          refine z1 ?_
          refine Wd rfl rfl (does_append_clip (lO tG rfl) rfl (lO tG rfl) (lO tG rfl) rfl rfl (by exact ⟨_, rfl⟩) (by exact ⟨rfl, rfl, flatMap_len _ 4 (fun _ => rfl) _, okC_flat _ (fun _ => rfl) _⟩) (by exact flatMap_len _ 4 (fun _ => rfl) _) (by ((simp only [dnL] at *; omega))) (by ((simp only [dnL] at *; omega)))) ?_
          refine Wa 93 rfl (sq_append cNode) ?_
          refine z1 ?_
          refine Wd rfl rfl (does_append_own (lO tG rfl) rfl (lO tG rfl) (lO tG rfl) rfl rfl rfl rfl (by simp) (by exact ⟨_, rfl⟩) (by exact ⟨rfl, rfl, flatMap_len _ 4 (fun _ => rfl) _, okC_flat _ (fun _ => rfl) _⟩) (by ((simp only [dnL] at *; omega))) (by ((simp only [dnL] at *; omega)))) ?_
          refine Wa 95 rfl (sq_append cNode) ?_
          refine zc rfl Try.func11 ((ref_Same16 C.1 (A.1 ++ B'.1) (by omega) (by rw [sz_app]; omega)) _) ?_
          refine zs2 ?_
          refine zR ?_
          (refine lfb fun hz => ?_; clear pm pA pB p1 p2 p3 p4 hv ha hb wA wB; ((simp only [dnL] at * <;> omega)))
         ·refine z6 ?_
          iterate 6 refine z6 ?_
          refine zs2 ?_
          refine zR ?_
          (refine lfb fun hz => ?_; clear pm pA pB p1 p2 p3 p4 hv ha hb wA wB; ((simp only [dnL] at * <;> omega)))
        ·refine z6 ?_
         refine z6 ?_
         refine zy2 ?_
         iterate 7 refine z6 ?_
         refine zs2 ?_
         refine zR ?_
         contradiction
       ·refine Wj ?_
        refine Ws ?_
        refine zu2 ?_
        refine Wi rfl (fun hi4 => ?_) (fun hi4 => ?_)
        ·refine zp2 ?_
         refine Wb 101 rfl (fun hg9 => ?_) (fun hg9 => ?_)
         ·refine zy5 ?_
          refine Wb 106 rfl (fun hg10 => ?_) (fun hg10 => ?_)
          ·refine zs5 ?_
           refine zR ?_
           (refine lfb fun hz => ?_; clear pm pA pB p1 p2 p3 p4 hv ha hb wA wB; ((simp only [dnL] at * <;> omega)))
          ·refine z6 ?_
           iterate 2 refine z6 ?_
           refine zs2 ?_
           refine zR ?_
           (refine lfb fun hz => ?_; clear pm pA pB p1 p2 p3 p4 hv ha hb wA wB; ((simp only [dnL] at * <;> omega)))
         ·refine z6 ?_
          iterate 2 refine z6 ?_
          refine zy2 ?_
          iterate 3 refine z6 ?_
          refine zs2 ?_
          refine zR ?_
          contradiction
        ·refine Wj ?_
         refine zp5 ?_
         refine Wa 115 rfl (congrArg (fun z => PV.val (Value.int .i64 z)) e115) ?_
         refine z1 ?_
         refine Wa 116 rfl (congrArg (fun z => PV.val (Value.int .i64 z)) e116) ?_
         refine zs1 ?_
         refine Ws ?_
         refine V3.W_drawD_3 [1, 0, 0, 0, 0, 0, 0, 0, 0, 0] [0, 1, 2, 3, 4, 5, 6, 7, 8, 9] mG rfl (by kernel_rfl) ?_
         refine V3.z5_3 ?_
         iterate 2 refine V3.z3_3 ?_
         refine V3.z4_3 ?_ (q := (by (simp only [dnL] at *; omega)))
         refine V3.WU_as_3 121 rfl (sq_slice cStr 1 (fun _ => rfl) (by omega)) ?_
         refine V3.WU_as_3 121 rfl (take_strs) ?_
         refine V3.WU_call0_3 rfl rfl rfl rfl (fun _ => dC rfl Try.func9 rfl rfl ((p4) _)) ?_
         iterate 5 refine V3.z3_3 ?_
         refine V3.WU_nil_3 ?_
         refine zp2 ?_
         refine Wb 126 rfl (fun hg11 => ?_) (fun hg11 => ?_)
         ·refine zy4 ?_
          refine Wb 130 rfl (fun hg12 => ?_) (fun hg12 => ?_)
          ·refine z6 ?_
           refine z6 ?_
           refine zy2 ?_
           iterate 2 refine z6 ?_
           refine zy5 ?_
           refine z1 ?_
           refine Wb 142 rfl (fun hg13 => ?_) (fun hg13 => ?_)
           ·refine z6 ?_
            iterate 2 refine z6 ?_
            refine zy2 ?_
            iterate 2 refine z6 ?_
            refine zy2 ?_
            iterate 2 refine z6 ?_
            refine zs3 ?_
            refine zR ?_
            rfl
           ·refine zy5 ?_
            refine Wb 147 rfl (fun hg14 => ?_) (fun hg14 => ?_)
            ·refine z6 ?_
             refine z6 ?_
             refine zy2 ?_
             iterate 2 refine z6 ?_
             refine zs3 ?_
             refine zR ?_
             rfl
            ·refine zy4 ?_
             refine Wb 151 rfl (fun hg15 => ?_) (fun hg15 => ?_)
             ·refine z6 ?_
              refine z6 ?_
              refine zs3 ?_
              refine zR ?_
              rfl
             ·refine zs5 ?_
              refine zR ?_
              (refine lfb fun hz => ?_; clear pm pA pB p1 p2 p3 p4 hv ha hb wA wB; ((simp only [dnL] at * <;> omega)))
          ·refine zy4 ?_
           refine Wb 134 rfl (fun hg16 => ?_) (fun hg16 => ?_)
           ·refine z6 ?_
            refine z6 ?_
            refine zy5 ?_
            refine z1 ?_
            refine Wb 142 rfl (fun hg13 => ?_) (fun hg13 => ?_)
            ·refine z6 ?_
             iterate 2 refine z6 ?_
             refine zy2 ?_
             iterate 2 refine z6 ?_
             refine zy2 ?_
             iterate 2 refine z6 ?_
             refine zs3 ?_
             refine zR ?_
             rfl
            ·refine zy5 ?_
             refine Wb 147 rfl (fun hg14 => ?_) (fun hg14 => ?_)
             ·refine z6 ?_
              refine z6 ?_
              refine zy2 ?_
              iterate 2 refine z6 ?_
              refine zs3 ?_
              refine zR ?_
              rfl
             ·refine zy4 ?_
              refine Wb 151 rfl (fun hg15 => ?_) (fun hg15 => ?_)
              ·refine z6 ?_
               refine z6 ?_
               refine zs3 ?_
               refine zR ?_
               rfl
              ·refine zs5 ?_
               refine zR ?_
               (refine lfb fun hz => ?_; clear pm pA pB p1 p2 p3 p4 hv ha hb wA wB; ((simp only [dnL] at * <;> omega)))
           ·refine zy5 ?_
            refine Wb 139 rfl (fun hg17 => ?_) (fun hg17 => ?_)
            ·refine zy3 ?_
             refine Wb 142 rfl (fun hg13 => ?_) (fun hg13 => ?_)
             ·refine z6 ?_
              iterate 2 refine z6 ?_
              refine zy2 ?_
              iterate 2 refine z6 ?_
              refine zy2 ?_
              iterate 2 refine z6 ?_
              refine zs3 ?_
              refine zR ?_
              rfl
             ·refine zy5 ?_
              refine Wb 147 rfl (fun hg14 => ?_) (fun hg14 => ?_)
              ·refine z6 ?_
               refine z6 ?_
               refine zy2 ?_
               iterate 2 refine z6 ?_
               refine zs3 ?_
               refine zR ?_
               rfl
              ·refine zy4 ?_
               refine Wb 151 rfl (fun hg15 => ?_) (fun hg15 => ?_)
               ·refine z6 ?_
                refine z6 ?_
                refine zs3 ?_
                refine zR ?_
                rfl
               ·refine zs5 ?_
                refine zR ?_
                (refine lfb fun hz => ?_; clear pm pA pB p1 p2 p3 p4 hv ha hb wA wB; ((simp only [dnL] at * <;> omega)))
            ·refine z6 ?_
             iterate 14 refine z6 ?_
             refine zs2 ?_
             refine zR ?_
             (refine lfb fun hz => ?_; clear pm pA pB p1 p2 p3 p4 hv ha hb wA wB; ((simp only [dnL] at * <;> omega)))
         ·refine z6 ?_
          iterate 10 refine z6 ?_
          refine zy2 ?_
          iterate 15 refine z6 ?_
          refine zs2 ?_
          refine zR ?_
          contradiction
      ·refine z6 ?_
       refine z6 ?_
       refine zs1 ?_
       refine Wf rfl rfl ?_
       refine Wj ?_
       refine Ws ?_
       refine zu2 ?_
       refine Wi rfl (fun hi4 => ?_) (fun hi4 => ?_)
       ·refine zp2 ?_
        refine Wb 101 rfl (fun hg9 => ?_) (fun hg9 => ?_)
        ·refine zy5 ?_
         refine Wb 106 rfl (fun hg10 => ?_) (fun hg10 => ?_)
         ·refine zs5 ?_
          refine zR ?_
          (refine lfb fun hz => ?_; clear pm pA pB p1 p2 p3 p4 hv ha hb wA wB; ((simp only [dnL] at * <;> omega)))
         ·refine z6 ?_
          iterate 2 refine z6 ?_
          refine zs2 ?_
          refine zR ?_
          (refine lfb fun hz => ?_; clear pm pA pB p1 p2 p3 p4 hv ha hb wA wB; ((simp only [dnL] at * <;> omega)))
        ·refine z6 ?_
         iterate 2 refine z6 ?_
         refine zy2 ?_
         iterate 3 refine z6 ?_
         refine zs2 ?_
         refine zR ?_
         contradiction
       ·refine Wj ?_
        refine zp5 ?_
        refine Wa 115 rfl (congrArg (fun z => PV.val (Value.int .i64 z)) e115) ?_
        refine z1 ?_
        refine Wa 116 rfl (congrArg (fun z => PV.val (Value.int .i64 z)) e116) ?_
        refine zs1 ?_
        refine Ws ?_
        refine V3.W_drawD_3 [1, 0, 0, 0, 0, 0, 0, 0, 0, 0] [0, 1, 2, 3, 4, 5, 6, 7, 8, 9] mG rfl (by kernel_rfl) ?_
        refine V3.z5_3 ?_
        iterate 2 refine V3.z3_3 ?_
        refine V3.z4_3 ?_ (q := (by (simp only [dnL] at *; omega)))
        refine V3.WU_as_3 121 rfl (sq_slice cStr 1 (fun _ => rfl) (by omega)) ?_
        refine V3.WU_as_3 121 rfl (take_strs) ?_
        refine V3.WU_call0_3 rfl rfl rfl rfl (fun _ => dC rfl Try.func9 rfl rfl ((p4) _)) ?_
        iterate 5 refine V3.z3_3 ?_
        refine V3.WU_nil_3 ?_
        refine zp2 ?_
        refine Wb 126 rfl (fun hg11 => ?_) (fun hg11 => ?_)
        ·refine zy4 ?_
         refine Wb 130 rfl (fun hg12 => ?_) (fun hg12 => ?_)
         ·refine z6 ?_
          refine z6 ?_
          refine zy2 ?_
          iterate 2 refine z6 ?_
          refine zy5 ?_
          refine z1 ?_
          refine Wb 142 rfl (fun hg13 => ?_) (fun hg13 => ?_)
          ·refine z6 ?_
           iterate 2 refine z6 ?_
           refine zy2 ?_
           iterate 2 refine z6 ?_
           refine zy2 ?_
           iterate 2 refine z6 ?_
           refine zs3 ?_
           refine zR ?_
           rfl
          ·refine zy5 ?_
           refine Wb 147 rfl (fun hg14 => ?_) (fun hg14 => ?_)
           ·refine z6 ?_
            refine z6 ?_
            refine zy2 ?_
            iterate 2 refine z6 ?_
            refine zs3 ?_
            refine zR ?_
            rfl
           ·refine zy4 ?_
            refine Wb 151 rfl (fun hg15 => ?_) (fun hg15 => ?_)
            ·refine z6 ?_
             refine z6 ?_
             refine zs3 ?_
             refine zR ?_
             rfl
            ·refine zs5 ?_
             refine zR ?_
             (refine lfb fun hz => ?_; clear pm pA pB p1 p2 p3 p4 hv ha hb wA wB; ((simp only [dnL] at * <;> omega)))
         ·refine zy4 ?_
          refine Wb 134 rfl (fun hg16 => ?_) (fun hg16 => ?_)
          ·refine z6 ?_
           refine z6 ?_
           refine zy5 ?_
           refine z1 ?_
           refine Wb 142 rfl (fun hg13 => ?_) (fun hg13 => ?_)
           ·refine z6 ?_
            iterate 2 refine z6 ?_
            refine zy2 ?_
            iterate 2 refine z6 ?_
            refine zy2 ?_
            iterate 2 refine z6 ?_
            refine zs3 ?_
            refine zR ?_
            rfl
           ·refine zy5 ?_
            refine Wb 147 rfl (fun hg14 => ?_) (fun hg14 => ?_)
            ·refine z6 ?_
             refine z6 ?_
             refine zy2 ?_
             iterate 2 refine z6 ?_
             refine zs3 ?_
             refine zR ?_
             rfl
            ·refine zy4 ?_
             refine Wb 151 rfl (fun hg15 => ?_) (fun hg15 => ?_)
             ·refine z6 ?_
              refine z6 ?_
              refine zs3 ?_
              refine zR ?_
              rfl
             ·refine zs5 ?_
              refine zR ?_
              (refine lfb fun hz => ?_; clear pm pA pB p1 p2 p3 p4 hv ha hb wA wB; ((simp only [dnL] at * <;> omega)))
          ·refine zy5 ?_
           refine Wb 139 rfl (fun hg17 => ?_) (fun hg17 => ?_)
           ·refine zy3 ?_
            refine Wb 142 rfl (fun hg13 => ?_) (fun hg13 => ?_)
            ·refine z6 ?_
             iterate 2 refine z6 ?_
             refine zy2 ?_
             iterate 2 refine z6 ?_
             refine zy2 ?_
             iterate 2 refine z6 ?_
             refine zs3 ?_
             refine zR ?_
             rfl
            ·refine zy5 ?_
             refine Wb 147 rfl (fun hg14 => ?_) (fun hg14 => ?_)
             ·refine z6 ?_
              refine z6 ?_
              refine zy2 ?_
              iterate 2 refine z6 ?_
              refine zs3 ?_
              refine zR ?_
              rfl
             ·refine zy4 ?_
              refine Wb 151 rfl (fun hg15 => ?_) (fun hg15 => ?_)
              ·refine z6 ?_
               refine z6 ?_
               refine zs3 ?_
               refine zR ?_
               rfl
              ·refine zs5 ?_
               refine zR ?_
               (refine lfb fun hz => ?_; clear pm pA pB p1 p2 p3 p4 hv ha hb wA wB; ((simp only [dnL] at * <;> omega)))
           ·refine z6 ?_
            iterate 14 refine z6 ?_
            refine zs2 ?_
            refine zR ?_
            (refine lfb fun hz => ?_; clear pm pA pB p1 p2 p3 p4 hv ha hb wA wB; ((simp only [dnL] at * <;> omega)))
        ·refine z6 ?_
         iterate 10 refine z6 ?_
         refine zy2 ?_
         iterate 15 refine z6 ?_
         refine zs2 ?_
         refine zR ?_
         contradiction
theorem walk_AstMay (v0 : Value) (w : World) (r0 : Reads w 53 v0) :
  Calls Try.prog 4 #[v0] w fun e w' => e = .returned (.bool true) ∧ Below w.heap.size w w' := by
 obtain ⟨x, hx, e0⟩ := reads_mayin r0
 exact law_calls (law_AstMay x.v x.a x.b x.cut hx.v hx.a hx.b) (repL_cons.2 ⟨e0, repL_nil.2 rfl⟩)
end Go.Proofs.Ytlponhgbbfgkgaa
