import Derived.Test.YtiibjcnedbncjaaPk3
set_option linter.unusedVariables false
set_option linter.unusedSimpArgs false
namespace Go.Proofs.Ytiibjcnedbncjaa
open Go.RowKit
set_option maxRecDepth 100000
set_option maxHeartbeats 8000000
def idxF (l : List Str) (s : Str) : Nat → Nat → Int
 | 0, _ => -1
 | m + 1, k => if s = l.getD k [] then (k : Int) else idxF l s m (k + 1)
theorem idxF_ge (l : List Str) (s : Str) : ∀ m k, (0 ≤ idxF l s m k) ↔ ∃ j, j < m ∧ s = l.getD (k + j) []
 | 0, k => by
  unfold idxF
  constructor
  ·intro h; omega
  ·rintro ⟨j, h, _⟩; omega
 | m + 1, k => by
  unfold idxF
  by_cases h : s = l.getD k []
  ·rw [if_pos h]; exact ⟨fun _ => ⟨0, by omega, h⟩, fun _ => by omega⟩
  ·rw [if_neg h, idxF_ge l s m (k + 1)]
   constructor
   ·rintro ⟨j, h1, h2⟩; exact ⟨j + 1, by omega, by rw [h2]; congr 1; omega⟩
   ·rintro ⟨j, h1, h2⟩
    match j, h1, h2 with
    | 0, _, h2 => exact absurd h2 h
    | j + 1, h1, h2 => exact ⟨j, by omega, by rw [h2]; congr 1; omega⟩
theorem idxF_mem (l : List Str) (s : Str) : decide (idxF l s l.length 0 ≥ 0) = decide (s ∈ l) := by
 rw [Bool.eq_iff_iff, decide_eq_true_eq, decide_eq_true_eq]
 refine (idxF_ge l s l.length 0).trans ⟨?_, fun h => ?_⟩
 ·rintro ⟨j, h1, rfl⟩
  rw [Nat.zero_add, List.getD_eq_getElem?_getD, List.getElem?_eq_getElem h1]
  exact List.getElem_mem _
 ·obtain ⟨j, h1, h2⟩ := List.getElem_of_mem h
  exact ⟨j, h1, by rw [Nat.zero_add, List.getD_eq_getElem?_getD, List.getElem?_eq_getElem h1]; exact h2.symm⟩
theorem idxF_step {l : List Str} {s : Str} {k : Nat} (hk : k < l.length) (h : ¬ s = l.getD k []) : idxF l s (l.length - k) k = idxF l s (l.length - (k + 1)) (k + 1) := by
 rw [show l.length - k = (l.length - (k + 1)) + 1 by omega]
 show (if s = l.getD k [] then _ else _) = _
 rw [if_neg h]
theorem idxF_hit {l : List Str} {s : Str} {k : Nat} (hk : k < l.length) (h : s = l.getD k []) : idxF l s (l.length - k) k = (k : Int) := by
 rw [show l.length - k = (l.length - (k + 1)) + 1 by omega]
 show (if s = l.getD k [] then _ else _) = _
 rw [if_pos h]
theorem str_Index (l : List Str) (s : Str) (hl : l.length ≤ 1000000) : PureC Try.prog 109 [sq cStr l, str s] (i64 (idxF l s l.length 0)) := by
 refine pW tG (rs := [.tmp 4]) Try.func109 rfl rfl rfl (by simp) (by simp) (fun B => ?_)
 refine zu1 ?_
 refine Ws ?_
 refine zu3 ?_
 refine Wl ?_
 show W _ _ _ _ _ _ _
 refine W_loopS (fun (k : Nat) => [(0, sq cStr l), (1, str s), (4, i64 0), (7, i64 (l.length : Int)), (8, i64 (k : Int))]) (fun (k : Nat) => []) (fun (k : Nat) => []) (fun (k : Nat) => k ≤ l.length ∧ idxF l s l.length 0 = idxF l s (l.length - k) k) (fun (k : Nat) => l.length - k) (0) (by exact ⟨Nat.zero_le _, rfl⟩) [] ?_ ?_
 ·exact fitT
 ·intro k hk
  refine zu1 ?_
  refine Ws ?_
  refine Wi rfl (fun hi1 => ?_) (fun hi1 => ?_)
  ·have hlt : k < l.length := by have := oT hi1; omega
   refine Wj ?_
   refine Ws ?_
   refine Wl ?_
   refine zu2 ?_
   refine zp3 ?_
   refine Wv tG rfl rfl rfl (by omega) (iN cStr 1 (fun _ => rfl) [] (by omega)) ?_
   refine zy2 ?_
   refine zq 16 ?_
   refine Wn ?_
   refine Wi rfl (fun hi2 => ?_) (fun hi2 => ?_)
   ·have q : s = l.getD k [] := oT hi2
    refine zu2 ?_
    refine zR ?_
    rw [hk.2, idxF_hit hlt q]; rfl
   ·have q : ¬ s = l.getD k [] := oF hi2
    refine Wj ?_
    refine W_region rfl ?_
    refine zs2 ?_
    exact ⟨k + 1, [], (by exact ⟨by omega, hk.2.trans (idxF_step hlt q)⟩), (by omega), fitT⟩
  ·have hge : l.length - k = 0 := by have := oF hi1; omega
   refine W_exit ?_
   refine zu1 ?_
   refine zR ?_
   rw [hk.2, hge]; rfl
theorem str_Contains (l : List Str) (s : Str) (hl : l.length ≤ 1000000) : PureC Try.prog 102 [sq cStr l, str s] (boo (decide (s ∈ l))) := by
 refine pW tG (rs := [.tmp 4]) Try.func102 rfl rfl rfl (by simp) (by simp) (fun B => ?_)
 refine zu1 ?_
 refine zp2 ?_
 refine zc rfl Try.func109 ((str_Index l s hl) _) ?_
 refine zs2 ?_
 refine zR ?_
 exact congrArg boo (idxF_mem l s)
def rowR (R : Rdr) (s : PSt) : PRes := loopP R (s.rest.length + 1) s []
def RowWs (v : VVm) (ws : List Str) (s : PSt) : Prop := ∀ (H : List Ob) (i : Nat), H[i]? = some (.cells (cRd v ws s) 73) →
 HC Try.prog 23 [.ptr i 0] H (tup2 (sq cNode (rowR (readerS v) s).2.1) (str (rowR (readerS v) s).2.2)) (H.set i (.cells (cRd v ws (rowR (readerS v) s).1) 73))
theorem body_yes {row : PSt → PRes} {s : PSt} {ends : List Str} (h : (row s).1.bad = 0 ∧ (row s).2.2 ∉ ends) : bodyP row s ends = (endsP (row s).1 (row s).2.2, (row s).2.1, (row s).2.2) := by unfold bodyP; dsimp only; rw [if_pos h]
theorem body_no {row : PSt → PRes} {s : PSt} {ends : List Str} (h : ¬ ((row s).1.bad = 0 ∧ (row s).2.2 ∉ ends)) : bodyP row s ends = row s := by unfold bodyP; dsimp only; rw [if_neg h]
theorem rd_body (v : VVm) (ws : List Str) (s : PSt) (ends : List Str) (he : ends.length ≤ 10) (hrow : RowWs v ws s) : ∀ (H : List Ob) (i : Nat), H[i]? = some (.cells (cRd v ws s) 73) → HC Try.prog 91 (.ptr i 0 :: [sq cStr ends]) H (tup2 (sq cNode (bodyP (rowR (readerS v)) s ends).2.1) (str (bodyP (rowR (readerS v)) s ends).2.2)) (H.set i (.cells (cRd v ws (bodyP (rowR (readerS v)) s ends).1) 73)) := by
 refine mut_of_W tG (rs := [.tmp 4, .tmp 5]) Try.func91 rfl rfl rfl (by simp) (by simp) (by simp) (by simp) (fun B => ?_)
 refine zu2 ?_
 refine zp1 ?_
 refine zc rfl Try.func23 (hrow _ _ rfl) ?_
 refine zs5 ?_
 refine Ws ?_
 refine zp5 ?_
 refine z1 ?_
 refine Wb 18 rfl (fun hg1 => ?_) (fun hg1 => ?_)
 ·have q1 : (rowR (readerS v) s).1.bad = 0 := by simpa using hg1
  refine zy2 ?_
  refine zc rfl Try.func102 ((str_Contains ends _ (by omega)) _) ?_
  refine zs2 ?_
  refine Wi rfl (fun hi1 => ?_) (fun hi1 => ?_)
  ·have q2 : (rowR (readerS v) s).1.bad = 0 ∧ (rowR (readerS v) s).2.2 ∉ ends := ⟨q1, by simpa using hi1⟩
   refine W_region rfl ?_
   refine zy2 ?_
   refine zc rfl Try.func24 ((rd_ends v ws (rowR (readerS v) s).1 _) _ _ rfl) ?_
   refine Wn ?_
   refine zu4 ?_
   refine Wq ?_
   refine leafM rfl rfl ?_ ?_
   ·(rw [body_yes q2]; rfl)
   ·(rw [body_yes q2]; rfl)
  ·have q2 : ¬ ((rowR (readerS v) s).1.bad = 0 ∧ (rowR (readerS v) s).2.2 ∉ ends) := fun h => absurd h.2 (by simpa using hi1)
   refine Wj ?_
   refine zu4 ?_
   refine Wq ?_
   refine leafM rfl rfl ?_ ?_
   ·(rw [body_no q2]; rfl)
   ·(rw [body_no q2]; rfl)
 ·have q1 : ¬ (rowR (readerS v) s).1.bad = 0 := by simpa using hg1
  have q2 : ¬ ((rowR (readerS v) s).1.bad = 0 ∧ (rowR (readerS v) s).2.2 ∉ ends) := fun h => q1 h.1
  iterate 4 refine z6 ?_
  refine zs1 ?_
  refine Wf rfl rfl ?_
  refine Wj ?_
  refine zu4 ?_
  refine Wq ?_
  refine leafM rfl rfl ?_ ?_
  ·(rw [body_no q2]; rfl)
  ·(rw [body_no q2]; rfl)
structure Bd (k : Nat) (s : PSt) : Prop where
 o0 : 0 ≤ s.opn
 l0 : 0 ≤ s.loops
 o1 : s.opn + s.rest.length + k ≤ 1000000
 l1 : s.loops + s.rest.length + k ≤ 1000000
theorem rowR_keeps (v : VVm) (s : PSt) : (rowR (readerS v) s).1.opn = s.opn ∧ (rowR (readerS v) s).1.loops = s.loops := loop_keeps (readerS_ok v) _ s []
theorem rowR_suf (R : Rdr) (s : PSt) : (rowR R s).1.rest <:+ s.rest := loop_suf R _ s []
theorem body_keeps (v : VVm) (s : PSt) (ends : List Str) : (bodyP (rowR (readerS v)) s ends).1.opn = s.opn ∧ (bodyP (rowR (readerS v)) s ends).1.loops = s.loops := by
 have k := rowR_keeps v s
 unfold bodyP
 dsimp only
 split
 ·exact ⟨(ends_o _ _).1.trans k.1, (ends_o _ _).2.1.trans k.2⟩
 ·exact k
theorem opens_keeps (s : PSt) : (opensP s).opn = s.opn + 1 ∧ (opensP s).loops = s.loops ∧ (opensP s).rest = s.rest := by
 refine ⟨?_, ?_, opens_rest s⟩
 ·unfold opensP
  by_cases q : 16 ≤ s.opn
  ·rw [if_pos q]; show (s.fail (-22)).opn + 1 = _; rw [(fail_o s _).1]
  ·rw [if_neg q]
 ·unfold opensP
  by_cases q : 16 ≤ s.opn
  ·rw [if_pos q]; exact (fail_o s _).2.1
  ·rw [if_neg q]
theorem Bd.suf {k : Nat} {s t : PSt} (h : Bd k s) (h1 : t.opn = s.opn) (h2 : t.loops = s.loops) (h3 : t.rest <:+ s.rest) : Bd k t := by
 have := h3.length_le
 exact ⟨by rw [h1]; exact h.o0, by rw [h2]; exact h.l0, by have := h.o1; rw [h1]; omega, by have := h.l1; rw [h2]; omega⟩
theorem Bd.opens {s : PSt} (h : Bd 1 s) : Bd 0 (opensP s) := by
 obtain ⟨k1, k2, k3⟩ := opens_keeps s
 exact ⟨by have := h.o0; rw [k1]; omega, by rw [k2]; exact h.l0, by have := h.o1; rw [k1, k3]; omega, by have := h.l1; rw [k2, k3]; omega⟩
theorem if_y {row : PSt → PRes} {s : PSt} (e : (bodyP row (opensP s) [[69, 76, 83, 69], [84, 72, 69, 78]]).2.2 = [69, 76, 83, 69]) : ifP row s = (shutP (bodyP row (bodyP row (opensP s) [[69, 76, 83, 69], [84, 72, 69, 78]]).1 [[84, 72, 69, 78]]).1, .mk 3 1 (bodyP row (opensP s) [[69, 76, 83, 69], [84, 72, 69, 78]]).2.1 (bodyP row (bodyP row (opensP s) [[69, 76, 83, 69], [84, 72, 69, 78]]).1 [[84, 72, 69, 78]]).2.1) := by
 unfold ifP; dsimp only; rw [if_pos e]
theorem if_n {row : PSt → PRes} {s : PSt} (e : ¬ (bodyP row (opensP s) [[69, 76, 83, 69], [84, 72, 69, 78]]).2.2 = [69, 76, 83, 69]) : ifP row s = (shutP (bodyP row (opensP s) [[69, 76, 83, 69], [84, 72, 69, 78]]).1, .mk 3 0 (bodyP row (opensP s) [[69, 76, 83, 69], [84, 72, 69, 78]]).2.1 []) := by
 unfold ifP; dsimp only; rw [if_neg e]
theorem begin_a {row : PSt → PRes} {s : PSt} (e : (bodyP row (opensP s) [[85, 78, 84, 73, 76], [65, 71, 65, 73, 78], [87, 72, 73, 76, 69]]).2.2 = [65, 71, 65, 73, 78]) : beginP row s = (shutP (bodyP row (opensP s) [[85, 78, 84, 73, 76], [65, 71, 65, 73, 78], [87, 72, 73, 76, 69]]).1, .mk 5 0 (bodyP row (opensP s) [[85, 78, 84, 73, 76], [65, 71, 65, 73, 78], [87, 72, 73, 76, 69]]).2.1 []) := by
 unfold beginP; dsimp only; rw [if_pos e]
theorem begin_w {row : PSt → PRes} {s : PSt} (n : ¬ (bodyP row (opensP s) [[85, 78, 84, 73, 76], [65, 71, 65, 73, 78], [87, 72, 73, 76, 69]]).2.2 = [65, 71, 65, 73, 78]) (e : (bodyP row (opensP s) [[85, 78, 84, 73, 76], [65, 71, 65, 73, 78], [87, 72, 73, 76, 69]]).2.2 = [87, 72, 73, 76, 69]) : beginP row s = (shutP (bodyP row (bodyP row (opensP s) [[85, 78, 84, 73, 76], [65, 71, 65, 73, 78], [87, 72, 73, 76, 69]]).1 [[82, 69, 80, 69, 65, 84]]).1, .mk 6 0 (bodyP row (opensP s) [[85, 78, 84, 73, 76], [65, 71, 65, 73, 78], [87, 72, 73, 76, 69]]).2.1 (bodyP row (bodyP row (opensP s) [[85, 78, 84, 73, 76], [65, 71, 65, 73, 78], [87, 72, 73, 76, 69]]).1 [[82, 69, 80, 69, 65, 84]]).2.1) := by
 unfold beginP; dsimp only; rw [if_neg n, if_pos e]
theorem begin_u {row : PSt → PRes} {s : PSt} (n : ¬ (bodyP row (opensP s) [[85, 78, 84, 73, 76], [65, 71, 65, 73, 78], [87, 72, 73, 76, 69]]).2.2 = [65, 71, 65, 73, 78]) (e : ¬ (bodyP row (opensP s) [[85, 78, 84, 73, 76], [65, 71, 65, 73, 78], [87, 72, 73, 76, 69]]).2.2 = [87, 72, 73, 76, 69]) : beginP row s = (shutP (bodyP row (opensP s) [[85, 78, 84, 73, 76], [65, 71, 65, 73, 78], [87, 72, 73, 76, 69]]).1, .mk 4 0 (bodyP row (opensP s) [[85, 78, 84, 73, 76], [65, 71, 65, 73, 78], [87, 72, 73, 76, 69]]).2.1 []) := by
 unfold beginP; dsimp only; rw [if_neg n, if_neg e]
def inLp (s : PSt) : PSt := { opensP s with loops := (opensP s).loops + 1 }
theorem loopN_y {row : PSt → PRes} {s : PSt} {ask : Int} (e : (bodyP row (inLp s) [[76, 79, 79, 80], [43, 76, 79, 79, 80]]).2.2 = [43, 76, 79, 79, 80]) : (loopN row ask s).2 = .mk 8 ask (bodyP row (inLp s) [[76, 79, 79, 80], [43, 76, 79, 79, 80]]).2.1 [] := by
 show VNode.mk (if (bodyP row (inLp s) [[76, 79, 79, 80], [43, 76, 79, 79, 80]]).2.2 = [43, 76, 79, 79, 80] then 8 else 7) ask (bodyP row (inLp s) [[76, 79, 79, 80], [43, 76, 79, 79, 80]]).2.1 [] = _
 rw [if_pos e]
theorem loopN_n {row : PSt → PRes} {s : PSt} {ask : Int} (e : ¬ (bodyP row (inLp s) [[76, 79, 79, 80], [43, 76, 79, 79, 80]]).2.2 = [43, 76, 79, 79, 80]) : (loopN row ask s).2 = .mk 7 ask (bodyP row (inLp s) [[76, 79, 79, 80], [43, 76, 79, 79, 80]]).2.1 [] := by
 show VNode.mk (if (bodyP row (inLp s) [[76, 79, 79, 80], [43, 76, 79, 79, 80]]).2.2 = [43, 76, 79, 79, 80] then 8 else 7) ask (bodyP row (inLp s) [[76, 79, 79, 80], [43, 76, 79, 79, 80]]).2.1 [] = _
 rw [if_neg e]
section
variable (v : VVm) (ws : List Str) (s : PSt) (hb : Bd 1 s) (hrow : ∀ t : PSt, t.rest <:+ s.rest → Bd 0 t → RowWs v ws t)
include hb hrow
theorem rd_if : ∀ (H : List Ob) (i : Nat), H[i]? = some (.cells (cRd v ws s) 73) → HC Try.prog 60 (.ptr i 0 :: []) H (eNode (ifP (rowR (readerS v)) s).2) (H.set i (.cells (cRd v ws (ifP (rowR (readerS v)) s).1) 73)) := by
 have k0 := opens_keeps s
 have b0 := hb.opens
 have k1 := body_keeps v (opensP s) [[69, 76, 83, 69], [84, 72, 69, 78]]
 have s1 := opens_suf (rowR_suf (readerS v)) s [[69, 76, 83, 69], [84, 72, 69, 78]]
 have b1 : Bd 0 (bodyP (rowR (readerS v)) (opensP s) [[69, 76, 83, 69], [84, 72, 69, 78]]).1 := b0.suf k1.1 k1.2 (body_suf (rowR_suf (readerS v)) _ _)
 have k2 := body_keeps v (bodyP (rowR (readerS v)) (opensP s) [[69, 76, 83, 69], [84, 72, 69, 78]]).1 [[84, 72, 69, 78]]
 have ho := hb.o0
 have ho1 := hb.o1
 have w1 : IntKind.i64.wrap ((bodyP (rowR (readerS v)) (opensP s) [[69, 76, 83, 69], [84, 72, 69, 78]]).1.opn - 1) = (bodyP (rowR (readerS v)) (opensP s) [[69, 76, 83, 69], [84, 72, 69, 78]]).1.opn - 1 := i64_ok2 (by rw [k1.1, k0.1]; omega) (by rw [k1.1, k0.1]; omega)
 have w2 : IntKind.i64.wrap ((bodyP (rowR (readerS v)) (bodyP (rowR (readerS v)) (opensP s) [[69, 76, 83, 69], [84, 72, 69, 78]]).1 [[84, 72, 69, 78]]).1.opn - 1) = (bodyP (rowR (readerS v)) (bodyP (rowR (readerS v)) (opensP s) [[69, 76, 83, 69], [84, 72, 69, 78]]).1 [[84, 72, 69, 78]]).1.opn - 1 := i64_ok2 (by rw [k2.1, k1.1, k0.1]; omega) (by rw [k2.1, k1.1, k0.1]; omega)
 refine mut_of_W tG (rs := [.cell 2 65]) Try.func60 rfl rfl rfl (by simp) (by simp) (by simp) (by simp) (fun B => ?_)
 refine zu1 ?_
 refine zp1 ?_
 refine zc rfl Try.func90 ((rd_opens v ws s ho (by omega)) _ _ rfl) ?_
 refine Wn ?_
 refine zu3 ?_
 refine zp2 ?_
 refine Wa 11 rfl (bsL cStr [_, _] rfl rfl) ?_
 refine zc rfl Try.func91 ((rd_body v ws (opensP s) [[69, 76, 83, 69], [84, 72, 69, 78]] (by decide) (hrow _ (by rw [k0.2.2]; exact List.suffix_refl _) b0)) _ _ rfl) ?_
 refine zs5 ?_
 refine zu3 ?_
 refine Ws ?_
 refine zp2 ?_
 refine zq 18 ?_
 refine Wn ?_
 refine Wi rfl (fun hi1 => ?_) (fun hi1 => ?_)
 ·have q : (bodyP (rowR (readerS v)) (opensP s) [[69, 76, 83, 69], [84, 72, 69, 78]]).2.2 = [69, 76, 83, 69] := oT hi1
  refine zu2 ?_
  refine W_region rfl ?_
  refine zy2 ?_
  refine Wa 22 rfl (bsL cStr [_] rfl rfl) ?_
  refine zc rfl Try.func91 ((rd_body v ws _ [[84, 72, 69, 78]] (by decide) (hrow _ s1 b1)) _ _ rfl) ?_
  refine zs5 ?_
  refine zp5 ?_
  refine Wa 31 rfl (congrArg (fun z => PV.val (Value.int .i64 z)) (by exact w2)) ?_
  refine zs3 ?_
  refine zu2 ?_
  refine Wq ?_
  refine leafM rfl rfl ?_ ?_
  ·(rw [if_y q]; exact node_eq _ _ _ _)
  ·(rw [if_y q]; rfl)
 ·have q : ¬ (bodyP (rowR (readerS v)) (opensP s) [[69, 76, 83, 69], [84, 72, 69, 78]]).2.2 = [69, 76, 83, 69] := oF hi1
  refine Wj ?_
  refine zp5 ?_
  refine Wa 31 rfl (congrArg (fun z => PV.val (Value.int .i64 z)) (by exact w1)) ?_
  refine zs3 ?_
  refine zu2 ?_
  refine Wq ?_
  refine leafM rfl rfl ?_ ?_
  ·(rw [if_n q]; exact node_eq _ _ _ [])
  ·(rw [if_n q]; rfl)
theorem rd_begin : ∀ (H : List Ob) (i : Nat), H[i]? = some (.cells (cRd v ws s) 73) → HC Try.prog 61 (.ptr i 0 :: []) H (eNode (beginP (rowR (readerS v)) s).2) (H.set i (.cells (cRd v ws (beginP (rowR (readerS v)) s).1) 73)) := by
 have k0 := opens_keeps s
 have b0 := hb.opens
 have k1 := body_keeps v (opensP s) [[85, 78, 84, 73, 76], [65, 71, 65, 73, 78], [87, 72, 73, 76, 69]]
 have s1 := opens_suf (rowR_suf (readerS v)) s [[85, 78, 84, 73, 76], [65, 71, 65, 73, 78], [87, 72, 73, 76, 69]]
 have b1 : Bd 0 (bodyP (rowR (readerS v)) (opensP s) [[85, 78, 84, 73, 76], [65, 71, 65, 73, 78], [87, 72, 73, 76, 69]]).1 := b0.suf k1.1 k1.2 (body_suf (rowR_suf (readerS v)) _ _)
 have k2 := body_keeps v (bodyP (rowR (readerS v)) (opensP s) [[85, 78, 84, 73, 76], [65, 71, 65, 73, 78], [87, 72, 73, 76, 69]]).1 [[82, 69, 80, 69, 65, 84]]
 have ho := hb.o0
 have ho1 := hb.o1
 have w1 : IntKind.i64.wrap ((bodyP (rowR (readerS v)) (opensP s) [[85, 78, 84, 73, 76], [65, 71, 65, 73, 78], [87, 72, 73, 76, 69]]).1.opn - 1) = (bodyP (rowR (readerS v)) (opensP s) [[85, 78, 84, 73, 76], [65, 71, 65, 73, 78], [87, 72, 73, 76, 69]]).1.opn - 1 := i64_ok2 (by rw [k1.1, k0.1]; omega) (by rw [k1.1, k0.1]; omega)
 have w2 : IntKind.i64.wrap ((bodyP (rowR (readerS v)) (bodyP (rowR (readerS v)) (opensP s) [[85, 78, 84, 73, 76], [65, 71, 65, 73, 78], [87, 72, 73, 76, 69]]).1 [[82, 69, 80, 69, 65, 84]]).1.opn - 1) = (bodyP (rowR (readerS v)) (bodyP (rowR (readerS v)) (opensP s) [[85, 78, 84, 73, 76], [65, 71, 65, 73, 78], [87, 72, 73, 76, 69]]).1 [[82, 69, 80, 69, 65, 84]]).1.opn - 1 := i64_ok2 (by rw [k2.1, k1.1, k0.1]; omega) (by rw [k2.1, k1.1, k0.1]; omega)
 refine mut_of_W tG (rs := [.cell 2 65]) Try.func61 rfl rfl rfl (by simp) (by simp) (by simp) (by simp) (fun B => ?_)
 refine zu1 ?_
 refine zp1 ?_
 refine zc rfl Try.func90 ((rd_opens v ws s ho (by omega)) _ _ rfl) ?_
 refine Wn ?_
 refine zp2 ?_
 refine Wa 10 rfl (bsL cStr [_, _, _] rfl rfl) ?_
 refine zc rfl Try.func91 ((rd_body v ws (opensP s) [[85, 78, 84, 73, 76], [65, 71, 65, 73, 78], [87, 72, 73, 76, 69]] (by decide) (hrow _ (by rw [k0.2.2]; exact List.suffix_refl _) b0)) _ _ rfl) ?_
 refine zs5 ?_
 refine zu4 ?_
 refine Ws ?_
 refine zu1 ?_
 refine Wl ?_
 refine zp1 ?_
 refine zq 18 ?_
 refine zs1 ?_
 refine Wi rfl (fun hi1 => ?_) (fun hi1 => ?_)
 ·have q1 : (bodyP (rowR (readerS v)) (opensP s) [[85, 78, 84, 73, 76], [65, 71, 65, 73, 78], [87, 72, 73, 76, 69]]).2.2 = [65, 71, 65, 73, 78] := oT hi1
  refine W_region rfl ?_
  refine zs2 ?_
  refine zp5 ?_
  refine Wa 34 rfl (congrArg (fun z => PV.val (Value.int .i64 z)) (by exact w1)) ?_
  refine zs3 ?_
  refine zu2 ?_
  refine Wq ?_
  refine leafM rfl rfl ?_ ?_
  ·(rw [begin_a q1]; exact node_eq _ _ _ [])
  ·(rw [begin_a q1]; rfl)
 ·have q1 : ¬ (bodyP (rowR (readerS v)) (opensP s) [[85, 78, 84, 73, 76], [65, 71, 65, 73, 78], [87, 72, 73, 76, 69]]).2.2 = [65, 71, 65, 73, 78] := oF hi1
  refine zp1 ?_
  refine zq 21 ?_
  refine zs1 ?_
  refine Wi rfl (fun hi2 => ?_) (fun hi2 => ?_)
  ·have q2 : (bodyP (rowR (readerS v)) (opensP s) [[85, 78, 84, 73, 76], [65, 71, 65, 73, 78], [87, 72, 73, 76, 69]]).2.2 = [87, 72, 73, 76, 69] := oT hi2
   refine zu2 ?_
   refine W_region rfl ?_
   refine zy2 ?_
   refine Wa 25 rfl (bsL cStr [_] rfl rfl) ?_
   refine zc rfl Try.func91 ((rd_body v ws _ [[82, 69, 80, 69, 65, 84]] (by decide) (hrow _ s1 b1)) _ _ rfl) ?_
   refine zs5 ?_
   refine zp5 ?_
   refine Wa 34 rfl (congrArg (fun z => PV.val (Value.int .i64 z)) (by exact w2)) ?_
   refine zs3 ?_
   refine zu2 ?_
   refine Wq ?_
   refine leafM rfl rfl ?_ ?_
   ·(rw [begin_w q1 q2]; exact node_eq _ _ _ _)
   ·(rw [begin_w q1 q2]; rfl)
  ·have q2 : ¬ (bodyP (rowR (readerS v)) (opensP s) [[85, 78, 84, 73, 76], [65, 71, 65, 73, 78], [87, 72, 73, 76, 69]]).2.2 = [87, 72, 73, 76, 69] := oF hi2
   refine Wj ?_
   refine zp5 ?_
   refine Wa 34 rfl (congrArg (fun z => PV.val (Value.int .i64 z)) (by exact w1)) ?_
   refine zs3 ?_
   refine zu2 ?_
   refine Wq ?_
   refine leafM rfl rfl ?_ ?_
   ·(rw [begin_u q1 q2]; exact node_eq _ _ _ [])
   ·(rw [begin_u q1 q2]; rfl)
theorem rd_loop (ask : Int) : ∀ (H : List Ob) (i : Nat), H[i]? = some (.cells (cRd v ws s) 73) → HC Try.prog 92 (.ptr i 0 :: [i64 ask]) H (eNode (loopN (rowR (readerS v)) ask s).2) (H.set i (.cells (cRd v ws (loopN (rowR (readerS v)) ask s).1) 73)) := by
 have k0 := opens_keeps s
 have b0 := hb.opens
 have hl0 := hb.l0
 have hl1 := hb.l1
 have eI : (inLp s).rest.length = s.rest.length := by rw [show (inLp s).rest = s.rest from k0.2.2]
 have eL : (inLp s).loops = s.loops + 1 := by show (opensP s).loops + 1 = _; rw [k0.2.1]
 have bI : Bd 0 (inLp s) := ⟨b0.o0, by rw [eL]; omega, b0.o1, by rw [eL, eI]; omega⟩
 have k1 := body_keeps v (inLp s) [[76, 79, 79, 80], [43, 76, 79, 79, 80]]
 have ho := hb.o0
 have ho1 := hb.o1
 have e1 : (bodyP (rowR (readerS v)) (inLp s) [[76, 79, 79, 80], [43, 76, 79, 79, 80]]).1.opn = s.opn + 1 := by rw [k1.1]; exact k0.1
 have e2 : (bodyP (rowR (readerS v)) (inLp s) [[76, 79, 79, 80], [43, 76, 79, 79, 80]]).1.loops = s.loops + 1 := by rw [k1.2]; show (opensP s).loops + 1 = _; rw [k0.2.1]
 have w0 : IntKind.i64.wrap ((opensP s).loops + 1) = (opensP s).loops + 1 := i64_ok2 (by rw [k0.2.1]; omega) (by rw [k0.2.1]; omega)
 have w1 : IntKind.i64.wrap ((bodyP (rowR (readerS v)) (inLp s) [[76, 79, 79, 80], [43, 76, 79, 79, 80]]).1.opn - 1) = (bodyP (rowR (readerS v)) (inLp s) [[76, 79, 79, 80], [43, 76, 79, 79, 80]]).1.opn - 1 := i64_ok2 (by rw [e1]; omega) (by rw [e1]; omega)
 have w2 : IntKind.i64.wrap ((bodyP (rowR (readerS v)) (inLp s) [[76, 79, 79, 80], [43, 76, 79, 79, 80]]).1.loops - 1) = (bodyP (rowR (readerS v)) (inLp s) [[76, 79, 79, 80], [43, 76, 79, 79, 80]]).1.loops - 1 := i64_ok2 (by rw [e2]; omega) (by rw [e2]; omega)
 refine mut_of_W tG (rs := [.cell 4 65]) Try.func92 rfl rfl rfl (by simp) (by simp) (by simp) (by simp) (fun B => ?_)
 refine zu1 ?_
 refine zp1 ?_
 refine zc rfl Try.func90 ((rd_opens v ws s ho (by omega)) _ _ rfl) ?_
 refine Wn ?_
 refine zp5 ?_
 refine Wa 14 rfl (congrArg (fun z => PV.val (Value.int .i64 z)) w0) ?_
 refine zs3 ?_
 refine zp2 ?_
 refine Wa 19 rfl (bsL cStr [_, _] rfl rfl) ?_
 refine zc rfl Try.func91 ((rd_body v ws (inLp s) [[76, 79, 79, 80], [43, 76, 79, 79, 80]] (by decide) (hrow _ (by rw [show (inLp s).rest = s.rest from k0.2.2]; exact List.suffix_refl _) bI)) _ _ rfl) ?_
 refine zs5 ?_
 refine zu5 ?_
 refine Ws ?_
 refine zp2 ?_
 refine zq 27 ?_
 refine Wn ?_
 refine Wi rfl (fun hi1 => ?_) (fun hi1 => ?_)
 ·have q : (bodyP (rowR (readerS v)) (inLp s) [[76, 79, 79, 80], [43, 76, 79, 79, 80]]).2.2 = [43, 76, 79, 79, 80] := oT hi1
  refine W_region rfl ?_
  refine zs2 ?_
  refine zp5 ?_
  refine Wa 33 rfl (congrArg (fun z => PV.val (Value.int .i64 z)) w2) ?_
  refine zs3 ?_
  refine zp5 ?_
  refine Wa 40 rfl (congrArg (fun z => PV.val (Value.int .i64 z)) w1) ?_
  refine zs3 ?_
  refine zu2 ?_
  refine Wq ?_
  refine leafM rfl rfl ?_ ?_
  ·(rw [loopN_y q]; exact node_eq _ _ _ [])
  ·rfl
 ·have q : ¬ (bodyP (rowR (readerS v)) (inLp s) [[76, 79, 79, 80], [43, 76, 79, 79, 80]]).2.2 = [43, 76, 79, 79, 80] := oF hi1
  refine Wj ?_
  refine zp5 ?_
  refine Wa 33 rfl (congrArg (fun z => PV.val (Value.int .i64 z)) w2) ?_
  refine zs3 ?_
  refine zp5 ?_
  refine Wa 40 rfl (congrArg (fun z => PV.val (Value.int .i64 z)) w1) ?_
  refine zs3 ?_
  refine zu2 ?_
  refine Wq ?_
  refine leafM rfl rfl ?_ ?_
  ·(rw [loopN_n q]; exact node_eq _ _ _ [])
  ·rfl
theorem rd_do : ∀ (H : List Ob) (i : Nat), H[i]? = some (.cells (cRd v ws s) 73) → HC Try.prog 62 (.ptr i 0 :: []) H (eNode (loopN (rowR (readerS v)) 0 s).2) (H.set i (.cells (cRd v ws (loopN (rowR (readerS v)) 0 s).1) 73)) := by
 refine mut_of_W tG (rs := [.cell 2 65]) Try.func62 rfl rfl rfl (by simp) (by simp) (by simp) (by simp) (fun B => ?_)
 refine zu1 ?_
 refine zp1 ?_
 refine zc rfl Try.func92 ((rd_loop v ws s hb hrow 0) _ _ rfl) ?_
 refine zs1 ?_
 refine Wq ?_
 refine leafM rfl rfl ?_ ?_
 ·rfl
 ·rfl
theorem rd_ask : ∀ (H : List Ob) (i : Nat), H[i]? = some (.cells (cRd v ws s) 73) → HC Try.prog 63 (.ptr i 0 :: []) H (eNode (loopN (rowR (readerS v)) 1 s).2) (H.set i (.cells (cRd v ws (loopN (rowR (readerS v)) 1 s).1) 73)) := by
 refine mut_of_W tG (rs := [.cell 2 65]) Try.func63 rfl rfl rfl (by simp) (by simp) (by simp) (by simp) (fun B => ?_)
 refine zu1 ?_
 refine zp1 ?_
 refine zc rfl Try.func92 ((rd_loop v ws s hb hrow 1) _ _ rfl) ?_
 refine zs1 ?_
 refine Wq ?_
 refine leafM rfl rfl ?_ ?_
 ·rfl
 ·rfl
end
end Go.Proofs.Ytiibjcnedbncjaa
namespace Go.Proofs.Ytiibjcnedbncjaa
open Go.RowKit
set_option maxRecDepth 100000
set_option maxHeartbeats 8000000
def tabK : List MKey := [.s [73, 70], .s [66, 69, 71, 73, 78], .s [68, 79], .s [63, 68, 79], .s [76, 69, 65, 86, 69], .s [69, 88, 73, 84], .s [82, 69, 67, 85, 82, 83, 69], .s [91, 67, 72, 65, 82, 93], .s [91, 39, 93]]
def tabV (x : PV) : List PV := [.fn (.func 60) [x] [], .fn (.func 61) [x] [], .fn (.func 62) [x] [], .fn (.func 63) [x] [], .fn (.func 64) [x] [], .fn (.func 65) [x] [], .fn (.func 66) [x] [], .fn (.func 67) [x] [], .fn (.func 68) [x] []]
theorem flat_tab (p : Value) : Flat (.smap tabK (tabV (.val p))) := by
 unfold Flat tabV
 simp [FlatL, Flat]
theorem rd_table0 (p : Value) : PureC Try.prog 41 [.val p] (.smap tabK (tabV (.val p))) := by
 refine pW tG (rs := [.tmp 2]) Try.func41 rfl rfl rfl (by (simp [FlatL, Flat]; done)) (by exact flat_tab p) (fun B => ?_)
 refine zu1 ?_
 refine z8 ?_
 refine Wd rfl rfl (does_makeMap rfl) ?_
 refine zy2 ?_
 refine Wd rfl rfl (dI (e := 102) (key := .s [73, 70]) (by kernel_rfl) rfl rfl rfl rfl (by kernel_rfl)) ?_
 refine zy2 ?_
 refine Wd rfl rfl (dI (e := 102) (key := .s [66, 69, 71, 73, 78]) (by kernel_rfl) rfl rfl rfl rfl (by kernel_rfl)) ?_
 refine zy2 ?_
 refine Wd rfl rfl (dI (e := 102) (key := .s [68, 79]) (by kernel_rfl) rfl rfl rfl rfl (by kernel_rfl)) ?_
 refine zy2 ?_
 refine Wd rfl rfl (dI (e := 102) (key := .s [63, 68, 79]) (by kernel_rfl) rfl rfl rfl rfl (by kernel_rfl)) ?_
 refine zy2 ?_
 refine Wd rfl rfl (dI (e := 102) (key := .s [76, 69, 65, 86, 69]) (by kernel_rfl) rfl rfl rfl rfl (by kernel_rfl)) ?_
 refine zy2 ?_
 refine Wd rfl rfl (dI (e := 102) (key := .s [69, 88, 73, 84]) (by kernel_rfl) rfl rfl rfl rfl (by kernel_rfl)) ?_
 refine zy2 ?_
 refine Wd rfl rfl (dI (e := 102) (key := .s [82, 69, 67, 85, 82, 83, 69]) (by kernel_rfl) rfl rfl rfl rfl (by kernel_rfl)) ?_
 refine zy2 ?_
 refine Wd rfl rfl (dI (e := 102) (key := .s [91, 67, 72, 65, 82, 93]) (by kernel_rfl) rfl rfl rfl rfl (by kernel_rfl)) ?_
 refine zy2 ?_
 refine Wd rfl rfl (dI (e := 102) (key := .s [91, 39, 93]) (by kernel_rfl) rfl rfl rfl rfl (by kernel_rfl)) ?_
 refine z1 ?_
 refine WO_freezeM 22 _ rfl rfl rfl ?_
 refine zs1 ?_
 refine zR ?_
 rfl
theorem repL_tab {c : Cx} {p : Value} {x : PV} (hx : ∀ u, u = p → Rep c x u) : ∀ {l : List FuncId} {vs : List Value}, RepL c (l.map fun f => .fn (.func f) [.val p] []) vs → RepL c (l.map fun f => .fn (.func f) [x] []) vs
 | [], vs, h => h
 | f :: l, vs, h => by
  rw [List.map_cons] at h ⊢
  unfold RepL at h ⊢
  obtain ⟨u, us, rfl, h1, h2⟩ := h
  refine ⟨u, us, rfl, ?_, repL_tab hx h2⟩
  unfold Rep at h1 ⊢
  obtain ⟨fs, cs, rfl, h3, h4⟩ := h1
  unfold RepL at h3
  obtain ⟨a, ar, rfl, h5, h6⟩ := h3
  unfold Rep at h5
  exact ⟨a :: ar, cs, rfl, repL_cons.2 ⟨hx a h5, h6⟩, h4⟩
theorem rd_table (i : Nat) (H : List Ob) : HC Try.prog 41 [.ptr i 0] H (.smap tabK (tabV (.ptr i 0))) H := by
 intro B σ w vs s hr
 match vs, hr with
 | [v0], hr =>
  have h0 := (repL_cons.1 hr).1
  refine Calls.mono (rd_table0 v0 H B σ w [v0] s (repL_cons.2 ⟨rep_val _ _, repL_nil.2 rfl⟩)) ?_
  rintro e w' ⟨u, σ', rfl, h1, h2, h3⟩
  refine ⟨u, σ', rfl, ?_, h2, h3⟩
  unfold Rep at h0 h1 ⊢
  obtain ⟨b, es, clk, rfl, k1, k2, k3, k4⟩ := h1
  refine ⟨b, es, clk, rfl, k1, k2, k3, ?_⟩
  exact repL_tab (l := [60, 61, 62, 63, 64, 65, 66, 67, 68]) (x := .ptr i 0) (fun u hu => by
   obtain ⟨hi, b0, hσ, hv⟩ := h0
   unfold Rep
   refine ⟨hi, b0, ?_, by rw [hu, hv]⟩
   have := h3.le.σ i hi
   simp only [cx] at this ⊢
   rw [this]; exact hσ) k4
def loopF (R : Rdr) (s : PSt) (acc : List VNode) : PRes := loopP R (s.rest.length + 1) s acc
theorem lf_bad {R : Rdr} {s : PSt} {acc : List VNode} (h : s.bad ≠ 0) : loopF R s acc = (s, [], []) := loopP_bad R _ acc h
theorem lf_nil {R : Rdr} {s : PSt} {acc : List VNode} (h : s.bad = 0) (hr : s.rest = []) : loopF R s acc = (s, acc, []) := by
 unfold loopF; rw [loopP, if_neg (fun k => k h), hr]
theorem fail_rest (s : PSt) (e : Int) : (s.fail e).rest = s.rest := (fail_o s e).2.2
theorem lf_part {R : Rdr} {s : PSt} {acc : List VNode} {w : Str} {r : List Str} (h : s.bad = 0) (hr : s.rest = w :: r) (hp : (R.rd w s.loops).2.1 = []) :
  loopF R s acc = loopF R (({ s with rest := r } : PSt).fail (R.rd w s.loops).1) (acc ++ [(R.rd w s.loops).2.2]) := by
 unfold loopF
 rw [fail_rest, hr, loopP, if_neg (fun k => k h), hr]
 dsimp only
 rw [if_pos hp]; rfl
theorem row_same {R : Rdr} (hR : RdOk R) (m : Nat) {s1 : PSt} (h : s1.rest.length < m) : loopP R m s1 [] = rowR R s1 := loop_fuel hR m _ s1 [] h (Nat.lt_succ_self _)
theorem on_same {R : Rdr} (hR : RdOk R) (sp : Str) (s : PSt) (m : Nat) (h : s.rest.length < m) : onP R (fun s => loopP R m s []) sp s = onP R (rowR R) sp s :=
 on_fuel (fun s1 h1 => ⟨row_same hR m (by omega), (loop_suf R m s1 []).length_le⟩) sp
theorem lf_end {R : Rdr} (hR : RdOk R) {s : PSt} {acc : List VNode} {w : Str} {r : List Str} (h : s.bad = 0) (hr : s.rest = w :: r) (hp : (R.rd w s.loops).2.1 ≠ []) (ho : onP R (rowR R) (R.rd w s.loops).2.1 (({ s with rest := r } : PSt).fail (R.rd w s.loops).1) = none) :
  loopF R s acc = (({ s with rest := r } : PSt).fail (R.rd w s.loops).1, acc, (R.rd w s.loops).2.1) := by
 unfold loopF
 rw [hr, loopP, if_neg (fun k => k h), hr]
 dsimp only
 rw [if_neg hp, on_same hR _ _ _ (by rw [fail_rest]; show r.length < (w :: r).length; simp), ho]
theorem lf_on {R : Rdr} (hR : RdOk R) {s : PSt} {acc : List VNode} {w : Str} {r : List Str} (h : s.bad = 0) (hr : s.rest = w :: r) (hp : (R.rd w s.loops).2.1 ≠ []) {q : PSt × VNode} (ho : onP R (rowR R) (R.rd w s.loops).2.1 (({ s with rest := r } : PSt).fail (R.rd w s.loops).1) = some q) :
  loopF R s acc = loopF R q.1 (acc ++ [q.2]) := by
 have hs : q.1.rest.length ≤ r.length := by
  have := (on_suf (rowR_suf R) ho).length_le
  rw [fail_rest] at this; exact this
 have e : loopF R s acc = loopP R (w :: r).length q.1 (acc ++ [q.2]) := by
  unfold loopF
  rw [hr, loopP, if_neg (fun k => k h), hr]
  dsimp only
  rw [if_neg hp, on_same hR _ _ _ (by rw [fail_rest]; show r.length < (w :: r).length; simp), ho]
 rw [e]
 exact loop_fuel hR _ _ _ _ (by rw [List.length_cons]; omega) (Nat.lt_succ_self _)
theorem lk_s {a k : Str} {ks : List MKey} {x : PV} {xs : List PV} {z : PV} : lkPV (.s a :: ks) (x :: xs) (.s k) z = if k = a then (x, true) else lkPV ks xs (.s k) z := by
 rw [lkPV]
 by_cases h : k = a
 ·subst h; rw [if_pos rfl, if_pos rfl]
 ·rw [if_neg (fun e => h (MKey.s.inj e).symm), if_neg h]
theorem lk_nil {k : MKey} {z : PV} : lkPV [] [] k z = (z, false) := by unfold lkPV; rfl
def OnAt (v : VVm) (ws : List Str) (s : PSt) (f : FuncId) (q : PSt × VNode) : Prop := ∀ (H : List Ob) (i : Nat), H[i]? = some (.cells (cRd v ws s) 73) →
 Callable Try.prog f [.ptr i 0] H (eNode q.2) (H.set i (.cells (cRd v ws q.1) 73))
theorem on_keeps {v : VVm} {sp : Str} {s : PSt} {q : PSt × VNode} (b : s.bad = 0) (h : onP (readerS v) (rowR (readerS v)) sp s = some q) : q.1.opn = s.opn ∧ q.1.loops = s.loops := by
 have e := on_same (readerS_ok v) sp s (s.rest.length + 1) (Nat.lt_succ_self _)
 rw [← e] at h
 have hrow : RowT (fun t => loopP (readerS v) (s.rest.length + 1) t []) (fun e o l t => rowD (readerS v) (s.rest.length + 1) e o l t []) := ⟨fun t ends he => loop_twin _ (readerS_ok v).bad _ t [] ends he, fun t h => loopP_bad _ _ [] h, fun ends o l t h => rowD_bad _ _ ends o l [] h⟩
 have t := part_twin (readerS v) hrow b sp h
 exact ⟨t.o, t.l⟩
structure WsOk (ws : List Str) : Prop where
 len : ws.length ≤ 1000000
 each : ∀ w ∈ ws, w.length ≤ 9223372036854775807
theorem WsOk.name {ws : List Str} (h : WsOk ws) {s : PSt} (hs : s.rest <:+ ws) : (nameP s).2.length ≤ 9223372036854775807 := by
 unfold nameP
 cases hr : s.rest with
 | nil => show (0 : Nat) ≤ _; omega
 | cons w r => exact h.each w (hs.subset (by rw [hr]; simp))
theorem tab_cases (v : VVm) (ws : List Str) (s : PSt) (hv : VRd v) (hw : WsOk ws) (hs : s.rest <:+ ws) (hb : Bd 1 s) (hrow : ∀ t : PSt, t.rest <:+ s.rest → Bd 0 t → RowWs v ws t) (sp : Str) :
  (∃ f p, lkPV tabK (tabV (.ptr 0 0)) (.s sp) (.val .nilFunc) = (.fn (.func f) [.ptr 0 0] [], true) ∧ onP (readerS v) (rowR (readerS v)) sp s = some p ∧ OnAt v ws s f p) ∨
  (lkPV tabK (tabV (.ptr 0 0)) (.s sp) (.val .nilFunc) = (.val .nilFunc, false) ∧ onP (readerS v) (rowR (readerS v)) sp s = none) := by
 by_cases c0 : sp = [73, 70]
 ·exact .inl ⟨60, _, by unfold tabK tabV; rw [lk_s, if_pos c0], by unfold onP; rw [if_pos c0], fun H i hi => ⟨⟨_, Try.func60, rfl, rfl⟩, rd_if v ws s hb hrow H i hi⟩⟩
 by_cases c1 : sp = [66, 69, 71, 73, 78]
 ·exact .inl ⟨61, _, by unfold tabK tabV; rw [lk_s, if_neg c0, lk_s, if_pos c1], by unfold onP; rw [if_neg c0, if_pos c1], fun H i hi => ⟨⟨_, Try.func61, rfl, rfl⟩, rd_begin v ws s hb hrow H i hi⟩⟩
 by_cases c2 : sp = [68, 79]
 ·exact .inl ⟨62, _, by unfold tabK tabV; rw [lk_s, if_neg c0, lk_s, if_neg c1, lk_s, if_pos c2], by unfold onP; rw [if_neg c0, if_neg c1, if_pos c2], fun H i hi => ⟨⟨_, Try.func62, rfl, rfl⟩, rd_do v ws s hb hrow H i hi⟩⟩
 by_cases c3 : sp = [63, 68, 79]
 ·exact .inl ⟨63, _, by unfold tabK tabV; rw [lk_s, if_neg c0, lk_s, if_neg c1, lk_s, if_neg c2, lk_s, if_pos c3], by unfold onP; rw [if_neg c0, if_neg c1, if_neg c2, if_pos c3], fun H i hi => ⟨⟨_, Try.func63, rfl, rfl⟩, rd_ask v ws s hb hrow H i hi⟩⟩
 by_cases c4 : sp = [76, 69, 65, 86, 69]
 ·exact .inl ⟨64, _, by unfold tabK tabV; rw [lk_s, if_neg c0, lk_s, if_neg c1, lk_s, if_neg c2, lk_s, if_neg c3, lk_s, if_pos c4], by unfold onP; rw [if_neg c0, if_neg c1, if_neg c2, if_neg c3, if_pos c4], fun H i hi => ⟨⟨_, Try.func64, rfl, rfl⟩, rd_leave v ws s H i hi⟩⟩
 by_cases c5 : sp = [69, 88, 73, 84]
 ·exact .inl ⟨65, _, by unfold tabK tabV; rw [lk_s, if_neg c0, lk_s, if_neg c1, lk_s, if_neg c2, lk_s, if_neg c3, lk_s, if_neg c4, lk_s, if_pos c5], by unfold onP; rw [if_neg c0, if_neg c1, if_neg c2, if_neg c3, if_neg c4, if_pos c5], fun H i hi => ⟨⟨_, Try.func65, rfl, rfl⟩, rd_exit v ws s H i hi⟩⟩
 by_cases c6 : sp = [82, 69, 67, 85, 82, 83, 69]
 ·exact .inl ⟨66, _, by unfold tabK tabV; rw [lk_s, if_neg c0, lk_s, if_neg c1, lk_s, if_neg c2, lk_s, if_neg c3, lk_s, if_neg c4, lk_s, if_neg c5, lk_s, if_pos c6], by unfold onP; rw [if_neg c0, if_neg c1, if_neg c2, if_neg c3, if_neg c4, if_neg c5, if_pos c6], fun H i hi => ⟨⟨_, Try.func66, rfl, rfl⟩, rd_self v ws s H i hi⟩⟩
 by_cases c7 : sp = [91, 67, 72, 65, 82, 93]
 ·exact .inl ⟨67, _, by unfold tabK tabV; rw [lk_s, if_neg c0, lk_s, if_neg c1, lk_s, if_neg c2, lk_s, if_neg c3, lk_s, if_neg c4, lk_s, if_neg c5, lk_s, if_neg c6, lk_s, if_pos c7], by unfold onP; rw [if_neg c0, if_neg c1, if_neg c2, if_neg c3, if_neg c4, if_neg c5, if_neg c6, if_pos c7], fun H i hi => ⟨⟨_, Try.func67, rfl, rfl⟩, rd_char v ws s hs hw.len H i hi⟩⟩
 by_cases c8 : sp = [91, 39, 93]
 ·exact .inl ⟨68, _, by unfold tabK tabV; rw [lk_s, if_neg c0, lk_s, if_neg c1, lk_s, if_neg c2, lk_s, if_neg c3, lk_s, if_neg c4, lk_s, if_neg c5, lk_s, if_neg c6, lk_s, if_neg c7, lk_s, if_pos c8], by unfold onP; rw [if_neg c0, if_neg c1, if_neg c2, if_neg c3, if_neg c4, if_neg c5, if_neg c6, if_neg c7, if_pos c8], fun H i hi => ⟨⟨_, Try.func68, rfl, rfl⟩, rd_tick v ws s hv hs hw.len (hw.name hs) H i hi⟩⟩
 exact .inr ⟨by unfold tabK tabV; rw [lk_s, if_neg c0, lk_s, if_neg c1, lk_s, if_neg c2, lk_s, if_neg c3, lk_s, if_neg c4, lk_s, if_neg c5, lk_s, if_neg c6, lk_s, if_neg c7, lk_s, if_neg c8, lk_nil], by unfold onP; rw [if_neg c0, if_neg c1, if_neg c2, if_neg c3, if_neg c4, if_neg c5, if_neg c6, if_neg c7, if_neg c8]⟩
theorem Bd.down {s : PSt} (h : Bd 1 s) : Bd 0 s := ⟨h.o0, h.l0, by have := h.o1; omega, by have := h.l1; omega⟩
theorem row_c (v : VVm) (ws : List Str) (hv : VRd v) (hw : WsOk ws) : ∀ (n : Nat) (s : PSt), s.rest.length < n → s.rest <:+ ws → Bd 0 s → RowWs v ws s := by
 intro n
 induction n with
 | zero => intro s h; omega
 | succ n ih =>
  intro s hn hs hB
  have hR := readerS_ok v
  unfold RowWs
  obtain ⟨RES, hRES⟩ : ∃ RES, rowR (readerS v) s = RES := ⟨_, rfl⟩
  have h0 : loopF (readerS v) s [] = RES := hRES
  rw [hRES]
  refine mut_of_W tG (rs := [.tmp 2, .tmp 3]) Try.func23 rfl rfl rfl (by simp [FlatL]) (by simp) (by simp) (by simp) (fun B => ?_)
  refine zu2 ?_
  refine zp1 ?_
  (refine WO_own 4 0 4 rfl rfl ?_)
  refine Wn ?_
  refine Ws ?_
  refine Wl ?_
  show W _ _ _ _ _ _ _
  refine W_loopS (fun (x : (PSt × List VNode)) => [(0, .ptr 0 0), (4, .seq x.2.length (x.2.flatMap cNode) (.own 2 4))]) (fun (x : (PSt × List VNode)) => [.cells (cRd v ws x.1) 73, .dead]) (fun (x : (PSt × List VNode)) => [.free (x.2.length * 4)]) (fun (x : (PSt × List VNode)) => loopF (readerS v) x.1 x.2 = RES ∧ x.1.rest <:+ s.rest ∧ Bd 0 x.1 ∧ x.2.length + x.1.rest.length ≤ 1000000) (fun (x : (PSt × List VNode)) => x.1.rest.length) ((s, [])) (by exact ⟨h0, List.suffix_refl _, hB, by have := hB.o1; have := hB.o0; simp only [List.length_nil]; omega⟩) [1] ?_ ?_
  ·exact fitT
  ·intro x hx
   refine Ws ?_
   refine zu5 ?_
   refine Wi rfl (fun hi1 => ?_) (fun hi1 => ?_)
   ·have q1 : x.1.bad = 0 := by simpa using hi1
    refine Wj ?_
    refine Wl ?_
    refine zp1 ?_
    refine zc rfl Try.func39 ((rd_next v ws x.1 (hx.2.1.trans hs) hw.len) _ _ rfl) ?_
    refine zs5 ?_
    refine Ws ?_
    refine zu2 ?_
    refine Wi rfl (fun hi2 => ?_) (fun hi2 => ?_)
    ·have hr : x.1.rest = [] := by
      cases hr : x.1.rest with
      | nil => rfl
      | cons w r => rw [next_cons hr] at hi2; cases hi2
     have en := next_nil hr
     have eE : RES = (x.1, x.2, []) := by rw [← hx.1]; exact lf_nil q1 hr
     refine zu3 ?_
     refine Wq ?_
     refine leafM rfl rfl ?_ ?_
     ·(rw [eE]; rfl)
     ·(rw [eE, en]; rfl)
    ·obtain ⟨w, r, hr⟩ : ∃ w r, x.1.rest = w :: r := by
      cases hr : x.1.rest with
      | nil => rw [next_nil hr] at hi2; cases hi2
      | cons w r => exact ⟨w, r, rfl⟩
     have en := next_cons hr
     have hsw : (w :: r) <:+ ws := hr ▸ (hx.2.1.trans hs)
     have hwl : w.length ≤ 9223372036854775807 := hw.each w (hsw.subset (by simp))
     have hsr : r <:+ ws := (List.suffix_cons w r).trans hsw
     have hrl : x.1.rest.length = r.length + 1 := by rw [hr]; rfl
     have hsr2 : r <:+ s.rest := (List.suffix_cons w r).trans (hr ▸ hx.2.1)
     have hnl : r.length < n := by have := hx.2.1.length_le; omega
     obtain ⟨s1, hs1⟩ : ∃ s1 : PSt, ({ x.1 with rest := r } : PSt) = s1 := ⟨_, rfl⟩
     have e1r : s1.rest = r := by rw [← hs1]
     have e1o : s1.opn = x.1.opn := by rw [← hs1]
     have e1l : s1.loops = x.1.loops := by rw [← hs1]
     have e1b : s1.bad = 0 := by rw [← hs1]; exact q1
     obtain ⟨rr, hrr⟩ : ∃ rr, rdS v w s1.loops = rr := ⟨_, rfl⟩
     have p2 := rd_read v ws s1 hv w hwl
     rw [hrr] at p2
     have hrd : (readerS v).rd w x.1.loops = rr := by rw [← e1l]; exact hrr
     have hb2 := hR.bad w x.1.loops
     rw [hrd] at hb2
     have bF : Bd 1 (s1.fail rr.1) := ⟨by rw [(fail_o _ _).1, e1o]; exact hx.2.2.1.o0, by rw [(fail_o _ _).2.1, e1l]; exact hx.2.2.1.l0, by rw [(fail_o _ _).1, (fail_o _ _).2.2, e1o, e1r]; have := hx.2.2.1.o1; omega, by rw [(fail_o _ _).2.1, (fail_o _ _).2.2, e1l, e1r]; have := hx.2.2.1.l1; omega⟩
     have eF : (s1.fail rr.1).rest = r := by rw [(fail_o _ _).2.2, e1r]
     have lp := lf_part (R := readerS v) (acc := x.2) q1 hr
     have le := lf_end (acc := x.2) hR q1 hr
     have lo := fun q => lf_on (acc := x.2) hR q1 hr (q := q)
     rw [hrd, hs1] at lp le lo
     refine W_ob (H' := [.cells (cRd v ws s1) 73, .dead, .free (x.2.length * 4)]) (by rw [en, ← hs1]) ?_
     refine W_as 5 rfl (congrArg (fun z : PSt × Str × Bool => str z.2.1) en) ?_
     refine Wj ?_
     refine zp2 ?_
     refine zc rfl Try.func40 ((p2) _ _ rfl) ?_
     refine zs2 ?_
     refine Ws ?_
     refine zp3 ?_
     refine zq 28 ?_
     refine Wn ?_
     refine Wi rfl (fun hi3 => ?_) (fun hi3 => ?_)
     ·have q3 : rr.2.1 = [] := oT hi3
      refine zp4 ?_
      refine Wa 32 rfl ((show _ = PV.seq (List.length [rr.2.2]) (List.flatMap cNode [rr.2.2]) .clip from rfl)) ?_
      refine Wd rfl rfl (does_append_own (lO tG rfl) rfl (lO tG rfl) (lO tG rfl) rfl rfl rfl rfl (by simp) (by exact ⟨_, rfl⟩) (by exact ⟨rfl, rfl, flatMap_len _ 4 (fun _ => rfl) _, okC_flat _ (fun _ => rfl) _⟩) (by ((simp_all; omega))) (by ((simp_all; omega)))) ?_
      refine Wa 33 rfl (sq_append cNode) ?_
      refine z1 ?_
      skip
      refine Wn ?_
      refine W_exit ?_
      exact ⟨(s1.fail rr.1, x.2 ++ [rr.2.2]), [4], (by exact ⟨(lp q3).symm.trans hx.1, by rw [eF]; exact hsr2, bF.down, by rw [eF, List.length_append]; have := hx.2.2.2; rw [hrl] at this; simp; omega⟩), (by show (s1.fail rr.1).rest.length < _; rw [eF, hrl]; omega), fitT⟩
     ·have q3 : ¬ rr.2.1 = [] := oF hi3
      have b3 : (s1.fail rr.1).bad = 0 := by rw [fail0 e1b]; exact Decidable.byContradiction fun k => q3 (hb2 k)
      have hT := tab_cases v ws (s1.fail rr.1) hv hw (by rw [eF]; exact hsr) bF (fun t h1 h2 => ih t (by have := h1.length_le; rw [eF] at this; omega) (h1.trans (by rw [eF]; exact hsr)) h2) rr.2.1
      refine Wj ?_
      refine Ws ?_
      refine W_drawU [0, 0, 0, 1, 0, 0, 0, 0, 0, 0] [0, 1, 2, 3, 4, 5, 6, 7, 8, 9] mG rfl (by kernel_rfl) ?_
      refine z3 ?_
      refine Xc rfl rfl rfl rfl (fun _ => dC rfl Try.func41 rfl rfl ((rd_table 0) _)) ?_
      refine z3 ?_
      refine z5 ?_
      rcases hT with ⟨f, p, hlk, hon, hc⟩ | ⟨hlk, hno⟩
      ·refine WU_does0 rfl rfl rfl rfl (fun _ => does_lookup (b := true) (e := 102) (key := .s rr.2.1) (by kernel_rfl) (lO tG rfl) (by kernel_rfl) rfl rfl rfl rfl (by kernel_rfl) (hlk)) ?_
       iterate 5 refine z3 ?_
       refine WU_nil ?_
       refine Ws ?_
       refine zu2 ?_
       refine Wf rfl (by rfl) ?_
       refine Wj ?_
       refine W_region rfl ?_
       refine z1 ?_
       have ok := on_keeps b3 hon
       have os0 := on_suf (rowR_suf (readerS v)) hon
       have os := os0
       rw [eF] at os
       refine z1 ?_
       refine Wc rfl rfl (doesCWs rfl rfl (hc _ 0 rfl)) ?_
       refine z1 ?_
       refine Wa 50 rfl ((show _ = PV.seq (List.length [p.2]) (List.flatMap cNode [p.2]) .clip from rfl)) ?_
       refine Wd rfl rfl (does_append_own (lO tG rfl) rfl (lO tG rfl) (lO tG rfl) rfl rfl rfl rfl (by simp) (by exact ⟨_, rfl⟩) (by exact ⟨rfl, rfl, flatMap_len _ 4 (fun _ => rfl) _, okC_flat _ (fun _ => rfl) _⟩) (by ((simp_all; omega))) (by ((simp_all; omega)))) ?_
       refine Wa 51 rfl (sq_append cNode) ?_
       refine z1 ?_
       skip
       refine Wn ?_
       exact ⟨(p.1, x.2 ++ [p.2]), [4], (by exact ⟨(lo p q3 hon).symm.trans hx.1, os.trans hsr2, bF.down.suf ok.1 ok.2 os0, by rw [List.length_append]; have := hx.2.2.2; rw [hrl] at this; have := os.length_le; simp; omega⟩), (by show p.1.rest.length < _; rw [hrl]; have := os.length_le; omega), fitT⟩
      ·refine WU_does0 rfl rfl rfl rfl (fun _ => does_lookup (b := true) (e := 102) (key := .s rr.2.1) (by kernel_rfl) (lO tG rfl) (by kernel_rfl) rfl rfl rfl rfl (by kernel_rfl) (hlk)) ?_
       iterate 5 refine z3 ?_
       refine WU_nil ?_
       refine Ws ?_
       refine zu2 ?_
       refine Wt rfl (by rfl) ?_
       refine Ws ?_
       refine W_drawU [0, 0, 1, 0, 0] [0, 1, 2, 3, 4] mG rfl (by kernel_rfl) ?_
       iterate 2 refine z3 ?_
       refine z5 ?_
       iterate 2 refine z3 ?_
       refine WU_nil ?_
       refine Wq ?_
       refine leafM rfl rfl ?_ ?_
       ·(rw [show RES = (s1.fail rr.1, x.2, rr.2.1) by rw [← hx.1]; exact le q3 hno]; rfl)
       ·(rw [show RES = (s1.fail rr.1, x.2, rr.2.1) by rw [← hx.1]; exact le q3 hno]; rfl)
   ·have q1 : x.1.bad ≠ 0 := by simpa using hi1
    have eE : RES = (x.1, [], []) := by rw [← hx.1]; exact lf_bad q1
    refine W_exit ?_
    refine zu2 ?_
    refine Wq ?_
    refine leafM rfl rfl ?_ ?_
    ·(rw [eE]; rfl)
    ·(rw [eE]; rfl)
end Go.Proofs.Ytiibjcnedbncjaa
namespace Go.Proofs.Ytiibjcnedbncjaa
open Go.RowKit
set_option maxRecDepth 100000
set_option maxHeartbeats 8000000
theorem parse_def (R : Rdr) (ws : List Str) : parseP R ws = (let r := rowR R ⟨ws, 0, 0, 0⟩; let s := if r.1.bad = 0 ∧ r.2.2 ≠ [] then endsP r.1 r.2.2 else r.1; if s.bad ≠ 0 then ([], s.bad) else (r.2.1, 0)) := rfl
theorem parse_a {R : Rdr} {ws : List Str} (h : (rowR R ⟨ws, 0, 0, 0⟩).1.bad = 0 ∧ (rowR R ⟨ws, 0, 0, 0⟩).2.2 ≠ []) : parseP R ws = ([], (endsP (rowR R ⟨ws, 0, 0, 0⟩).1 (rowR R ⟨ws, 0, 0, 0⟩).2.2).bad) := by
 rw [parse_def]
 generalize rowR R ⟨ws, 0, 0, 0⟩ = r at h ⊢
 dsimp only
 rw [if_pos h, if_pos (show (endsP r.1 r.2.2).bad ≠ 0 by rw [ends_bad h.1]; exact endCode_ne _)]
theorem parse_b {R : Rdr} {ws : List Str} (h : ¬ ((rowR R ⟨ws, 0, 0, 0⟩).1.bad = 0 ∧ (rowR R ⟨ws, 0, 0, 0⟩).2.2 ≠ [])) (k : (rowR R ⟨ws, 0, 0, 0⟩).1.bad = 0) : parseP R ws = ((rowR R ⟨ws, 0, 0, 0⟩).2.1, 0) := by
 rw [parse_def]
 generalize rowR R ⟨ws, 0, 0, 0⟩ = r at h k ⊢
 dsimp only
 rw [if_neg h, if_neg (show ¬ r.1.bad ≠ 0 from fun q => q k)]
theorem parse_c {R : Rdr} {ws : List Str} (k : (rowR R ⟨ws, 0, 0, 0⟩).1.bad ≠ 0) : parseP R ws = ([], (rowR R ⟨ws, 0, 0, 0⟩).1.bad) := by
 rw [parse_def]
 generalize rowR R ⟨ws, 0, 0, 0⟩ = r at k ⊢
 dsimp only
 rw [if_neg (show ¬ (r.1.bad = 0 ∧ r.2.2 ≠ []) from fun q => k q.1), if_pos k]
theorem ast_Parse (v : VVm) (ws : List Str) (hv : VRd v) (hw : WsOk ws) (hl : ws.length ≤ 100000) : PureC Try.prog 11 [eVm v, sq cStr ws] (tup2 (sq cNode (parseP (readerS v) ws).1) (i64 (parseP (readerS v) ws).2)) := by
 have hrow := row_c v ws hv hw (ws.length + 1) ⟨ws, 0, 0, 0⟩ (Nat.lt_succ_self _) (List.suffix_refl _) ⟨Int.le_refl _, Int.le_refl _, by show (0 : Int) + (ws.length : Int) + _ ≤ _; omega, by show (0 : Int) + (ws.length : Int) + _ ≤ _; omega⟩
 refine pW tG (rs := [.tmp 4, .tmp 5]) Try.func11 rfl rfl rfl (by simp) (by simp) (fun B => ?_)
 refine zu3 ?_
 refine zp4 ?_
 refine WO_ob (H' := [.cells (cVm v) 36, .cells (cRd v ws ⟨ws, 0, 0, 0⟩) 73]) (by unfold cRd atN; rw [Nat.sub_self]; rfl) ?_
 refine zs1 ?_
 refine zp1 ?_
 refine zc rfl Try.func23 (hrow _ _ rfl) ?_
 refine zs5 ?_
 refine Ws ?_
 refine zp5 ?_
 refine z1 ?_
 refine Wb 23 rfl (fun hg1 => ?_) (fun hg1 => ?_)
 ·have q1 : (rowR (readerS v) ⟨ws, 0, 0, 0⟩).1.bad = 0 := by simpa using hg1
  refine zy2 ?_
  refine Wa 25 rfl (str_neq _ _) ?_
  refine zs1 ?_
  refine Wi rfl (fun hi1 => ?_) (fun hi1 => ?_)
  ·have q2 : (rowR (readerS v) ⟨ws, 0, 0, 0⟩).1.bad = 0 ∧ (rowR (readerS v) ⟨ws, 0, 0, 0⟩).2.2 ≠ [] := ⟨q1, by simpa using hi1⟩
   have q3 : (endsP (rowR (readerS v) ⟨ws, 0, 0, 0⟩).1 (rowR (readerS v) ⟨ws, 0, 0, 0⟩).2.2).bad ≠ 0 := by rw [ends_bad q2.1]; exact endCode_ne _
   refine W_region rfl ?_
   refine zy2 ?_
   refine zc rfl Try.func24 ((rd_ends v ws (rowR (readerS v) ⟨ws, 0, 0, 0⟩).1 _) _ _ rfl) ?_
   refine Wn ?_
   refine Ws ?_
   refine zu5 ?_
   refine Wi rfl (fun hi2 => ?_) (fun hi2 => ?_)
   ·refine Ws ?_
    refine W_drawU [0, 0, 0, 1, 0, 0] [0, 1, 2, 3, 4, 5] mG rfl (by kernel_rfl) ?_
    iterate 3 refine z3 ?_
    refine z5 ?_
    iterate 2 refine z3 ?_
    refine WU_nil ?_
    refine zR ?_
    (rw [parse_a q2]; rfl)
   ·refine Wj ?_
    refine zu3 ?_
    refine zR ?_
    (exfalso; simp_all; done)
  ·have q2 : ¬ ((rowR (readerS v) ⟨ws, 0, 0, 0⟩).1.bad = 0 ∧ (rowR (readerS v) ⟨ws, 0, 0, 0⟩).2.2 ≠ []) := fun h => absurd h.2 (by simpa using hi1)
   refine Wj ?_
   refine Ws ?_
   refine zu5 ?_
   refine Wi rfl (fun hi2 => ?_) (fun hi2 => ?_)
   ·refine Ws ?_
    refine W_drawU [0, 0, 0, 1, 0, 0] [0, 1, 2, 3, 4, 5] mG rfl (by kernel_rfl) ?_
    iterate 3 refine z3 ?_
    refine z5 ?_
    iterate 2 refine z3 ?_
    refine WU_nil ?_
    refine zR ?_
    (exfalso; simp_all; done)
   ·refine Wj ?_
    refine zu3 ?_
    refine zR ?_
    (rw [parse_b q2 q1]; rfl)
 ·have q1 : ¬ (rowR (readerS v) ⟨ws, 0, 0, 0⟩).1.bad = 0 := by simpa using hg1
  iterate 2 refine z6 ?_
  refine zs1 ?_
  refine Wf rfl rfl ?_
  refine Wj ?_
  refine Ws ?_
  refine zu5 ?_
  refine Wi rfl (fun hi2 => ?_) (fun hi2 => ?_)
  ·refine Ws ?_
   refine W_drawU [0, 0, 0, 1, 0, 0] [0, 1, 2, 3, 4, 5] mG rfl (by kernel_rfl) ?_
   iterate 3 refine z3 ?_
   refine z5 ?_
   iterate 2 refine z3 ?_
   refine WU_nil ?_
   refine zR ?_
   (rw [parse_c q1]; rfl)
  ·refine Wj ?_
   refine zu3 ?_
   refine zR ?_
   (exfalso; simp_all; done)
end Go.Proofs.Ytiibjcnedbncjaa
namespace Go.Proofs.Ytiibjcnedbncjaa
open Go.RowKit
set_option maxRecDepth 100000
set_option maxHeartbeats 8000000
def idxB (l : List Bool) (s : Bool) : Nat → Nat → Int
 | 0, _ => -1
 | m + 1, k => if s = l.getD k false then (k : Int) else idxB l s m (k + 1)
theorem idxB_ge (l : List Bool) (s : Bool) : ∀ m k, (0 ≤ idxB l s m k) ↔ ∃ j, j < m ∧ s = l.getD (k + j) false
 | 0, k => by unfold idxB; exact ⟨fun h => by omega, fun ⟨j, h, _⟩ => by omega⟩
 | m + 1, k => by
  unfold idxB
  by_cases h : s = l.getD k false
  ·rw [if_pos h]; exact ⟨fun _ => ⟨0, by omega, h⟩, fun _ => by omega⟩
  ·rw [if_neg h, idxB_ge l s m (k + 1)]
   constructor
   ·rintro ⟨j, h1, h2⟩; exact ⟨j + 1, by omega, by rw [h2]; congr 1; omega⟩
   ·rintro ⟨j, h1, h2⟩
    match j, h1, h2 with
    | 0, _, h2 => exact absurd h2 h
    | j + 1, h1, h2 => exact ⟨j, by omega, by rw [h2]; congr 1; omega⟩
theorem idxB_mem (l : List Bool) (s : Bool) : decide (idxB l s l.length 0 ≥ 0) = decide (s ∈ l) := by
 rw [Bool.eq_iff_iff, decide_eq_true_eq, decide_eq_true_eq]
 refine (idxB_ge l s l.length 0).trans ⟨?_, fun h => ?_⟩
 ·rintro ⟨j, h1, rfl⟩
  rw [Nat.zero_add, List.getD_eq_getElem?_getD, List.getElem?_eq_getElem h1]
  exact List.getElem_mem _
 ·obtain ⟨j, h1, h2⟩ := List.getElem_of_mem h
  exact ⟨j, h1, by rw [Nat.zero_add, List.getD_eq_getElem?_getD, List.getElem?_eq_getElem h1]; exact h2.symm⟩
theorem idxB_step {l : List Bool} {s : Bool} {k : Nat} (hk : k < l.length) (h : ¬ s = l.getD k false) : idxB l s (l.length - k) k = idxB l s (l.length - (k + 1)) (k + 1) := by
 rw [show l.length - k = (l.length - (k + 1)) + 1 by omega]
 show (if s = l.getD k false then _ else _) = _
 rw [if_neg h]
theorem idxB_hit {l : List Bool} {s : Bool} {k : Nat} (hk : k < l.length) (h : s = l.getD k false) : idxB l s (l.length - k) k = (k : Int) := by
 rw [show l.length - k = (l.length - (k + 1)) + 1 by omega]
 show (if s = l.getD k false then _ else _) = _
 rw [if_pos h]
theorem bool_Index (l : List Bool) (s : Bool) (hl : l.length ≤ 1000000) : PureC Try.prog 76 [sq cBool l, boo s] (i64 (idxB l s l.length 0)) := by
 refine pW tG (rs := [.tmp 4]) Try.func76 rfl rfl rfl (by simp) (by simp) (fun B => ?_)
 refine zu1 ?_
 refine Ws ?_
 refine zu3 ?_
 refine Wl ?_
 show W _ _ _ _ _ _ _
 refine W_loopS (fun (k : Nat) => [(0, sq cBool l), (1, boo s), (4, i64 0), (7, i64 (l.length : Int)), (8, i64 (k : Int))]) (fun (k : Nat) => []) (fun (k : Nat) => []) (fun (k : Nat) => k ≤ l.length ∧ idxB l s l.length 0 = idxB l s (l.length - k) k) (fun (k : Nat) => l.length - k) (0) (by exact ⟨Nat.zero_le _, rfl⟩) [] ?_ ?_
 ·exact fitT
 ·intro k hk
  refine zu1 ?_
  refine Ws ?_
  refine Wi rfl (fun hi1 => ?_) (fun hi1 => ?_)
  ·have hlt : k < l.length := by have := oT hi1; omega
   refine Wj ?_
   refine Ws ?_
   refine Wl ?_
   refine zu2 ?_
   refine zp3 ?_
   refine Wv tG rfl rfl rfl (by omega) (iN cBool 1 (fun _ => rfl) false (by omega)) ?_
   refine zs2 ?_
   refine Wi rfl (fun hi2 => ?_) (fun hi2 => ?_)
   ·have q : s = l.getD k false := by simpa using hi2
    refine zu2 ?_
    refine zR ?_
    rw [hk.2, idxB_hit hlt q]; rfl
   ·have q : ¬ s = l.getD k false := by simpa using hi2
    refine Wj ?_
    refine W_region rfl ?_
    refine zs2 ?_
    exact ⟨k + 1, [], (by exact ⟨by omega, hk.2.trans (idxB_step hlt q)⟩), (by omega), fitT⟩
  ·have hge : l.length - k = 0 := by have := oF hi1; omega
   refine W_exit ?_
   refine zu1 ?_
   refine zR ?_
   rw [hk.2, hge]; rfl
theorem bool_Contains (l : List Bool) (s : Bool) (hl : l.length ≤ 1000000) : PureC Try.prog 48 [sq cBool l, boo s] (boo (decide (s ∈ l))) := by
 refine pW tG (rs := [.tmp 4]) Try.func48 rfl rfl rfl (by simp) (by simp) (fun B => ?_)
 refine zu1 ?_
 refine zp2 ?_
 refine zc rfl Try.func76 ((bool_Index l s hl) _) ?_
 refine zs2 ?_
 refine zR ?_
 exact congrArg boo (idxB_mem l s)
theorem all_not (l : List Bool) : (!decide (false ∈ l)) = l.all id := by
 induction l with
 | nil => rfl
 | cons b l ih => cases b <;> simp_all
theorem ast_all (l : List Bool) (hl : l.length ≤ 1000000) : PureC Try.prog 30 [sq cBool l] (boo (l.all id)) := by
 refine pW tG (rs := [.tmp 2]) Try.func30 rfl rfl rfl (by simp) (by simp) (fun B => ?_)
 refine zu1 ?_
 refine zp1 ?_
 refine zc rfl Try.func48 ((bool_Contains l false hl) _) ?_
 refine zs2 ?_
 refine zR ?_
 exact congrArg boo (all_not l)
def bareN (x : VNode) : Bool := x.a.isEmpty && x.b.isEmpty
theorem may_12 {x : VNode} {o l : Int} (h : x.kind = 1 ∨ x.kind = 2) : mayN x o l = bareN x := by rw [mayN_parts, if_pos h]; rfl
theorem may_9 {x : VNode} {o l : Int} (h : x.kind = 9) : mayN x o l = (bareN x && (decide (x.n = 0) && decide (0 < l))) := by rw [mayN_parts, if_neg (by omega), if_pos h]; rfl
theorem may_10 {x : VNode} {o l : Int} (h : x.kind = 10) : mayN x o l = (bareN x && (decide (x.n = 0) && decide (l = 0))) := by rw [mayN_parts, if_neg (by omega), if_neg (by omega), if_pos h]; rfl
theorem may_11 {x : VNode} {o l : Int} (h : x.kind = 11) : mayN x o l = (bareN x && decide (x.n = 0)) := by rw [mayN_parts, if_neg (by omega), if_neg (by omega), if_neg (by omega), if_pos h]; rfl
theorem may_deep {x : VNode} {o l : Int} (h1 : ¬ x.kind = 1) (h2 : ¬ x.kind = 2) (h9 : ¬ x.kind = 9) (h10 : ¬ x.kind = 10) (h11 : ¬ x.kind = 11) (h : 16 ≤ o) : mayN x o l = false := by
 rw [mayN_parts, if_neg (by omega), if_neg h9, if_neg h10, if_neg h11, if_pos h]
theorem may_in {x : VNode} {o l : Int} (h1 : ¬ x.kind = 1) (h2 : ¬ x.kind = 2) (h9 : ¬ x.kind = 9) (h10 : ¬ x.kind = 10) (h11 : ¬ x.kind = 11) (h : ¬ 16 ≤ o) : mayN x o l = (flagN x.kind x.n x.b && (mayL x.a (o + 1) (if x.kind = 7 ∨ x.kind = 8 then l + 1 else l) && mayL x.b (o + 1) (if x.kind = 7 ∨ x.kind = 8 then l + 1 else l))) := by
 rw [mayN_parts, if_neg (by omega), if_neg h9, if_neg h10, if_neg h11, if_neg h]
theorem flag_none {k n : Int} {b : List VNode} (h3 : ¬ k = 3) (h4 : ¬ k = 4) (h5 : ¬ k = 5) (h6 : ¬ k = 6) (h7 : ¬ k = 7) (h8 : ¬ k = 8) : flagN k n b = false := by
 unfold flagN; rw [if_neg h3, if_neg (by omega), if_neg h6, if_neg (by omega)]
theorem empty_len (l : List VNode) : l.isEmpty = ((l.length : Int) == 0) := by cases l <;> simp; omega
def MayAt (l : List VNode) : Prop := ∀ o lp : Int, 0 ≤ lp → lp ≤ o → o ≤ 16 → PureC Try.prog 26 [sq cNode l, i64 o, i64 lp] (boo (mayL l o lp))
theorem one_c (x : VNode) (ha : MayAt x.a) (hb : MayAt x.b) (o lp : Int) (h0 : 0 ≤ lp) (h1 : lp ≤ o) (h2 : o ≤ 16) : PureC Try.prog 47 [eNode x, i64 o, i64 lp] (boo (mayN x o lp)) := by
 have w1 : IntKind.i64.wrap (o + 1) = o + 1 := i64_ok2 (by omega) (by omega)
 have w2 : IntKind.i64.wrap (lp + 1) = lp + 1 := i64_ok2 (by omega) (by omega)
 refine pW tG (rs := [.tmp 6]) Try.func47 rfl rfl rfl (by simp) (by simp) (fun B => ?_)
 refine zu2 ?_
 refine W_meet [(1, i64 o), (2, i64 lp), (3, .ptr 0 0), (7, boo (bareN x))] [.cells (cNode x) 65] [] ?_ ?_
 ·refine W_region rfl ?_
  refine zy5 ?_
  refine Wb 14 rfl (fun hg1 => ?_) (fun hg1 => ?_)
  ·refine zy5 ?_
   refine zs1 ?_
   exact ⟨[], (fitT (sub := by repeat (first | exact subL_nil | refine subL_cons (by first | exact imp_of rfl | exact imp_of (congrArg boo (by unfold bareN; rw [empty_len, empty_len]; simp_all))) ?_)))⟩
  ·refine z6 ?_
   iterate 3 refine z6 ?_
   refine zs2 ?_
   exact ⟨[], (fitT (sub := by repeat (first | exact subL_nil | refine subL_cons (by first | exact imp_of rfl | exact imp_of (congrArg boo (by unfold bareN; rw [empty_len, empty_len]; simp_all))) ?_)))⟩
 ·refine Ws ?_
  refine zu2 ?_
  refine Wl ?_
  refine Ws ?_
  refine zu2 ?_
  refine Wi rfl (fun hi1 => ?_) (fun hi1 => ?_)
  ·have k1 : x.kind = 1 := by simpa using hi1
   refine Wj ?_
   refine Wt rfl hi1 ?_
   refine zu2 ?_
   refine zR ?_
   exact congrArg boo (may_12 (.inl k1)).symm
  ·have k1 : ¬ x.kind = 1 := by simpa using hi1
   refine W_region rfl ?_
   refine zs2 ?_
   refine Wi rfl (fun hi2 => ?_) (fun hi2 => ?_)
   ·have k2 : x.kind = 2 := by simpa using hi2
    refine zu2 ?_
    refine zR ?_
    exact congrArg boo (may_12 (.inr k2)).symm
   ·have k2 : ¬ x.kind = 2 := by simpa using hi2
    refine zu2 ?_
    refine Wi rfl (fun hi3 => ?_) (fun hi3 => ?_)
    ·have k9 : x.kind = 9 := by simpa using hi3
     refine zp5 ?_
     refine zy2 ?_
     refine Wa 34 rfl (bsL cBool [_, _, _] rfl rfl) ?_
     refine zc rfl Try.func30 ((ast_all [bareN x, x.n == 0, decide (lp > 0)] (by simp)) _) ?_
     refine zs1 ?_
     refine zR ?_
     exact congrArg boo (by rw [may_9 k9]; simp; rfl)
    ·have k9 : ¬ x.kind = 9 := by simpa using hi3
     refine zu2 ?_
     refine Wi rfl (fun hi4 => ?_) (fun hi4 => ?_)
     ·have k10 : x.kind = 10 := by simpa using hi4
      refine zp5 ?_
      refine zy2 ?_
      refine Wa 44 rfl (bsL cBool [_, _, _] rfl rfl) ?_
      refine zc rfl Try.func30 ((ast_all [bareN x, x.n == 0, lp == 0] (by simp)) _) ?_
      refine zs1 ?_
      refine zR ?_
      exact congrArg boo (by rw [may_10 k10]; simp; rfl)
     ·have k10 : ¬ x.kind = 10 := by simpa using hi4
      refine zu2 ?_
      refine Wi rfl (fun hi5 => ?_) (fun hi5 => ?_)
      ·have k11 : x.kind = 11 := by simpa using hi5
       refine zp5 ?_
       refine Wa 52 rfl (bsL cBool [_, _] rfl rfl) ?_
       refine zc rfl Try.func30 ((ast_all [bareN x, x.n == 0] (by simp)) _) ?_
       refine zs1 ?_
       refine zR ?_
       exact congrArg boo (by rw [may_11 k11]; simp; rfl)
      ·have k11 : ¬ x.kind = 11 := by simpa using hi5
       refine Wj ?_
       refine Ws ?_
       refine zu2 ?_
       refine Wi rfl (fun hi6 => ?_) (fun hi6 => ?_)
       ·have q6 : 16 ≤ o := oT hi6
        refine zu1 ?_
        refine zR ?_
        exact congrArg boo (may_deep k1 k2 k9 k10 k11 q6).symm
       ·have q6 : ¬ 16 ≤ o := oF hi6
        refine Wj ?_
        refine zu2 ?_
        refine zu4 ?_
        refine W_meet [(1, i64 o), (3, .ptr 0 0), (8, i64 (if x.kind = 7 ∨ x.kind = 8 then lp + 1 else lp)), (9, boo (flagN x.kind x.n x.b))] [.cells (cNode x) 65] [] ?_ ?_
        ·refine zu2 ?_
         refine Wl ?_
         refine zu2 ?_
         refine Wi rfl (fun hi7 => ?_) (fun hi7 => ?_)
         ·have k3 : x.kind = 3 := by simpa using hi7
          refine W_region rfl ?_
          refine zy4 ?_
          refine Wb 67 rfl (fun hg2 => ?_) (fun hg2 => ?_)
          ·refine z6 ?_
           iterate 8 refine z6 ?_
           refine zs2 ?_
           exact ⟨[], (fitT (sub := by repeat (first | exact subL_nil | refine subL_cons (by first | exact imp_of rfl | exact imp_of (congrArg i64 (by rw [if_neg (by omega)])) | exact imp_of (congrArg boo (by unfold flagN; rw [empty_len]; simp_all <;> rfl))) ?_)))⟩
          ·refine zy4 ?_
           refine Wb 71 rfl (fun hg3 => ?_) (fun hg3 => ?_)
           ·refine zy5 ?_
            refine zs2 ?_
            exact ⟨[], (fitT (sub := by repeat (first | exact subL_nil | refine subL_cons (by first | exact imp_of rfl | exact imp_of (congrArg i64 (by rw [if_neg (by omega)])) | exact imp_of (congrArg boo (by unfold flagN; rw [empty_len]; simp_all <;> rfl))) ?_)))⟩
           ·refine z6 ?_
            iterate 3 refine z6 ?_
            refine zs3 ?_
            exact ⟨[], (fitT (sub := by repeat (first | exact subL_nil | refine subL_cons (by first | exact imp_of rfl | exact imp_of (congrArg i64 (by rw [if_neg (by omega)])) | exact imp_of (congrArg boo (by unfold flagN; rw [empty_len]; simp_all <;> rfl))) ?_)))⟩
         ·have k3 : ¬ x.kind = 3 := by simpa using hi7
          refine Ws ?_
          refine zu2 ?_
          refine Wi rfl (fun hi8 => ?_) (fun hi8 => ?_)
          ·have k4 : x.kind = 4 := by simpa using hi8
           refine Wj ?_
           refine Wt rfl hi8 ?_
           refine W_region rfl ?_
           refine zy2 ?_
           refine Wb 82 rfl (fun hg4 => ?_) (fun hg4 => ?_)
           ·refine zy5 ?_
            refine zs1 ?_
            exact ⟨[], (fitT (sub := by repeat (first | exact subL_nil | refine subL_cons (by first | exact imp_of rfl | exact imp_of (congrArg i64 (by rw [if_neg (by omega)])) | exact imp_of (congrArg boo (by unfold flagN; rw [empty_len]; simp_all <;> rfl))) ?_)))⟩
           ·refine z6 ?_
            iterate 3 refine z6 ?_
            refine zs2 ?_
            exact ⟨[], (fitT (sub := by repeat (first | exact subL_nil | refine subL_cons (by first | exact imp_of rfl | exact imp_of (congrArg i64 (by rw [if_neg (by omega)])) | exact imp_of (congrArg boo (by unfold flagN; rw [empty_len]; simp_all <;> rfl))) ?_)))⟩
          ·have k4 : ¬ x.kind = 4 := by simpa using hi8
           refine W_region rfl ?_
           refine zs2 ?_
           refine Wi rfl (fun hi9 => ?_) (fun hi9 => ?_)
           ·have k5 : x.kind = 5 := by simpa using hi9
            refine W_region rfl ?_
            refine zy2 ?_
            refine Wb 82 rfl (fun hg4 => ?_) (fun hg4 => ?_)
            ·refine zy5 ?_
             refine zs1 ?_
             exact ⟨[], (fitT (sub := by repeat (first | exact subL_nil | refine subL_cons (by first | exact imp_of rfl | exact imp_of (congrArg i64 (by rw [if_neg (by omega)])) | exact imp_of (congrArg boo (by unfold flagN; rw [empty_len]; simp_all <;> rfl))) ?_)))⟩
            ·refine z6 ?_
             iterate 3 refine z6 ?_
             refine zs2 ?_
             exact ⟨[], (fitT (sub := by repeat (first | exact subL_nil | refine subL_cons (by first | exact imp_of rfl | exact imp_of (congrArg i64 (by rw [if_neg (by omega)])) | exact imp_of (congrArg boo (by unfold flagN; rw [empty_len]; simp_all <;> rfl))) ?_)))⟩
           ·have k5 : ¬ x.kind = 5 := by simpa using hi9
            refine zu2 ?_
            refine Wi rfl (fun hi10 => ?_) (fun hi10 => ?_)
            ·have k6 : x.kind = 6 := by simpa using hi10
             refine Wj ?_
             exact ⟨[], (fitT (sub := by repeat (first | exact subL_nil | refine subL_cons (by first | exact imp_of rfl | exact imp_of (congrArg i64 (by rw [if_neg (by omega)])) | exact imp_of (congrArg boo (by unfold flagN; rw [empty_len]; simp_all <;> rfl))) ?_)))⟩
            ·have k6 : ¬ x.kind = 6 := by simpa using hi10
             refine Ws ?_
             refine zu2 ?_
             refine Wi rfl (fun hi11 => ?_) (fun hi11 => ?_)
             ·have k7 : x.kind = 7 := by simpa using hi11
              refine Wj ?_
              refine Wt rfl hi11 ?_
              refine zu3 ?_
              refine W_region rfl ?_
              refine zy4 ?_
              refine Wb 98 rfl (fun hg5 => ?_) (fun hg5 => ?_)
              ·refine z6 ?_
               iterate 2 refine z6 ?_
               refine zy5 ?_
               refine zs3 ?_
               exact ⟨[], (fitT (sub := by repeat (first | exact subL_nil | refine subL_cons (by first | exact imp_of rfl | exact imp_of (congrArg i64 (by rw [if_pos (by omega)]; exact w2)) | exact imp_of (congrArg boo (by unfold flagN; rw [empty_len]; simp_all <;> rfl))) ?_)))⟩
              ·refine zy5 ?_
               refine Wb 103 rfl (fun hg6 => ?_) (fun hg6 => ?_)
               ·refine zy5 ?_
                refine zs1 ?_
                exact ⟨[], (fitT (sub := by repeat (first | exact subL_nil | refine subL_cons (by first | exact imp_of rfl | exact imp_of (congrArg i64 (by rw [if_pos (by omega)]; exact w2)) | exact imp_of (congrArg boo (by unfold flagN; rw [empty_len]; simp_all <;> rfl))) ?_)))⟩
               ·refine z6 ?_
                iterate 3 refine z6 ?_
                refine zs2 ?_
                exact ⟨[], (fitT (sub := by repeat (first | exact subL_nil | refine subL_cons (by first | exact imp_of rfl | exact imp_of (congrArg i64 (by rw [if_pos (by omega)]; exact w2)) | exact imp_of (congrArg boo (by unfold flagN; rw [empty_len]; simp_all <;> rfl))) ?_)))⟩
             ·have k7 : ¬ x.kind = 7 := by simpa using hi11
              refine W_region rfl ?_
              refine zs2 ?_
              refine Wi rfl (fun hi12 => ?_) (fun hi12 => ?_)
              ·have k8 : x.kind = 8 := by simpa using hi12
               refine zu3 ?_
               refine W_region rfl ?_
               refine zy4 ?_
               refine Wb 98 rfl (fun hg5 => ?_) (fun hg5 => ?_)
               ·refine z6 ?_
                iterate 2 refine z6 ?_
                refine zy5 ?_
                refine zs3 ?_
                exact ⟨[], (fitT (sub := by repeat (first | exact subL_nil | refine subL_cons (by first | exact imp_of rfl | exact imp_of (congrArg i64 (by rw [if_pos (by omega)]; exact w2)) | exact imp_of (congrArg boo (by unfold flagN; rw [empty_len]; simp_all <;> rfl))) ?_)))⟩
               ·refine zy5 ?_
                refine Wb 103 rfl (fun hg6 => ?_) (fun hg6 => ?_)
                ·refine zy5 ?_
                 refine zs1 ?_
                 exact ⟨[], (fitT (sub := by repeat (first | exact subL_nil | refine subL_cons (by first | exact imp_of rfl | exact imp_of (congrArg i64 (by rw [if_pos (by omega)]; exact w2)) | exact imp_of (congrArg boo (by unfold flagN; rw [empty_len]; simp_all <;> rfl))) ?_)))⟩
                ·refine z6 ?_
                 iterate 3 refine z6 ?_
                 refine zs2 ?_
                 exact ⟨[], (fitT (sub := by repeat (first | exact subL_nil | refine subL_cons (by first | exact imp_of rfl | exact imp_of (congrArg i64 (by rw [if_pos (by omega)]; exact w2)) | exact imp_of (congrArg boo (by unfold flagN; rw [empty_len]; simp_all <;> rfl))) ?_)))⟩
              ·have k8 : ¬ x.kind = 8 := by simpa using hi12
               refine zu1 ?_
               refine zR ?_
               exact congrArg boo (by rw [may_in k1 k2 k9 k10 k11 q6, flag_none k3 k4 k5 k6 k7 k8]; rfl)
        ·refine zp2 ?_
         refine Wb 110 rfl (fun hg7 => ?_) (fun hg7 => ?_)
         ·refine zy2 ?_
          refine Wa 112 rfl (sqN_eq x.a) ?_
          refine zy2 ?_
          refine Wa 114 rfl (congrArg (fun z => PV.val (Value.int .i64 z)) w1) ?_
          refine z1 ?_
          refine zc rfl Try.func26 ((ha (o + 1) _ (by split <;> omega) (by split <;> omega) (by omega)) _) ?_
          refine zy2 ?_
          refine Wb 118 rfl (fun hg8 => ?_) (fun hg8 => ?_)
          ·refine zy2 ?_
           refine Wa 120 rfl (sqN_eq x.b) ?_
           refine zy2 ?_
           refine Wa 122 rfl (congrArg (fun z => PV.val (Value.int .i64 z)) w1) ?_
           refine z1 ?_
           refine zc rfl Try.func26 ((hb (o + 1) _ (by split <;> omega) (by split <;> omega) (by omega)) _) ?_
           refine zs2 ?_
           refine zR ?_
           exact congrArg boo (by rw [may_in k1 k2 k9 k10 k11 q6]; simp_all <;> rfl)
          ·refine z6 ?_
           iterate 5 refine z6 ?_
           refine zs2 ?_
           refine zR ?_
           exact congrArg boo (by rw [may_in k1 k2 k9 k10 k11 q6]; simp_all <;> rfl)
         ·refine z6 ?_
          iterate 5 refine z6 ?_
          refine zy2 ?_
          iterate 6 refine z6 ?_
          refine zs2 ?_
          refine zR ?_
          exact congrArg boo (by rw [may_in k1 k2 k9 k10 k11 q6]; simp_all <;> rfl)
theorem mayL_get {l : List VNode} {k : Nat} {o lp : Int} (hk : k < l.length) : mayL (l.take (k + 1)) o lp = (mayL (l.take k) o lp && mayN (l.getD k default) o lp) := by
 rw [take_snoc' l k default hk, mayL_app, mayL_one]
theorem mayL_no {l : List VNode} {k : Nat} {o lp : Int} (hk : k < l.length) (h : mayN (l.getD k default) o lp = false) : mayL l o lp = false := by
 have e : l = l.take (k + 1) ++ l.drop (k + 1) := (List.take_append_drop _ _).symm
 rw [e, mayL_app, mayL_get hk, h]; simp
theorem node_sz {l : List VNode} {k : Nat} (hk : k < l.length) : szL (l.getD k default).a < szL l ∧ szL (l.getD k default).b < szL l := by
 have h := sz_get hk
 rw [sz_parts] at h
 omega
theorem may_c : ∀ (n : Nat) (l : List VNode), szL l < n → n ≤ 1000001 → MayAt l := by
 intro n
 induction n with
 | zero => intro l h; omega
 | succ n ih =>
  intro l hn hN o lp h0 h1 h2
  have hl := sz_len l
  refine pW tG (rs := [.tmp 6]) Try.func26 rfl rfl rfl (by simp) (by simp) (fun B => ?_)
  refine zu1 ?_
  refine Ws ?_
  refine zu3 ?_
  refine Wl ?_
  show W _ _ _ _ _ _ _
  refine W_loopS (fun (k : Nat) => [(1, i64 o), (2, i64 lp), (9, sq cNode l), (10, i64 (l.length : Int)), (11, i64 (k : Int))]) (fun (k : Nat) => []) (fun (k : Nat) => []) (fun (k : Nat) => k ≤ l.length ∧ mayL (l.take k) o lp = true) (fun (k : Nat) => l.length - k) (0) (by exact ⟨Nat.zero_le _, by rw [List.take_zero, mayL]⟩) [] ?_ ?_
  ·exact fitT
  ·intro k hk
   refine zu1 ?_
   refine Ws ?_
   refine Wi rfl (fun hi1 => ?_) (fun hi1 => ?_)
   ·have hlt : k < l.length := by have := oT hi1; omega
    have hz := node_sz hlt
    refine Wj ?_
    refine Ws ?_
    refine Wl ?_
    refine z8 ?_
    refine Wv tG rfl rfl rfl (by omega) (iN cNode 4 (fun _ => rfl) default (by omega)) ?_
    refine zs3 ?_
    refine zp3 ?_
    refine zc rfl Try.func47 ((one_c (l.getD k default) (ih _ (by omega) (by omega)) (ih _ (by omega) (by omega)) o lp h0 h1 h2) _) ?_
    refine zs1 ?_
    refine Wi rfl (fun hi2 => ?_) (fun hi2 => ?_)
    ·have q : mayN (l.getD k default) o lp = false := by simpa using hi2
     refine zu1 ?_
     refine zR ?_
     exact congrArg boo (mayL_no hlt q).symm
    ·have q : mayN (l.getD k default) o lp = true := by simpa using hi2
     refine Wj ?_
     refine W_region rfl ?_
     refine zs2 ?_
     exact ⟨k + 1, [], (by exact ⟨by omega, by rw [mayL_get hlt, hk.2, q]; rfl⟩), (by omega), fitT⟩
   ·have hge : l.length ≤ k := by have := oF hi1; omega
    refine W_exit ?_
    refine zu1 ?_
    refine zR ?_
    exact congrArg boo (by have h3 := hk.2; rw [take_all' l k hge] at h3; exact h3.symm)
theorem ast_May (l : List VNode) (h : szL l ≤ 1000000) : PureC Try.prog 14 [sq cNode l] (boo (mayL l 0 0)) := by
 refine pW tG (rs := [.tmp 2]) Try.func14 rfl rfl rfl (by simp) (by simp) (fun B => ?_)
 refine zu1 ?_
 refine zp1 ?_
 refine zc rfl Try.func26 ((may_c _ l (Nat.lt_succ_self _) (by omega) 0 0 (Int.le_refl _) (Int.le_refl _) (by decide)) _) ?_
 refine zs1 ?_
 refine zR ?_
 rfl
theorem same1_d (x y : VNode) (ha : PureC Try.prog 16 [sq cNode x.a, sq cNode y.a] (boo (sameL x.a y.a))) (hb : PureC Try.prog 16 [sq cNode x.b, sq cNode y.b] (boo (sameL x.b y.b))) : PureC Try.prog 29 [eNode x, eNode y] (boo (sameN x y)) := by
 refine pW tG (rs := [.tmp 4]) Try.func29 rfl rfl rfl (by simp) (by simp) (fun B => ?_)
 refine zu3 ?_
 refine Ws ?_
 refine W_drawU [0, 1, 0, 1, 0, 0, 1, 0, 1, 0, 0, 1, 0, 1, 0, 0, 1, 0, 1, 0, 0, 0, 0] [0, 1, 2, 3, 4, 5, 6, 7, 8, 9, 10, 11, 12, 13, 14, 15, 16, 17, 18, 19, 20, 21, 22] mG rfl (by kernel_rfl) ?_
 refine z3 ?_
 refine z5 ?_
 refine z3 ?_
 refine z5 ?_
 iterate 2 refine z3 ?_
 refine z5 ?_
 refine z3 ?_
 refine z5 ?_
 iterate 2 refine z3 ?_
 refine z5 ?_
 refine Xa 16 rfl (sqN_eq x.a) ?_
 refine z3 ?_
 refine z5 ?_
 refine Xa 18 rfl (sqN_eq y.a) ?_
 refine Xc rfl rfl rfl rfl (fun _ => dC rfl Try.func16 rfl rfl ((ha) _)) ?_
 refine z3 ?_
 refine z5 ?_
 refine Xa 21 rfl (sqN_eq x.b) ?_
 refine z3 ?_
 refine z5 ?_
 refine Xa 23 rfl (sqN_eq y.b) ?_
 refine Xc rfl rfl rfl rfl (fun _ => dC rfl Try.func16 rfl rfl ((hb) _)) ?_
 refine z3 ?_
 refine Xa 25 rfl (bsL cBool [_, _, _, _] rfl rfl) ?_
 refine Xc rfl rfl rfl rfl (fun _ => dC rfl Try.func30 rfl rfl ((ast_all [x.kind == y.kind, x.n == y.n, sameL x.a y.a, sameL x.b y.b] (by simp)) _)) ?_
 refine z3 ?_
 refine WU_nil ?_
 refine zR ?_
 exact congrArg boo (by rw [sameN_parts, Bool.and_assoc]; simp; rfl)
theorem same_no {a b : List VNode} {k : Nat} (hk : k < a.length) (h : sameN (a.getD k default) (b.getD k default) = false) : sameL a b = false := by
 cases e : sameL a b with
 | false => rfl
 | true => have := sameL_get e hk; rw [h] at this; cases this
theorem eq_nodes (a b : List VNode) (ha : a.length ≤ 1000000) (hb : b.length ≤ 1000000) (hs : ∀ k, k < a.length → k < b.length → PureC Try.prog 29 [eNode (a.getD k default), eNode (b.getD k default)] (boo (sameN (a.getD k default) (b.getD k default)))) :
  PureC Try.prog 28 [sq cNode a, sq cNode b, .fn (.func 29) [] []] (boo (sameL a b)) := by
 refine pW tG (rs := [.tmp 6]) Try.func28 rfl rfl rfl (by (simp [Flat, FlatL]; done)) (by (simp; done)) (fun B => ?_)
 refine zu1 ?_
 refine Ws ?_
 refine zu5 ?_
 refine Wi rfl (fun hi1 => ?_) (fun hi1 => ?_)
 ·have hne : sameL a b = false := by
   cases e : sameL a b with
   | false => rfl
   | true => have := sameL_len e; rw [this] at hi1; simp at hi1
  refine zu1 ?_
  refine zR ?_
  exact congrArg boo hne.symm
 ·have hl : a.length = b.length := by (try simp only [dnL] at *); omega
  refine Wj ?_
  refine Ws ?_
  refine zu3 ?_
  refine Wl ?_
  show W _ _ _ _ _ _ _
  refine W_loopS (fun (k : Nat) => [(1, sq cNode b), (2, .fn (.func 29) [] []), (15, sq cNode a), (16, i64 a.length), (17, i64 k)]) (fun (k : Nat) => []) (fun (k : Nat) => []) (fun (k : Nat) => k ≤ a.length ∧ ∀ j, j < k → sameN (a.getD j default) (b.getD j default) = true) (fun (k : Nat) => a.length - k) (0) (by exact ⟨Nat.zero_le _, fun j hj => absurd hj (Nat.not_lt_zero _)⟩) [] ?_ ?_
  ·exact fitT
  ·intro k hk
   refine zu1 ?_
   refine Ws ?_
   refine Wi rfl (fun hi2 => ?_) (fun hi2 => ?_)
   ·have hlt : k < a.length := by have := oT hi2; omega
    refine Wj ?_
    refine Ws ?_
    refine Wl ?_
    refine zp1 ?_
    refine Wv tG rfl rfl rfl (by omega) (iN cNode 4 (fun _ => rfl) default (by omega)) ?_
    refine zs4 ?_
    refine zp2 ?_
    refine Wv tG rfl rfl rfl (by omega) (iN cNode 4 (fun _ => rfl) default (by omega)) ?_
    refine zs3 ?_
    refine zp3 ?_
    refine Wc rfl rfl (doesCWv rfl rfl Try.func29 rfl rfl ((hs k hlt (by omega)) _)) ?_
    refine zs1 ?_
    refine Wi rfl (fun hi3 => ?_) (fun hi3 => ?_)
    ·have q : sameN (a.getD k default) (b.getD k default) = false := by simpa using hi3
     refine zu1 ?_
     refine zR ?_
     exact congrArg boo (same_no hlt q).symm
    ·have q : sameN (a.getD k default) (b.getD k default) = true := by simpa using hi3
     refine Wj ?_
     refine W_region rfl ?_
     refine zs2 ?_
     exact ⟨k + 1, [], (by exact ⟨by omega, fun j hj => by rcases Nat.lt_succ_iff_lt_or_eq.1 hj with h | h; exact hk.2 j h; rw [h]; exact q⟩), (by omega), fitT⟩
   ·have hge : a.length ≤ k := by have := oF hi2; omega
    refine W_exit ?_
    refine zu1 ?_
    refine zR ?_
    exact congrArg boo (sameL_all hl (fun j hj => hk.2 j (by omega))).symm
theorem same_c : ∀ (n : Nat) (a : List VNode), szL a < n → n ≤ 1000001 → ∀ b : List VNode, szL b ≤ 1000000 → PureC Try.prog 16 [sq cNode a, sq cNode b] (boo (sameL a b)) := by
 intro n
 induction n with
 | zero => intro a h; omega
 | succ n ih =>
  intro a hn hN b hb
  have hla := sz_len a
  have hlb := sz_len b
  have he := eq_nodes a b (by omega) (by omega) (fun k h1 h2 => by
   have q1 := node_sz h1
   have q2 := node_sz h2
   exact same1_d _ _ (ih _ (by omega) (by omega) _ (by omega)) (ih _ (by omega) (by omega) _ (by omega)))
  refine pW tG (rs := [.tmp 4]) Try.func16 rfl rfl rfl (by simp) (by simp) (fun B => ?_)
  refine zu1 ?_
  refine zp2 ?_
  refine zc rfl Try.func28 ((he) _) ?_
  refine zs1 ?_
  refine zR ?_
  rfl
theorem ast_Same (a b : List VNode) (ha : szL a ≤ 1000000) (hb : szL b ≤ 1000000) : PureC Try.prog 16 [sq cNode a, sq cNode b] (boo (sameL a b)) := same_c _ a (Nat.lt_succ_self _) (by omega) b hb
end Go.Proofs.Ytiibjcnedbncjaa
namespace Go.Proofs.Ytiibjcnedbncjaa
open Go.RowKit
set_option maxRecDepth 100000
theorem cB_take (l : List UInt8) (k : Nat) : (l.flatMap cByte).take k = (l.take k).flatMap cByte := by
 have := flatMap_take cByte 1 (fun _ => rfl) k l
 rwa [Nat.mul_one] at this
theorem cB_len (l : List UInt8) : (l.flatMap cByte).length = l.length := by rw [flatMap_len cByte 1 (fun _ => rfl), Nat.mul_one]
end Go.Proofs.Ytiibjcnedbncjaa
namespace Go.Proofs.Ytiibjcnedbncjaa
open Go.RowKit
set_option maxRecDepth 100000
set_option maxHeartbeats 4000000
theorem WO_obI {P : Program} {B : Nat → Nat → Prop} {n : Nat} {all : Array Oper} {l : List Oper} {T : Nat → PV} {H H' : List Ob} {K : (Nat → PV) → List Ob → Prop} (i : Nat) {ob ob' : Ob} (hi : H[i]? = some ob) (e : ob = ob') (hH : nfH (H.set i ob') = some H') (h1 : WO P B n all l T H' K) : WO P B n all l T H K := by
 rw [nfH_eq hH] at h1
 subst e
 have : H.set i ob = H := by
  apply List.ext_getElem?
  intro j
  rw [List.getElem?_set]
  split
  ·rename_i h; subst h; split
   ·exact hi.symm
   ·rename_i h2; rw [List.getElem?_eq_none (by omega)]
  ·rfl
 rwa [this] at h1
def onlyT : List Str := [[73], [74], [85, 78, 76, 79, 79, 80], [62, 82], [82, 62], [82, 64], [50, 62, 82], [50, 82, 62]]
def nowT : List Str := [[46, 34], [40], [92], [91]]
def bothT : List Str := [[59], [68, 79, 69, 83, 62], [91, 39, 93], [91, 67, 72, 65, 82, 93], [76, 73, 84, 69, 82, 65, 76], [80, 79, 83, 84, 80, 79, 78, 69], [82, 69, 67, 85, 82, 83, 69], [73, 70], [69, 76, 83, 69], [84, 72, 69, 78], [66, 69, 71, 73, 78], [87, 72, 73, 76, 69], [82, 69, 80, 69, 65, 84], [85, 78, 84, 73, 76], [65, 71, 65, 73, 78], [68, 79], [63, 68, 79], [76, 79, 79, 80], [43, 76, 79, 79, 80], [76, 69, 65, 86, 69], [83, 34], [69, 88, 73, 84]]
def inS (l : List Str) (s : Str) : Bool := l.any (fun x => decide (x = s))
theorem ref_in (l : List Str) (s : Str) (hl : l.length ≤ 1000000) : PureC Try.prog 77 [sq cStr l, str s] (boo (inS l s)) := by
 refine pW tG (rs := [.tmp 4]) Try.func77 rfl rfl rfl (by simp) (by simp) (fun B => ?_)
 refine zu1 ?_
 refine Ws ?_
 refine zu1 ?_
 refine Wl ?_
 show W _ _ _ _ _ _ _
 refine W_loopS (fun (k : Nat) => [(0, sq cStr l), (1, str s), (5, i64 k)]) (fun (k : Nat) => []) (fun (k : Nat) => []) (fun (k : Nat) => k ≤ l.length ∧ (l.take k).all (fun x => !decide (x = s)) = true) (fun (k : Nat) => l.length - k) (0) (by simp) [] ?_ ?_
 ·exact fitT
 ·intro k hk
  refine Ws ?_
  refine zu4 ?_
  refine Wi rfl (fun hi1 => ?_) (fun hi1 => ?_)
  ·have hlt : k < l.length := by have := oT hi1; omega
   refine Wj ?_
   refine Ws ?_
   refine Wl ?_
   refine zp2 ?_
   refine Wv tG rfl rfl rfl (by omega) (iN cStr 1 (fun _ => rfl) [] (by omega)) ?_
   refine zy3 ?_
   refine zq 17 ?_
   refine Wn ?_
   refine Wi rfl (fun hi2 => ?_) (fun hi2 => ?_)
   ·have hy : inS l s = true := by unfold inS; rw [List.any_eq_true]; exact ⟨_, mem_getD [] hlt, hi2⟩
    refine zu1 ?_
    refine zR ?_
    rw [hy]; rfl
   ·refine Wj ?_
    refine W_region rfl ?_
    refine zs3 ?_
    exact ⟨k + 1, [], (by exact ⟨by omega, all_snoc [] hlt hk.2 (by rw [hi2]; rfl)⟩), (by omega), fitT⟩
  ·have hge : l.length ≤ k := by have := oF hi1; omega
   have hn : inS l s = false := by have h1 := hk.2; rw [take_all' _ k hge] at h1; unfold inS; rw [List.any_eq_false]; intro x hx; have := List.all_eq_true.1 h1 x hx; simpa using this
   refine W_exit ?_
   refine zu1 ?_
   refine zR ?_
   rw [hn]; rfl
def flagsN (name : Str) (i : Nat) : Int := if i < 12 then 6 else if inS onlyT name then 4 else if inS nowT name then 1 else if inS bothT name then 5 else 0
theorem ref_flags (name : Str) (i : Nat) : PureC Try.prog 51 [str name, i64 i] (i64 (flagsN name i)) := by
 refine pW tG (rs := [.tmp 4]) Try.func51 rfl rfl rfl (by simp) (by simp) (fun B => ?_)
 refine zu1 ?_
 refine Ws ?_
 refine zu2 ?_
 refine Wi rfl (fun hi1 => ?_) (fun hi1 => ?_)
 ·have h0 : i < 12 := by have := oT hi1; omega
  refine zu1 ?_
  refine zR ?_
  rw [flagsN, if_pos h0]; rfl
 ·have h0 : ¬ i < 12 := by have := oF hi1; omega
  refine Wj ?_
  refine zp1 ?_
  refine Wa 10 rfl (bsL cStr [_, _, _, _, _, _, _, _] rfl rfl) ?_
  refine z1 ?_
  refine zc rfl Try.func77 ((ref_in onlyT name (by decide)) _) ?_
  refine zs1 ?_
  refine Ws ?_
  refine zu1 ?_
  refine Wi rfl (fun hi2 => ?_) (fun hi2 => ?_)
  ·refine zu1 ?_
   refine zR ?_
   rw [flagsN, if_neg h0, if_pos hi2]; rfl
  ·refine Wj ?_
   refine zp1 ?_
   refine Wa 14 rfl (bsL cStr [_, _, _, _] rfl rfl) ?_
   refine z1 ?_
   refine zc rfl Try.func77 ((ref_in nowT name (by decide)) _) ?_
   refine zs1 ?_
   refine Ws ?_
   refine zu1 ?_
   refine Wi rfl (fun hi3 => ?_) (fun hi3 => ?_)
   ·refine zu1 ?_
    refine zR ?_
    rw [flagsN, if_neg h0, if_neg (by rw [hi2]; simp), if_pos hi3]; rfl
   ·refine Wj ?_
    refine zp1 ?_
    refine Wa 18 rfl (bsL cStr [_, _, _, _, _, _, _, _, _, _, _, _, _, _, _, _, _, _, _, _, _, _] rfl rfl) ?_
    refine z1 ?_
    refine zc rfl Try.func77 ((ref_in bothT name (by decide)) _) ?_
    refine zs1 ?_
    refine Ws ?_
    refine zu1 ?_
    refine Wi rfl (fun hi4 => ?_) (fun hi4 => ?_)
    ·refine zu1 ?_
     refine zR ?_
     rw [flagsN, if_neg h0, if_neg (by rw [hi2]; simp), if_neg (by rw [hi3]; simp), if_pos hi4]; rfl
    ·refine Wj ?_
     refine zu1 ?_
     refine zR ?_
     rw [flagsN, if_neg h0, if_neg (by rw [hi2]; simp), if_neg (by rw [hi3]; simp), if_neg (by rw [hi4]; simp)]; rfl
theorem ref_NamesC : PureC Try.prog 49 [] (sqc cStr names) := by
 refine pW tG (rs := [.tmp 0]) Try.func49 rfl rfl rfl (by simp; done) (by exact flat_sqc flat_cStr _) (fun B => ?_)
 refine zu1 ?_
 refine zp1 ?_
 refine Wa 1 rfl (bsL cStr [_, _, _, _, _, _, _, _, _, _, _, _, _, _, _, _, _, _, _, _, _, _, _, _, _, _, _, _, _, _, _, _, _, _, _, _, _, _, _, _, _, _, _, _, _, _, _, _, _, _, _, _, _, _, _, _, _, _, _, _, _, _, _, _, _, _, _, _, _, _, _, _, _, _, _, _, _, _, _, _, _, _, _, _, _, _, _, _, _, _, _, _, _, _, _, _, _, _, _, _, _, _, _, _, _, _, _, _, _, _, _, _, _, _, _, _, _, _, _, _, _, _, _, _, _, _, _, _, _, _] rfl rfl) ?_
 refine zs1 ?_
 refine Wq ?_
 exact leafPx rfl rfl
def allN : List Str := names ++ specials
theorem allN_len : allN.length = 167 := by unfold allN; rw [List.length_append, names_len, specials_len]
def nval (i : Nat) : Nat := if 130 ≤ i then 170 + i else i
def put2 (b : List UInt8) (a n : Nat) : List UInt8 := (b.set a (UInt8.ofNat (n % 256))).set (a + 1) (UInt8.ofNat (n / 256))
def stepB (b : List UInt8) (i : Nat) : List UInt8 :=
 let b1 := put2 b (32 + 8 * i) (nval i)
 let b2 := if allN.getD i [] = [40, 104, 97, 108, 116, 41] then put2 b1 16 (32 + 8 * i) else b1
 if allN.getD i [] = [40, 99, 97, 117, 103, 104, 116, 41] then put2 b2 24 (32 + 8 * i) else b2
def newB (M : Nat) : Nat → List UInt8
 | 0 => (List.replicate M 0).set 0 10
 | k + 1 => stepB (newB M k) k
def wordN (i : Nat) : VWord := ⟨allN.getD i [], ((32 + 8 * i : Nat) : Int), flagsN (allN.getD i []) i⟩
def newL (k : Nat) : List VWord := (List.range k).map wordN
@[simp] theorem newL_len (k : Nat) : (newL k).length = k := by simp [newL]
theorem newL_succ (k : Nat) : newL (k + 1) = newL k ++ [wordN k] := by unfold newL; rw [List.range_succ, List.map_append]; rfl
theorem put2_len (b : List UInt8) (a n : Nat) : (put2 b a n).length = b.length := by simp [put2]
theorem stepB_len (b : List UInt8) (i : Nat) : (stepB b i).length = b.length := by
 unfold stepB
 simp only
 split <;> split <;> simp [put2_len]
theorem newB_len (M k : Nat) : (newB M k).length = M := by
 induction k with
 | zero => simp [newB]
 | succ k ih => rw [newB, stepB_len, ih]
def newVm (c : VConf) : VVm := { conf := c, mem := ⟨newB c.mem.toNat 167, []⟩, here := 1368, d := [], r := [], f := [], dict := newL 167, last := 0, out := [], pic := ⟨[], false⟩, req := [], free := 0, next := 0, arg := 0, self := 0, now := 0, hand := [] }
def vmZ : List PV := [i64 0, i64 0, i64 0, i64 0, i64 0, .seq 0 [] .clip, .seq 0 [] .clip, i64 0, .seq 0 [] .clip, .seq 0 [] .clip, .seq 0 [] .clip, .seq 0 [] .clip, i64 0, .seq 0 [] .clip, .seq 0 [] .clip, boo false, .seq 0 [] .clip, i64 0, i64 0, i64 0, i64 0, i64 0, .seq 0 [] .clip]
@[simp] theorem nl_vmZ {n : Nat} : NL1L n vmZ := nl1L_flat (by simp [vmZ])
theorem u8_of (n : Nat) (h : n < 256) : ((UInt8.ofNat n).toNat : Int) = n := by rw [UInt8.toNat_ofNat']; omega
theorem u8_mod (n : Nat) : PV.val (Value.int .u8 (IntKind.u8.wrap ((n : Int).tmod 256))) = .val (.int .u8 ((UInt8.ofNat (n % 256)).toNat : Int)) := by
 rw [u8_of _ (by omega), Int.tmod_eq_emod_of_nonneg (by omega)]
 simp only [PV.val.injEq, Value.int.injEq, true_and]
 rw [IntKind.wrap_u8]; omega
theorem u8_quo (n : Nat) (h : n < 65536) : PV.val (Value.int .u8 (IntKind.u8.wrap (IntKind.i64.wrap ((n : Int).tdiv 256)))) = .val (.int .u8 ((UInt8.ofNat (n / 256)).toNat : Int)) := by
 rw [u8_of _ (by omega), Int.tdiv_eq_ediv_of_nonneg (by omega)]
 simp only [PV.val.injEq, Value.int.injEq, true_and]
 rw [i64w, IntKind.wrap_u8]; unfold wrap64; omega
theorem splice_at {b : List UInt8} {i : Int} {n : Nat} {x : UInt8} (hi : i = n) (hn : n < b.length) : splice (b.flatMap cByte) (0 + i.toNat * 1) [.val (.int .u8 (x.toNat : Int))] = (b.set n x).flatMap cByte := by
 subst hi
 rw [Int.toNat_natCast, Nat.mul_one, Nat.zero_add]
 exact splice_byte hn x
theorem zeros_b {M : Nat} {d : TD} {e : TypeId} (hd : d.zero = cByte 0) : Ob.cells (zerosPV M d) e = .cells ((List.replicate M (0 : UInt8)).flatMap cByte) e := by
 unfold zerosPV
 rw [hd, List.flatMap_replicate]
end Go.Proofs.Ytiibjcnedbncjaa
namespace Go.Proofs.Ytiibjcnedbncjaa
open Go.RowKit
set_option maxRecDepth 100000
set_option maxHeartbeats 4000000
theorem stepB_of {b : List UInt8} {k n : Nat} {p q : Prop} [Decidable p] [Decidable q] (hn : nval k = n) (h1 : (allN.getD k [] = [40, 104, 97, 108, 116, 41]) = p) (h2 : (allN.getD k [] = [40, 99, 97, 117, 103, 104, 116, 41]) = q) :
  stepB b k = if q then put2 (if p then put2 (put2 b (32 + 8 * k) n) 16 (32 + 8 * k) else put2 b (32 + 8 * k) n) 24 (32 + 8 * k) else (if p then put2 (put2 b (32 + 8 * k) n) 16 (32 + 8 * k) else put2 b (32 + 8 * k) n) := by
 subst h1 h2 hn
 unfold stepB
 simp only
 split <;> split <;> simp_all
theorem ar_1 {k : Nat} (h : k < 167) : IntKind.i64.wrap (32 + IntKind.i64.wrap (8 * (k : Int))) = ((32 + 8 * k : Nat) : Int) := by simp only [i64w]; unfold wrap64; omega
theorem ar_2 {k n : Nat} (h : k < 167) (hn : n = 130) (h3 : 130 ≤ k) : IntKind.i64.wrap (IntKind.i64.wrap (300 + (k : Int)) - (n : Int)) = ((170 + k : Nat) : Int) := by subst hn; simp only [i64w]; unfold wrap64; omega
theorem ar_3 {k : Nat} (h : k < 167) : IntKind.i64.wrap (((32 + 8 * k : Nat) : Int) + 1) = ((32 + 8 * k + 1 : Nat) : Int) := by simp only [i64w]; unfold wrap64; omega
theorem newW (k : Nat) {q : SK} : PV.seq (newL k ++ [wordN k]).length ((newL k ++ [wordN k]).flatMap cWord) q = .seq (newL (k + 1)).length ((newL (k + 1)).flatMap cWord) q := by rw [newL_succ]
theorem frz_b {M : Nat} {b : List UInt8} (h : b.length = M) : PV.seq M ((b.flatMap cByte).take M) .any = sq cByte b := by rw [cB_take, List.take_of_length_le (by omega), ← h]; rfl
def vmOf (c : VConf) (b : List UInt8) (l : List VWord) : VVm := { conf := c, mem := ⟨b, []⟩, here := 1368, d := [], r := [], f := [], dict := l, last := 0, out := [], pic := ⟨[], false⟩, req := [], free := 0, next := 0, arg := 0, self := 0, now := 0, hand := [] }
theorem newVm_of (c : VConf) : newVm c = vmOf c (newB c.mem.toNat 167) (newL 167) := rfl
theorem ref_New (c : VConf) (hc : fitsV c) : PureC Try.prog 31 [eConf c] (tVm (newVm c, 0)) := by
 have hM : 2048 ≤ c.mem ∧ c.mem ≤ 65536 := ⟨hc.1, hc.2.1⟩
 obtain ⟨M, hMe⟩ : ∃ M : Nat, c.mem = M := ⟨c.mem.toNat, by omega⟩
 have hMt : c.mem.toNat = M := by omega
 have hN := names_len
 have hS := specials_len
 have hA := allN_len
 have hD : decide (fitsV c) = true := decide_eq_true hc
 refine pW tG (rs := [.cell 2 36, .tmp 3]) Try.func31 rfl rfl rfl (by simp) (by simp) (fun B => ?_)
 refine zu3 ?_
 refine zp1 ?_
 refine zc rfl Try.func35 ((ref_Fits c) _) ?_
 refine zs1 ?_
 refine Ws ?_
 refine zu2 ?_
 refine Wf rfl (by rw [hD]; rfl) ?_
 refine Wj ?_
 refine zp2 ?_
 refine z2 ?_ (q := (by (simp_all; omega)))
 refine WO_obI 2 rfl (zeros_b rfl) rfl ?_
 refine Wa 18 rfl (show PV.arr 2 0 c.mem.toNat c.mem.toNat = .arr 2 0 M M by rw [hMt]) ?_
 refine WO_obI 2 rfl (show Ob.cells ((List.replicate c.mem.toNat (0 : UInt8)).flatMap cByte) 5 = .cells ((List.replicate M (0 : UInt8)).flatMap cByte) 5 by rw [hMt]) rfl ?_
 refine zs1 ?_
 refine zp1 ?_
 refine z2 ?_ (q := (by omega))
 refine Wd rfl rfl (does_store (lO tG rfl) rfl rfl rfl rfl rfl rfl (by rw [Nat.ble_eq, cB_len]; simp; omega)) ?_
 refine WO_obI 2 rfl (congrArg (fun z => Ob.cells z 5) (splice_at (x := 10) (n := 0) rfl (by simp; omega))) rfl ?_
 refine z0 ?_
 refine zc rfl Try.func49 ((ref_NamesC) _) ?_
 refine zc rfl Try.func50 ((ref_Specials) _) ?_
 refine Wd rfl rfl (does_append_clip (lO tG rfl) rfl (lO tG rfl) (lO tG rfl) rfl rfl (by exact ⟨_, rfl⟩) (by exact ⟨rfl, rfl, flatMap_len _ 1 (fun _ => rfl) _, okC_flat _ (fun _ => rfl) _⟩) (by exact flatMap_len _ 1 (fun _ => rfl) _) (by (dsimp only; omega)) (by (rw [hN, hS]; decide))) ?_
 refine Wa 23 rfl (sq_append cStr) ?_
 refine Wm 23 rfl (imp_seq _ _ _) ?_
 refine zs1 ?_
 refine zp1 ?_
 refine WO_own 7 0 3 rfl rfl ?_
 refine Wn ?_
 refine Ws ?_
 refine zu1 ?_
 refine Wl ?_
 show W _ _ _ _ _ _ _
 refine W_loopS (fun (k : Nat) => [(1, .ptr 0 0), (2, .ptr 1 0), (5, .arr 2 0 M M), (6, sq cStr allN), (7, .seq (newL k).length ((newL k).flatMap cWord) (.own 5 3)), (8, i64 k)]) (fun (k : Nat) => [.cells (cConf c) 23, .cells vmZ 36, .cells ((newB M k).flatMap cByte) 5, .dead, .dead]) (fun (k : Nat) => [.free ((newL k).length * 3)]) (fun (k : Nat) => k ≤ 167) (fun (k : Nat) => 167 - k) (0) (by omega) [4] ?_ ?_
 ·exact fitT
 ·intro k hk
  refine Ws ?_
  refine zu4 ?_
  refine Wi rfl (fun hi2 => ?_) (fun hi2 => ?_)
  ·have hlt : k < 167 := by have := oT hi2; rw [hA] at this; omega
   have hB := newB_len M k
   have hL := newL_len k
   have w1 := ar_1 hlt
   have w3 := ar_3 hlt
   refine Wj ?_
   refine Ws ?_
   refine Wl ?_
   refine zp3 ?_
   refine Wa 32 rfl (congrArg (fun z => PV.val (Value.int .i64 z)) w1) ?_
   refine zs1 ?_
   refine zu2 ?_
   refine Ws ?_
   refine zp1 ?_
   refine zc rfl Try.func49 ((ref_Names) _) ?_
   refine zs2 ?_
   refine Wi rfl (fun hi3 => ?_) (fun hi3 => ?_)
   ·have hk3 : 130 ≤ k := by have := oT hi3; rw [hN] at this; omega
    have w2 := ar_2 hlt hN hk3
    have hn : nval k = 170 + k := by unfold nval; rw [if_pos hk3]
    refine W_region rfl ?_
    refine zy2 ?_
    refine zc rfl Try.func49 ((ref_Names) _) ?_
    refine zy2 ?_
    refine Wa 42 rfl (congrArg (fun z => PV.val (Value.int .i64 z)) w2) ?_
    refine zs1 ?_
    refine zp5 ?_
    refine Wa 47 rfl (u8_mod _) ?_
    refine z2 ?_ (q := (by omega))
    refine Wd rfl rfl (does_store (lO tG rfl) rfl rfl rfl rfl rfl rfl (by rw [Nat.ble_eq, cB_len, hB]; (try dsimp only); simp; omega)) ?_
    refine WO_obI 2 rfl (congrArg (fun z => Ob.cells z 5) (splice_at rfl (by omega))) rfl ?_
    refine Wn ?_
    refine zp3 ?_
    refine Wa 51 rfl (congrArg (fun z => PV.val (Value.int .i64 z)) w3) ?_
    refine zy3 ?_
    refine Wa 54 rfl (u8_quo _ (by omega)) ?_
    refine z2 ?_ (q := (by omega))
    refine Wd rfl rfl (does_store (lO tG rfl) rfl rfl rfl rfl rfl rfl (by rw [Nat.ble_eq, cB_len, List.length_set, hB]; (try dsimp only); simp; omega)) ?_
    refine WO_obI 2 rfl (congrArg (fun z => Ob.cells z 5) (splice_at rfl (by rw [List.length_set]; omega))) rfl ?_
    refine Wn ?_
    refine Ws ?_
    refine W_drawU [0, 0, 0, 0, 0, 0, 0, 0, 0, 0, 0, 0, 0, 0, 3, 0] [0, 1, 2, 3, 4, 5, 6, 7, 8, 9, 10, 11, 12, 13, 14, 15] mG rfl (by kernel_rfl) ?_
    iterate 3 refine z3 ?_
    refine Xi tG rfl rfl rfl rfl (fun _ => rfl) (by omega) (iN cStr 1 (fun _ => rfl) [] (by omega)) ?_
    iterate 4 refine z3 ?_
    refine Xi tG rfl rfl rfl rfl (fun _ => rfl) (by omega) (iN cStr 1 (fun _ => rfl) [] (by omega)) ?_
    iterate 2 refine z3 ?_
    refine Xc rfl rfl rfl rfl (fun _ => dC rfl Try.func51 rfl rfl ((ref_flags _ k) _)) ?_
    iterate 2 refine z3 ?_
    refine Xa 69 rfl ((show PV.seq 1 _ .clip = .seq (List.length [wordN k]) (List.flatMap cWord [wordN k]) .clip from rfl)) ?_
    refine WU_does3 rfl rfl rfl rfl (does_append_own (lO tG rfl) rfl (lO tG rfl) (lO tG rfl) rfl rfl rfl rfl (by simp) (by exact ⟨_, rfl⟩) (by exact ⟨rfl, rfl, flatMap_len _ 3 (fun _ => rfl) _, okC_flat _ (fun _ => rfl) _⟩) (by (rw [hL]; dsimp only; simp; omega)) (by (simp; omega))) ?_
    refine Xa 70 rfl (sq_append cWord) ?_
    refine z3 ?_
    skip
    refine WU_nil ?_
    refine Ws ?_
    refine zp2 ?_
    refine Wv tG rfl rfl rfl (by omega) (iN cStr 1 (fun _ => rfl) [] (by omega)) ?_
    refine zy2 ?_
    refine zq 75 ?_
    refine Wn ?_
    refine Wi rfl (fun hi4 => ?_) (fun hi4 => ?_)
    ·have h1 : (allN.getD k [] = [40, 104, 97, 108, 116, 41]) = True := eq_true (oT hi4)
     refine zp4 ?_
     refine Wa 79 rfl (u8_mod _) ?_
     refine z2 ?_ (q := (by omega))
     refine Wd rfl rfl (does_store (lO tG rfl) rfl rfl rfl rfl rfl rfl (by rw [Nat.ble_eq, cB_len]; simp only [List.length_set, hB]; (try dsimp only); simp; omega)) ?_
     refine WO_obI 2 rfl (congrArg (fun z => Ob.cells z 5) (splice_at rfl (by simp only [List.length_set]; omega))) rfl ?_
     refine Wn ?_
     refine W_region rfl ?_
     refine zy4 ?_
     refine Wa 84 rfl (u8_quo _ (by omega)) ?_
     refine z2 ?_ (q := (by omega))
     refine Wd rfl rfl (does_store (lO tG rfl) rfl rfl rfl rfl rfl rfl (by rw [Nat.ble_eq, cB_len]; simp only [List.length_set, hB]; (try dsimp only); simp; omega)) ?_
     refine WO_obI 2 rfl (congrArg (fun z => Ob.cells z 5) (splice_at rfl (by simp only [List.length_set]; omega))) rfl ?_
     refine Wn ?_
     refine zp2 ?_
     refine Wv tG rfl rfl rfl (by omega) (iN cStr 1 (fun _ => rfl) [] (by omega)) ?_
     refine zy2 ?_
     refine zq 90 ?_
     refine Wn ?_
     refine Wi rfl (fun hi5 => ?_) (fun hi5 => ?_)
     ·have h2 : (allN.getD k [] = [40, 99, 97, 117, 103, 104, 116, 41]) = True := eq_true (oT hi5)
      refine zp4 ?_
      refine Wa 94 rfl (u8_mod _) ?_
      refine z2 ?_ (q := (by omega))
      refine Wd rfl rfl (does_store (lO tG rfl) rfl rfl rfl rfl rfl rfl (by rw [Nat.ble_eq, cB_len]; simp only [List.length_set, hB]; (try dsimp only); simp; omega)) ?_
      refine WO_obI 2 rfl (congrArg (fun z => Ob.cells z 5) (splice_at rfl (by simp only [List.length_set]; omega))) rfl ?_
      refine Wn ?_
      refine W_region rfl ?_
      refine zy4 ?_
      refine Wa 99 rfl (u8_quo _ (by omega)) ?_
      refine z2 ?_ (q := (by omega))
      refine Wd rfl rfl (does_store (lO tG rfl) rfl rfl rfl rfl rfl rfl (by rw [Nat.ble_eq, cB_len]; simp only [List.length_set, hB]; (try dsimp only); simp; omega)) ?_
      refine WO_obI 2 rfl (congrArg (fun z => Ob.cells z 5) (splice_at rfl (by simp only [List.length_set]; omega))) rfl ?_
      refine Wn ?_
      refine W_region rfl ?_
      refine z1 ?_
      refine WO_obI 2 rfl (congrArg (fun z => Ob.cells (List.flatMap cByte z) 5) (show _ = newB M (k + 1) from (stepB_of hn h1 h2).symm)) rfl ?_
      refine zs2 ?_
      exact ⟨k + 1, [6], (by omega), (by omega), (fitT (sub := by repeat (first | exact subL_nil | refine subL_cons (by first | exact imp_of rfl | exact imp_of (newW k) | exact imp_of (congrArg i64 (by (rw [i64w]; unfold wrap64; omega)))) ?_)))⟩
     ·have h2 : (allN.getD k [] = [40, 99, 97, 117, 103, 104, 116, 41]) = False := eq_false (oF hi5)
      refine Wj ?_
      refine W_region rfl ?_
      refine z1 ?_
      refine WO_obI 2 rfl (congrArg (fun z => Ob.cells (List.flatMap cByte z) 5) (show _ = newB M (k + 1) from (stepB_of hn h1 h2).symm)) rfl ?_
      refine zs2 ?_
      exact ⟨k + 1, [6], (by omega), (by omega), (fitT (sub := by repeat (first | exact subL_nil | refine subL_cons (by first | exact imp_of rfl | exact imp_of (newW k) | exact imp_of (congrArg i64 (by (rw [i64w]; unfold wrap64; omega)))) ?_)))⟩
    ·have h1 : (allN.getD k [] = [40, 104, 97, 108, 116, 41]) = False := eq_false (oF hi4)
     refine Wj ?_
     refine zp2 ?_
     refine Wv tG rfl rfl rfl (by omega) (iN cStr 1 (fun _ => rfl) [] (by omega)) ?_
     refine zy2 ?_
     refine zq 90 ?_
     refine Wn ?_
     refine Wi rfl (fun hi5 => ?_) (fun hi5 => ?_)
     ·have h2 : (allN.getD k [] = [40, 99, 97, 117, 103, 104, 116, 41]) = True := eq_true (oT hi5)
      refine zp4 ?_
      refine Wa 94 rfl (u8_mod _) ?_
      refine z2 ?_ (q := (by omega))
      refine Wd rfl rfl (does_store (lO tG rfl) rfl rfl rfl rfl rfl rfl (by rw [Nat.ble_eq, cB_len]; simp only [List.length_set, hB]; (try dsimp only); simp; omega)) ?_
      refine WO_obI 2 rfl (congrArg (fun z => Ob.cells z 5) (splice_at rfl (by simp only [List.length_set]; omega))) rfl ?_
      refine Wn ?_
      refine W_region rfl ?_
      refine zy4 ?_
      refine Wa 99 rfl (u8_quo _ (by omega)) ?_
      refine z2 ?_ (q := (by omega))
      refine Wd rfl rfl (does_store (lO tG rfl) rfl rfl rfl rfl rfl rfl (by rw [Nat.ble_eq, cB_len]; simp only [List.length_set, hB]; (try dsimp only); simp; omega)) ?_
      refine WO_obI 2 rfl (congrArg (fun z => Ob.cells z 5) (splice_at rfl (by simp only [List.length_set]; omega))) rfl ?_
      refine Wn ?_
      refine W_region rfl ?_
      refine z1 ?_
      refine WO_obI 2 rfl (congrArg (fun z => Ob.cells (List.flatMap cByte z) 5) (show _ = newB M (k + 1) from (stepB_of hn h1 h2).symm)) rfl ?_
      refine zs2 ?_
      exact ⟨k + 1, [6], (by omega), (by omega), (fitT (sub := by repeat (first | exact subL_nil | refine subL_cons (by first | exact imp_of rfl | exact imp_of (newW k) | exact imp_of (congrArg i64 (by (rw [i64w]; unfold wrap64; omega)))) ?_)))⟩
     ·have h2 : (allN.getD k [] = [40, 99, 97, 117, 103, 104, 116, 41]) = False := eq_false (oF hi5)
      refine Wj ?_
      refine W_region rfl ?_
      refine z1 ?_
      refine WO_obI 2 rfl (congrArg (fun z => Ob.cells (List.flatMap cByte z) 5) (show _ = newB M (k + 1) from (stepB_of hn h1 h2).symm)) rfl ?_
      refine zs2 ?_
      exact ⟨k + 1, [6], (by omega), (by omega), (fitT (sub := by repeat (first | exact subL_nil | refine subL_cons (by first | exact imp_of rfl | exact imp_of (newW k) | exact imp_of (congrArg i64 (by (rw [i64w]; unfold wrap64; omega)))) ?_)))⟩
   ·have hn : nval k = k := by have := oF hi3; rw [hN] at this; unfold nval; rw [if_neg (by omega)]
    refine Wj ?_
    refine zp5 ?_
    refine Wa 47 rfl (u8_mod _) ?_
    refine z2 ?_ (q := (by omega))
    refine Wd rfl rfl (does_store (lO tG rfl) rfl rfl rfl rfl rfl rfl (by rw [Nat.ble_eq, cB_len, hB]; (try dsimp only); simp; omega)) ?_
    refine WO_obI 2 rfl (congrArg (fun z => Ob.cells z 5) (splice_at rfl (by omega))) rfl ?_
    refine Wn ?_
    refine zp3 ?_
    refine Wa 51 rfl (congrArg (fun z => PV.val (Value.int .i64 z)) w3) ?_
    refine zy3 ?_
    refine Wa 54 rfl (u8_quo _ (by omega)) ?_
    refine z2 ?_ (q := (by omega))
    refine Wd rfl rfl (does_store (lO tG rfl) rfl rfl rfl rfl rfl rfl (by rw [Nat.ble_eq, cB_len, List.length_set, hB]; (try dsimp only); simp; omega)) ?_
    refine WO_obI 2 rfl (congrArg (fun z => Ob.cells z 5) (splice_at rfl (by rw [List.length_set]; omega))) rfl ?_
    refine Wn ?_
    refine Ws ?_
    refine W_drawU [0, 0, 0, 0, 0, 0, 0, 0, 0, 0, 0, 0, 0, 0, 3, 0] [0, 1, 2, 3, 4, 5, 6, 7, 8, 9, 10, 11, 12, 13, 14, 15] mG rfl (by kernel_rfl) ?_
    iterate 3 refine z3 ?_
    refine Xi tG rfl rfl rfl rfl (fun _ => rfl) (by omega) (iN cStr 1 (fun _ => rfl) [] (by omega)) ?_
    iterate 4 refine z3 ?_
    refine Xi tG rfl rfl rfl rfl (fun _ => rfl) (by omega) (iN cStr 1 (fun _ => rfl) [] (by omega)) ?_
    iterate 2 refine z3 ?_
    refine Xc rfl rfl rfl rfl (fun _ => dC rfl Try.func51 rfl rfl ((ref_flags _ k) _)) ?_
    iterate 2 refine z3 ?_
    refine Xa 69 rfl ((show PV.seq 1 _ .clip = .seq (List.length [wordN k]) (List.flatMap cWord [wordN k]) .clip from rfl)) ?_
    refine WU_does3 rfl rfl rfl rfl (does_append_own (lO tG rfl) rfl (lO tG rfl) (lO tG rfl) rfl rfl rfl rfl (by simp) (by exact ⟨_, rfl⟩) (by exact ⟨rfl, rfl, flatMap_len _ 3 (fun _ => rfl) _, okC_flat _ (fun _ => rfl) _⟩) (by (rw [hL]; dsimp only; simp; omega)) (by (simp; omega))) ?_
    refine Xa 70 rfl (sq_append cWord) ?_
    refine z3 ?_
    skip
    refine WU_nil ?_
    refine Ws ?_
    refine zp2 ?_
    refine Wv tG rfl rfl rfl (by omega) (iN cStr 1 (fun _ => rfl) [] (by omega)) ?_
    refine zy2 ?_
    refine zq 75 ?_
    refine Wn ?_
    refine Wi rfl (fun hi4 => ?_) (fun hi4 => ?_)
    ·have h1 : (allN.getD k [] = [40, 104, 97, 108, 116, 41]) = True := eq_true (oT hi4)
     refine zp4 ?_
     refine Wa 79 rfl (u8_mod _) ?_
     refine z2 ?_ (q := (by omega))
     refine Wd rfl rfl (does_store (lO tG rfl) rfl rfl rfl rfl rfl rfl (by rw [Nat.ble_eq, cB_len]; simp only [List.length_set, hB]; (try dsimp only); simp; omega)) ?_
     refine WO_obI 2 rfl (congrArg (fun z => Ob.cells z 5) (splice_at rfl (by simp only [List.length_set]; omega))) rfl ?_
     refine Wn ?_
     refine W_region rfl ?_
     refine zy4 ?_
     refine Wa 84 rfl (u8_quo _ (by omega)) ?_
     refine z2 ?_ (q := (by omega))
     refine Wd rfl rfl (does_store (lO tG rfl) rfl rfl rfl rfl rfl rfl (by rw [Nat.ble_eq, cB_len]; simp only [List.length_set, hB]; (try dsimp only); simp; omega)) ?_
     refine WO_obI 2 rfl (congrArg (fun z => Ob.cells z 5) (splice_at rfl (by simp only [List.length_set]; omega))) rfl ?_
     refine Wn ?_
     refine zp2 ?_
     refine Wv tG rfl rfl rfl (by omega) (iN cStr 1 (fun _ => rfl) [] (by omega)) ?_
     refine zy2 ?_
     refine zq 90 ?_
     refine Wn ?_
     refine Wi rfl (fun hi5 => ?_) (fun hi5 => ?_)
     ·have h2 : (allN.getD k [] = [40, 99, 97, 117, 103, 104, 116, 41]) = True := eq_true (oT hi5)
      refine zp4 ?_
      refine Wa 94 rfl (u8_mod _) ?_
      refine z2 ?_ (q := (by omega))
      refine Wd rfl rfl (does_store (lO tG rfl) rfl rfl rfl rfl rfl rfl (by rw [Nat.ble_eq, cB_len]; simp only [List.length_set, hB]; (try dsimp only); simp; omega)) ?_
      refine WO_obI 2 rfl (congrArg (fun z => Ob.cells z 5) (splice_at rfl (by simp only [List.length_set]; omega))) rfl ?_
      refine Wn ?_
      refine W_region rfl ?_
      refine zy4 ?_
      refine Wa 99 rfl (u8_quo _ (by omega)) ?_
      refine z2 ?_ (q := (by omega))
      refine Wd rfl rfl (does_store (lO tG rfl) rfl rfl rfl rfl rfl rfl (by rw [Nat.ble_eq, cB_len]; simp only [List.length_set, hB]; (try dsimp only); simp; omega)) ?_
      refine WO_obI 2 rfl (congrArg (fun z => Ob.cells z 5) (splice_at rfl (by simp only [List.length_set]; omega))) rfl ?_
      refine Wn ?_
      refine W_region rfl ?_
      refine z1 ?_
      refine WO_obI 2 rfl (congrArg (fun z => Ob.cells (List.flatMap cByte z) 5) (show _ = newB M (k + 1) from (stepB_of hn h1 h2).symm)) rfl ?_
      refine zs2 ?_
      exact ⟨k + 1, [6], (by omega), (by omega), (fitT (sub := by repeat (first | exact subL_nil | refine subL_cons (by first | exact imp_of rfl | exact imp_of (newW k) | exact imp_of (congrArg i64 (by (rw [i64w]; unfold wrap64; omega)))) ?_)))⟩
     ·have h2 : (allN.getD k [] = [40, 99, 97, 117, 103, 104, 116, 41]) = False := eq_false (oF hi5)
      refine Wj ?_
      refine W_region rfl ?_
      refine z1 ?_
      refine WO_obI 2 rfl (congrArg (fun z => Ob.cells (List.flatMap cByte z) 5) (show _ = newB M (k + 1) from (stepB_of hn h1 h2).symm)) rfl ?_
      refine zs2 ?_
      exact ⟨k + 1, [6], (by omega), (by omega), (fitT (sub := by repeat (first | exact subL_nil | refine subL_cons (by first | exact imp_of rfl | exact imp_of (newW k) | exact imp_of (congrArg i64 (by (rw [i64w]; unfold wrap64; omega)))) ?_)))⟩
    ·have h1 : (allN.getD k [] = [40, 104, 97, 108, 116, 41]) = False := eq_false (oF hi4)
     refine Wj ?_
     refine zp2 ?_
     refine Wv tG rfl rfl rfl (by omega) (iN cStr 1 (fun _ => rfl) [] (by omega)) ?_
     refine zy2 ?_
     refine zq 90 ?_
     refine Wn ?_
     refine Wi rfl (fun hi5 => ?_) (fun hi5 => ?_)
     ·have h2 : (allN.getD k [] = [40, 99, 97, 117, 103, 104, 116, 41]) = True := eq_true (oT hi5)
      refine zp4 ?_
      refine Wa 94 rfl (u8_mod _) ?_
      refine z2 ?_ (q := (by omega))
      refine Wd rfl rfl (does_store (lO tG rfl) rfl rfl rfl rfl rfl rfl (by rw [Nat.ble_eq, cB_len]; simp only [List.length_set, hB]; (try dsimp only); simp; omega)) ?_
      refine WO_obI 2 rfl (congrArg (fun z => Ob.cells z 5) (splice_at rfl (by simp only [List.length_set]; omega))) rfl ?_
      refine Wn ?_
      refine W_region rfl ?_
      refine zy4 ?_
      refine Wa 99 rfl (u8_quo _ (by omega)) ?_
      refine z2 ?_ (q := (by omega))
      refine Wd rfl rfl (does_store (lO tG rfl) rfl rfl rfl rfl rfl rfl (by rw [Nat.ble_eq, cB_len]; simp only [List.length_set, hB]; (try dsimp only); simp; omega)) ?_
      refine WO_obI 2 rfl (congrArg (fun z => Ob.cells z 5) (splice_at rfl (by simp only [List.length_set]; omega))) rfl ?_
      refine Wn ?_
      refine W_region rfl ?_
      refine z1 ?_
      refine WO_obI 2 rfl (congrArg (fun z => Ob.cells (List.flatMap cByte z) 5) (show _ = newB M (k + 1) from (stepB_of hn h1 h2).symm)) rfl ?_
      refine zs2 ?_
      exact ⟨k + 1, [6], (by omega), (by omega), (fitT (sub := by repeat (first | exact subL_nil | refine subL_cons (by first | exact imp_of rfl | exact imp_of (newW k) | exact imp_of (congrArg i64 (by (rw [i64w]; unfold wrap64; omega)))) ?_)))⟩
     ·have h2 : (allN.getD k [] = [40, 99, 97, 117, 103, 104, 116, 41]) = False := eq_false (oF hi5)
      refine Wj ?_
      refine W_region rfl ?_
      refine z1 ?_
      refine WO_obI 2 rfl (congrArg (fun z => Ob.cells (List.flatMap cByte z) 5) (show _ = newB M (k + 1) from (stepB_of hn h1 h2).symm)) rfl ?_
      refine zs2 ?_
      exact ⟨k + 1, [6], (by omega), (by omega), (fitT (sub := by repeat (first | exact subL_nil | refine subL_cons (by first | exact imp_of rfl | exact imp_of (newW k) | exact imp_of (congrArg i64 (by (rw [i64w]; unfold wrap64; omega)))) ?_)))⟩
  ·have hge : k = 167 := by have := oF hi2; rw [hA] at this; omega
   have hB := newB_len M k
   have eN : tVm (newVm c, 0) = tVm (vmOf c (newB M k) (newL k), 0) := by rw [hge, newVm_of, hMt]
   generalize newB M k = b0 at hB eN ⊢
   generalize newL k = l0 at eN ⊢
   refine W_exit ?_
   refine zp2 ?_
   refine Wm 102 rfl (imp_arr_arw (Nat.le_refl _)) ?_
   refine WO_freeze 102 2 _ M rfl rfl (by rw [cB_len, hB]; exact Nat.le_refl _) ?_
   refine Wa 102 rfl (show _ = sq cByte b0 from frz_b hB) ?_
   refine zs5 ?_
   refine zR ?_
   rw [eN]; rfl
end Go.Proofs.Ytiibjcnedbncjaa
namespace Go.Proofs.Ytiibjcnedbncjaa
open Go.RowKit
set_option maxRecDepth 100000
set_option maxHeartbeats 8000000
def cF : VConf := ⟨4096, 32, 32, 250, 2000⟩
def vF : VVm := newVm cF
theorem fits_F : fitsV cF := by unfold fitsV cF; dsimp only; decide
theorem memF : ((List.range 168).all fun i => decide (memFetch vF.mem (24 + 8 * (i : Int)) = (if i = 0 then (memFetch vF.mem 24).1 else ((nval (i - 1) : Nat) : Int), 0)) && decide (memFetch vF.mem 0 = (10, 0))) = true := by kernel_rfl
theorem mem_0 : memFetch vF.mem 0 = (10, 0) := by
 have h := List.all_eq_true.1 memF 0 (List.mem_range.2 (by decide))
 rw [Bool.and_eq_true, decide_eq_true_eq, decide_eq_true_eq] at h
 exact h.2
theorem kF {i : Nat} (hi : i < 167) : vmKind vF ((32 + 8 * i : Nat) : Int) = (((nval i : Nat) : Int), 0) := by
 have h := List.all_eq_true.1 memF (i + 1) (List.mem_range.2 (by omega))
 rw [Bool.and_eq_true, decide_eq_true_eq, decide_eq_true_eq] at h
 have h1 := h.1
 rw [if_neg (by omega), Nat.add_sub_cancel, show (24 + 8 * ((i + 1 : Nat) : Int)) = ((32 + 8 * i : Nat) : Int) by omega] at h1
 unfold vmKind
 rw [h1, if_pos rfl, if_pos (by unfold kindOk nval; split <;> (dsimp only; omega))]
theorem rdF (w sp : Str) (i : Nat) (hi : i < 167) (h : findS vF.dict w = (wordN i, (i : Int), true)) (h2 : 300 ≤ nval i) (h3 : specials.getD (nval i - 300) [] = sp) (l : Int) : rdS vF w l = (0, sp, .mk 0 0 [] []) := by
 have e : (((nval i : Int) - 300).toNat) = nval i - 300 := by omega
 unfold rdS
 rw [h]
 dsimp only
 rw [if_neg (by decide), show (wordN i).xt = ((32 + 8 * i : Nat) : Int) from rfl, kF hi]
 dsimp only
 rw [if_neg (by decide), if_pos (by omega), e, h3]
theorem rdF2 (w : Str) (i : Nat) (hi : i < 167) (h : findS vF.dict w = (wordN i, (i : Int), true)) (h2 : nval i < 300) (h3 : (wordN i).flags % 2 = 0) (l : Int) : rdS vF w l = (if fitsK (nval i) l = true then 0 else -32, [], .mk 2 ((32 + 8 * i : Nat) : Int) [] []) := by
 unfold rdS
 rw [h]
 dsimp only
 rw [if_neg (by decide), show (wordN i).xt = ((32 + 8 * i : Nat) : Int) from rfl, kF hi]
 dsimp only
 rw [if_neg (by decide), if_neg (by omega)]
 simp only [h3, and_true]
theorem rdF3 (w : Str) (h : (findS vF.dict w).2.2 = false) (l : Int) : rdS vF w l = (if (parseS w 10).2 = true then 0 else -13, [], .mk 1 (parseS w 10).1 [] []) := by
 unfold rdS
 rw [if_pos h, mem_0]
theorem r_IF (l : Int) : rdS vF [73, 70] l = (0, [73, 70], .mk 0 0 [] []) := rdF _ _ 144 (by decide) (by kernel_rfl) (by decide) (by kernel_rfl) l
theorem r_ELSE (l : Int) : rdS vF [69, 76, 83, 69] l = (0, [69, 76, 83, 69], .mk 0 0 [] []) := rdF _ _ 145 (by decide) (by kernel_rfl) (by decide) (by kernel_rfl) l
theorem r_THEN (l : Int) : rdS vF [84, 72, 69, 78] l = (0, [84, 72, 69, 78], .mk 0 0 [] []) := rdF _ _ 146 (by decide) (by kernel_rfl) (by decide) (by kernel_rfl) l
theorem r_DO (l : Int) : rdS vF [68, 79] l = (0, [68, 79], .mk 0 0 [] []) := rdF _ _ 152 (by decide) (by kernel_rfl) (by decide) (by kernel_rfl) l
theorem r_LOOP (l : Int) : rdS vF [76, 79, 79, 80] l = (0, [76, 79, 79, 80], .mk 0 0 [] []) := rdF _ _ 154 (by decide) (by kernel_rfl) (by decide) (by kernel_rfl) l
theorem r_LEAVE (l : Int) : rdS vF [76, 69, 65, 86, 69] l = (0, [76, 69, 65, 86, 69], .mk 0 0 [] []) := rdF _ _ 156 (by decide) (by kernel_rfl) (by decide) (by kernel_rfl) l
theorem r_EXIT (l : Int) : rdS vF [69, 88, 73, 84] l = (0, [69, 88, 73, 84], .mk 0 0 [] []) := rdF _ _ 166 (by decide) (by kernel_rfl) (by decide) (by kernel_rfl) l
theorem r_CREATE (l : Int) : rdS vF [67, 82, 69, 65, 84, 69] l = (0, [67, 82, 69, 65, 84, 69], .mk 0 0 [] []) := rdF _ _ 132 (by decide) (by kernel_rfl) (by decide) (by kernel_rfl) l
theorem r_I (l : Int) : rdS vF [73] l = (if fitsK 15 l = true then 0 else -32, [], .mk 2 152 [] []) := rdF2 _ 15 (by decide) (by kernel_rfl) (by decide) (by kernel_rfl) l
theorem r_J (l : Int) : rdS vF [74] l = (if fitsK 16 l = true then 0 else -32, [], .mk 2 160 [] []) := rdF2 _ 16 (by decide) (by kernel_rfl) (by decide) (by kernel_rfl) l
theorem r_DUP (l : Int) : rdS vF [68, 85, 80] l = (if fitsK 23 l = true then 0 else -32, [], .mk 2 216 [] []) := rdF2 _ 23 (by decide) (by kernel_rfl) (by decide) (by kernel_rfl) l
theorem r_one (l : Int) : rdS vF [49] l = (0, [], .mk 1 1 [] []) := (rdF3 _ (by kernel_rfl) l).trans (by rw [show parseS [49] 10 = (1, true) by kernel_rfl]; rfl)
theorem r_two (l : Int) : rdS vF [50] l = (0, [], .mk 1 2 [] []) := (rdF3 _ (by kernel_rfl) l).trans (by rw [show parseS [50] 10 = (2, true) by kernel_rfl]; rfl)
theorem r_nope (l : Int) : rdS vF [110, 111, 112, 101] l = (-13, [], .mk 1 (parseS [110, 111, 112, 101] 10).1 [] []) := (rdF3 _ (by kernel_rfl) l).trans (by rw [show (parseS [110, 111, 112, 101] 10).2 = false by kernel_rfl]; rfl)
def tabF (w : Str) (l : Int) : Int × Str × VNode :=
 if w = [68, 79] then (0, [68, 79], .mk 0 0 [] []) else if w = [73, 70] then (0, [73, 70], .mk 0 0 [] []) else if w = [84, 72, 69, 78] then (0, [84, 72, 69, 78], .mk 0 0 [] []) else if w = [76, 79, 79, 80] then (0, [76, 79, 79, 80], .mk 0 0 [] []) else if w = [73] then (if fitsK 15 l = true then 0 else -32, [], .mk 2 152 [] []) else if w = [74] then (if fitsK 16 l = true then 0 else -32, [], .mk 2 160 [] []) else if w = [76, 69, 65, 86, 69] then (0, [76, 69, 65, 86, 69], .mk 0 0 [] []) else if w = [69, 88, 73, 84] then (0, [69, 88, 73, 84], .mk 0 0 [] []) else if w = [68, 85, 80] then (if fitsK 23 l = true then 0 else -32, [], .mk 2 216 [] []) else if w = [69, 76, 83, 69] then (0, [69, 76, 83, 69], .mk 0 0 [] []) else if w = [49] then (0, [], .mk 1 1 [] []) else if w = [50] then (0, [], .mk 1 2 [] []) else if w = [110, 111, 112, 101] then (-13, [], .mk 1 (parseS [110, 111, 112, 101] 10).1 [] []) else if w = [67, 82, 69, 65, 84, 69] then (0, [67, 82, 69, 65, 84, 69], .mk 0 0 [] []) else rdS vF w l
theorem tabF_eq (w : Str) (l : Int) : rdS vF w l = tabF w l := by
 unfold tabF
 by_cases h : w = [68, 79]
 ·rw [if_pos h, h]; exact r_DO l
 rw [if_neg h]; clear h
 by_cases h : w = [73, 70]
 ·rw [if_pos h, h]; exact r_IF l
 rw [if_neg h]; clear h
 by_cases h : w = [84, 72, 69, 78]
 ·rw [if_pos h, h]; exact r_THEN l
 rw [if_neg h]; clear h
 by_cases h : w = [76, 79, 79, 80]
 ·rw [if_pos h, h]; exact r_LOOP l
 rw [if_neg h]; clear h
 by_cases h : w = [73]
 ·rw [if_pos h, h]; exact r_I l
 rw [if_neg h]; clear h
 by_cases h : w = [74]
 ·rw [if_pos h, h]; exact r_J l
 rw [if_neg h]; clear h
 by_cases h : w = [76, 69, 65, 86, 69]
 ·rw [if_pos h, h]; exact r_LEAVE l
 rw [if_neg h]; clear h
 by_cases h : w = [69, 88, 73, 84]
 ·rw [if_pos h, h]; exact r_EXIT l
 rw [if_neg h]; clear h
 by_cases h : w = [68, 85, 80]
 ·rw [if_pos h, h]; exact r_DUP l
 rw [if_neg h]; clear h
 by_cases h : w = [69, 76, 83, 69]
 ·rw [if_pos h, h]; exact r_ELSE l
 rw [if_neg h]; clear h
 by_cases h : w = [49]
 ·rw [if_pos h, h]; exact r_one l
 rw [if_neg h]; clear h
 by_cases h : w = [50]
 ·rw [if_pos h, h]; exact r_two l
 rw [if_neg h]; clear h
 by_cases h : w = [110, 111, 112, 101]
 ·rw [if_pos h, h]; exact r_nope l
 rw [if_neg h]; clear h
 by_cases h : w = [67, 82, 69, 65, 84, 69]
 ·rw [if_pos h, h]; exact r_CREATE l
 rw [if_neg h]
def tabR : Rdr := ⟨tabF, (readerS vF).tk⟩
theorem tabR_eq : readerS vF = tabR := by
 show Rdr.mk (rdS vF) _ = Rdr.mk tabF _
 rw [show rdS vF = tabF from funext fun w => funext fun l => tabF_eq w l]
 rfl
theorem sh_a : parseP tabR [[68, 85, 80], [73, 70], [49], [69, 76, 83, 69], [50], [84, 72, 69, 78]] = ([.mk 2 216 [] [], .mk 3 1 [.mk 1 1 [] []] [.mk 1 2 [] []]], 0) := by kernel_rfl
theorem sh_b : parseP tabR [[73, 70]] = ([], -22) := by kernel_rfl
theorem sh_c : parseP tabR [[110, 111, 112, 101]] = ([], -13) := by kernel_rfl
theorem sh_d : parseP tabR [[67, 82, 69, 65, 84, 69]] = ([], -32) := by kernel_rfl
theorem vrd_F : VRd vF := by
 have h : ((newL 167).all fun w => decide (w.name.length ≤ 100) && (decide (0 ≤ w.flags) && (decide (w.flags ≤ 7) && decide (0 ≤ w.xt ∧ w.xt ≤ 100000)))) = true := by kernel_rfl
 have k : ∀ w ∈ newL 167, w.name.length ≤ 100 ∧ 0 ≤ w.flags ∧ w.flags ≤ 7 ∧ 0 ≤ w.xt ∧ w.xt ≤ 100000 := fun w hw => by
  have := List.all_eq_true.1 h w hw
  simpa only [Bool.and_eq_true, decide_eq_true_eq] using this
 refine ⟨⟨by show (newL 167).length ≤ _; rw [newL_len]; omega, fun w hw => ?_⟩, fun w hw => ?_, ?_⟩
 ·have := k w hw; exact ⟨by omega, this.2.1, this.2.2.1⟩
 ·have := k w hw; unfold Fit64; omega
 ·show (newB cF.mem.toNat 167).length ≤ _; rw [newB_len]; decide
end Go.Proofs.Ytiibjcnedbncjaa
namespace Go.Proofs.Ytiibjcnedbncjaa
open Go.RowKit
set_option maxRecDepth 100000
set_option maxHeartbeats 8000000
theorem ws_small {ws : List Str} (h : (decide (ws.length ≤ 1000000) && ws.all fun w => decide (w.length ≤ 1000000)) = true) : WsOk ws := by
 rw [Bool.and_eq_true, decide_eq_true_eq, List.all_eq_true] at h
 exact ⟨h.1, fun w hw => by have := oT (h.2 w hw); omega⟩
def eF15 : PV := .agg (cVm vF ++ [i64 0, .seq 0 [] .any, i64 0, i64 0, i64 0, boo false, i64 0])
theorem flat_cVmX (v : VVm) (l : List PV) (h : FlatL l) : Flat (.agg (cVm v ++ l)) := by unfold Flat; exact flatL_app (flat_cVm v) h
@[simp] theorem flat_eF15 : Flat eF15 := flat_cVmX _ _ (by simp [FlatL, Flat])
theorem ref_New15 : PureC Try.prog 17 [] eF15 := by
 refine pW tG (rs := [.cell 0 59]) Try.func17 rfl rfl rfl (by simp) (by simp) (fun B => ?_)
 refine zu1 ?_
 refine zp1 ?_
 refine zc rfl Try.func31 ((ref_New cF fits_F) _) ?_
 refine zy5 ?_
 refine zs1 ?_
 refine zu3 ?_
 refine zR ?_
 rfl
def shT : List VNode := [.mk 2 216 [] [], .mk 3 1 [.mk 1 1 [] []] [.mk 1 2 [] []]]
theorem imp_node (k n : Int) : Imp (.agg [i64 k, i64 n, .seq 0 [] .clip, .seq 0 [] .clip]) (eNode (.mk k n [] [])) :=
 imp_agg ⟨Imp.refl _, Imp.refl _, imp_seq _ _ _, imp_seq _ _ _, trivial⟩
theorem lawAst_shown : PureC Try.prog 7 [] (boo true) := by
 have p1 := ast_Parse vF [[68, 85, 80], [73, 70], [49], [69, 76, 83, 69], [50], [84, 72, 69, 78]] vrd_F (ws_small (by kernel_rfl)) (by decide)
 have p2 := ast_Parse vF [[73, 70]] vrd_F (ws_small (by kernel_rfl)) (by decide)
 have p3 := ast_Parse vF [[110, 111, 112, 101]] vrd_F (ws_small (by kernel_rfl)) (by decide)
 have p4 := ast_Parse vF [[67, 82, 69, 65, 84, 69]] vrd_F (ws_small (by kernel_rfl)) (by decide)
 rw [tabR_eq, sh_a] at p1
 rw [tabR_eq, sh_b] at p2
 rw [tabR_eq, sh_c] at p3
 rw [tabR_eq, sh_d] at p4
 refine pW tG (rs := [.tmp 0]) Try.func7 rfl rfl rfl (by simp) (by simp) (fun B => ?_)
 refine zu1 ?_
 refine z8 ?_
 refine zc rfl Try.func17 ((ref_New15) _) ?_
 refine zs3 ?_
 refine zp2 ?_
 refine Wa 14 rfl (bsL cStr [_, _, _, _, _, _] rfl rfl) ?_
 refine zc rfl Try.func11 ((p1) _) ?_
 refine zs5 ?_
 refine zp2 ?_
 refine Wa 20 rfl (bsL cStr [_] rfl rfl) ?_
 refine zc rfl Try.func11 ((p2) _) ?_
 refine zs5 ?_
 refine zp2 ?_
 refine Wa 26 rfl (bsL cStr [_] rfl rfl) ?_
 refine zc rfl Try.func11 ((p3) _) ?_
 refine zs5 ?_
 refine zp2 ?_
 refine Wa 32 rfl (bsL cStr [_] rfl rfl) ?_
 refine zc rfl Try.func11 ((p4) _) ?_
 refine zs5 ?_
 refine Ws ?_
 refine zp3 ?_
 refine WO_false 38 rfl (by rfl) ?_
 refine zs4 ?_
 refine Wf rfl (by rfl) ?_
 refine Wj ?_
 refine zp3 ?_
 refine WO_true 45 rfl (by rfl) ?_
 refine zy4 ?_
 refine WO_true 49 rfl (by rfl) ?_
 refine zy4 ?_
 refine WO_true 53 rfl (by rfl) ?_
 refine z1 ?_
 refine Wv tG rfl rfl rfl (by (simp_all; done)) (iN cNode 4 (fun _ => rfl) default (by (simp_all; done))) ?_
 refine zy5 ?_
 refine WO_true 60 rfl (by rfl) ?_
 refine z1 ?_
 refine Wv tG rfl rfl rfl (by (simp_all; done)) (iN cNode 4 (fun _ => rfl) default (by (simp_all; done))) ?_
 refine zy5 ?_
 refine WO_true 67 rfl (by rfl) ?_
 refine z1 ?_
 refine Wv tG rfl rfl rfl (by (simp_all; done)) (iN cNode 4 (fun _ => rfl) default (by (simp_all; done))) ?_
 refine zy5 ?_
 refine WO_true 74 rfl (by rfl) ?_
 refine z1 ?_
 refine Wv tG rfl rfl rfl (by (simp_all; done)) (iN cNode 4 (fun _ => rfl) default (by (simp_all; done))) ?_
 refine zy5 ?_
 refine WO_true 81 rfl (by rfl) ?_
 refine z1 ?_
 refine Wv tG rfl rfl rfl (by (simp_all; done)) (iN cNode 4 (fun _ => rfl) default (by (simp_all; done))) ?_
 refine zy5 ?_
 refine z1 ?_
 refine WO_true 89 rfl (by rfl) ?_
 refine z1 ?_
 refine Wv tG rfl rfl rfl (by (simp_all; done)) (iN cNode 4 (fun _ => rfl) default (by (simp_all; done))) ?_
 refine zy2 ?_
 refine Wa 93 rfl (sqN_eq [.mk 1 1 [] []]) ?_
 refine Wv tG rfl rfl rfl (by (simp_all; done)) (iN cNode 4 (fun _ => rfl) default (by (simp_all; done))) ?_
 refine zy5 ?_
 refine WO_true 99 rfl (by rfl) ?_
 refine z1 ?_
 refine Wv tG rfl rfl rfl (by (simp_all; done)) (iN cNode 4 (fun _ => rfl) default (by (simp_all; done))) ?_
 refine zy5 ?_
 refine z1 ?_
 refine WO_true 107 rfl (by rfl) ?_
 refine z1 ?_
 refine Wv tG rfl rfl rfl (by (simp_all; done)) (iN cNode 4 (fun _ => rfl) default (by (simp_all; done))) ?_
 refine zy2 ?_
 refine Wa 111 rfl (sqN_eq [.mk 1 2 [] []]) ?_
 refine Wv tG rfl rfl rfl (by (simp_all; done)) (iN cNode 4 (fun _ => rfl) default (by (simp_all; done))) ?_
 refine zy5 ?_
 refine WO_true 117 rfl (by rfl) ?_
 refine z1 ?_
 refine zc rfl Try.func14 ((ast_May shT (by decide)) _) ?_
 refine zy2 ?_
 refine WO_true 121 rfl (by rfl) ?_
 refine z1 ?_
 refine Wm 122 rfl (imp_node 99 0) ?_
 refine z1 ?_
 refine Wa 123 rfl ((show PV.seq 1 _ .clip = .seq (List.length [VNode.mk 99 0 [] []]) (List.flatMap cNode [VNode.mk 99 0 [] []]) .clip from rfl)) ?_
 refine zc rfl Try.func14 ((ast_May [.mk 99 0 [] []] (by decide)) _) ?_
 refine zy3 ?_
 refine WO_true 127 rfl (by rfl) ?_
 refine zy2 ?_
 refine zc rfl Try.func16 ((ast_Same shT shT (by decide) (by decide)) _) ?_
 refine zy2 ?_
 refine WO_true 132 rfl (by rfl) ?_
 refine zy2 ?_
 refine z2 ?_ (q := (by (simp_all; done)))
 refine Wa 135 rfl (sq_slice cNode 4 (fun _ => rfl) (by (simp_all; done))) ?_
 refine zc rfl Try.func16 ((ast_Same shT (shT.take 1) (by decide) (by decide)) _) ?_
 refine zs3 ?_
 refine zR ?_
 rfl
end Go.Proofs.Ytiibjcnedbncjaa
namespace Go.Proofs.Ytiibjcnedbncjaa
open Go.RowKit
open Go.WideShapes
set_option maxRecDepth 100000
set_option maxHeartbeats 8000000
def bitM (m j : Nat) : Bool := decide (m / 2 ^ j % 2 = 1)
def opT (m : Nat) : Nat → List Str
 | 0 => []
 | j + 1 => opT m j ++ (if bitM m j then [[68, 79], [73, 70]] else [[68, 79]])
def clT (m d : Nat) : Nat → List Str
 | 0 => []
 | j + 1 => clT m d j ++ (if bitM m (d - 1 - j) then [[84, 72, 69, 78], [76, 79, 79, 80]] else [[76, 79, 79, 80]])
def wdT (k : Nat) : Str := [[73], [74], [76, 69, 65, 86, 69], [69, 88, 73, 84]].getD k []
def mayT (d k : Nat) : Bool := [decide ((d : Int) ≥ 1), decide ((d : Int) ≥ 2), decide ((d : Int) ≥ 1), (d : Int) == 0].getD k false
def whyT (k : Nat) : Int := [(-32 : Int), -32, -22, -32].getD k 0
theorem opT_len (m : Nat) : ∀ j, (opT m j).length ≤ 2 * j
 | 0 => Nat.le_refl _
 | j + 1 => by have := opT_len m j; unfold opT; rw [List.length_append]; split <;> simp <;> omega
theorem clT_len (m d : Nat) : ∀ j, (clT m d j).length ≤ 2 * j
 | 0 => Nat.le_refl _
 | j + 1 => by have := clT_len m d j; unfold clT; rw [List.length_append]; split <;> simp <;> omega
theorem opT_sm (m : Nat) : ∀ j, ∀ w ∈ opT m j, w.length ≤ 10
 | 0, w, h => by cases h
 | j + 1, w, h => by
  unfold opT at h
  rcases List.mem_append.1 h with h | h
  ·exact opT_sm m j w h
  ·split at h <;> simp at h <;> (try rcases h with rfl | rfl) <;> (try subst h) <;> decide
theorem clT_sm (m d : Nat) : ∀ j, ∀ w ∈ clT m d j, w.length ≤ 10
 | 0, w, h => by cases h
 | j + 1, w, h => by
  unfold clT at h
  rcases List.mem_append.1 h with h | h
  ·exact clT_sm m d j w h
  ·split at h <;> simp at h <;> (try rcases h with rfl | rfl) <;> (try subst h) <;> decide
theorem bit_mod (m j : Nat) (h : j < 4) : bitM m j = bitM (m % 16) j := by
 unfold bitM
 congr 1
 have : j = 0 ∨ j = 1 ∨ j = 2 ∨ j = 3 := by omega
 rcases this with rfl | rfl | rfl | rfl <;> simp only [Nat.reducePow, eq_iff_iff] <;> omega
theorem opT_mod (m : Nat) : ∀ j, j ≤ 4 → opT m j = opT (m % 16) j
 | 0, _ => rfl
 | j + 1, h => by unfold opT; rw [opT_mod m j (by omega), bit_mod m j (by omega)]
theorem clT_mod (m d : Nat) (hd : d ≤ 4) : ∀ j, j ≤ d → clT m d j = clT (m % 16) d j
 | 0, _ => rfl
 | j + 1, h => by unfold clT; rw [clT_mod m d hd j (by omega), bit_mod m _ (by omega)]
theorem loops_eval : ((List.range 5).all fun d => (List.range 16).all fun m => (List.range 4).all fun k =>
  (decide ((parseP tabR (opT m d ++ [wdT k] ++ clT m d d)).2 = 0) == mayT d k) && (mayT d k || decide ((parseP tabR (opT m d ++ [wdT k] ++ clT m d d)).2 = whyT k))) = true := by kernel_rfl
theorem loops_ok (m d k : Nat) (hd : d < 5) (hk : k < 4) : ((parseP (readerS vF) (opT m d ++ [wdT k] ++ clT m d d)).2 == 0) = mayT d k ∧ (mayT d k = false → (parseP (readerS vF) (opT m d ++ [wdT k] ++ clT m d d)).2 = whyT k) := by
 have h := List.all_eq_true.1 loops_eval d (List.mem_range.2 hd)
 have h := List.all_eq_true.1 h (m % 16) (List.mem_range.2 (by omega))
 have h := List.all_eq_true.1 h k (List.mem_range.2 hk)
 rw [← opT_mod m d (by omega), ← clT_mod m d (by omega) d (Nat.le_refl _), ← tabR_eq] at h
 generalize (parseP (readerS vF) (opT m d ++ [wdT k] ++ clT m d d)).2 = E at h ⊢
 rw [Bool.and_eq_true, Bool.or_eq_true, beq_iff_eq, decide_eq_true_eq] at h
 refine ⟨h.1 ▸ rfl, fun q => ?_⟩
 rcases h.2 with h2 | h2
 ·rw [q] at h2; cases h2
 ·exact h2
theorem i64_okV {n : Int} (h : Fit64 n) : IntKind.i64.wrap n = n := by unfold Fit64 at h; exact i64_ok2 (by omega) (by omega)
theorem tmodN (n k : Nat) (h : k ≠ 0) : (n : Int).tmod (k : Int) = ((n % k : Nat) : Int) := by rw [Int.tmod_eq_emod_of_nonneg (by omega)]; rfl
theorem bit_eq (m j : Nat) (hm : m < 256) (hj : j < 5) : (((IntKind.i64.wrap (m : Int)).fdiv (2 ^ min ((j : Int)).toNat IntKind.i64.bits)).tmod 2 == 1) = bitM m j := by
 have e : (m : Int).fdiv (2 ^ j) = ((m / 2 ^ j : Nat) : Int) := by
  rw [show (2 : Int) ^ j = ((2 ^ j : Nat) : Int) by simp, Int.fdiv_eq_ediv_of_nonneg _ (Int.natCast_nonneg _)]
  rfl
 rw [i64_okV (by unfold Fit64; omega), Int.toNat_natCast, show IntKind.i64.bits = 64 from rfl, Nat.min_eq_left (by omega), e, show ((m / 2 ^ j : Nat) : Int).tmod 2 = ((m / 2 ^ j % 2 : Nat) : Int) from tmodN _ 2 (by decide)]
 unfold bitM
 rw [Bool.eq_iff_iff, beq_iff_eq, decide_eq_true_eq]
 omega
theorem wdT_sm : ∀ k < 4, (wdT k).length ≤ 10 := by decide
theorem wordsT_ok (m d k : Nat) (hd : d < 5) (hk : k < 4) : WsOk (opT m d ++ [wdT k] ++ clT m d d) ∧ (opT m d ++ [wdT k] ++ clT m d d).length ≤ 100000 := by
 have h : (opT m d ++ [wdT k] ++ clT m d d).length ≤ 100 := by
  rw [List.length_append, List.length_append]
  have := opT_len m d
  have := clT_len m d d
  simp only [List.length_cons, List.length_nil]
  omega
 refine ⟨⟨by omega, fun w hw => ?_⟩, by omega⟩
 have : w.length ≤ 10 := by
  rcases List.mem_append.1 hw with hw | hw
  ·rcases List.mem_append.1 hw with hw | hw
   ·exact opT_sm m d w hw
   ·rw [List.mem_singleton.1 hw]; exact wdT_sm k hk
  ·exact clT_sm m d d w hw
 omega
theorem law_AstLoops (n m q : Nat) (hn : n < 256) (hm : m < 256) (hq : q < 256) : PureC Try.prog 6 [.val (.int .u8 (n : Int)), .val (.int .u8 (m : Int)), .val (.int .u8 (q : Int))] (boo true) := by
 obtain ⟨d, hd⟩ : ∃ d : Nat, n % 5 = d := ⟨_, rfl⟩
 obtain ⟨k, hk⟩ : ∃ k : Nat, q % 4 = k := ⟨_, rfl⟩
 have hd5 : d < 5 := by omega
 have hk4 : k < 4 := by omega
 have w1 : (IntKind.i64.wrap (n : Int)).tmod 5 = (d : Int) := by
  rw [i64_okV (n := (n : Int)) (by unfold Fit64; omega), show (n : Int).tmod 5 = ((n % 5 : Nat) : Int) from tmodN n 5 (by decide), hd]
 have w2 : (q : Int).tmod 4 = (k : Int) := by rw [show (q : Int).tmod 4 = ((q % 4 : Nat) : Int) from tmodN q 4 (by decide), hk]
 have hok := loops_ok m d k hd5 hk4
 have p2 := ast_Parse vF (opT m d ++ [wdT k] ++ clT m d d) vrd_F
 refine pW tG (rs := [.tmp 6]) Try.func6 rfl rfl rfl (by simp) (by simp) (fun B => ?_)
 refine zu1 ?_
 refine z8 ?_
 refine zc rfl Try.func7 ((lawAst_shown) _) ?_
 refine zs1 ?_
 refine z8 ?_
 refine zc rfl Try.func17 ((ref_New15) _) ?_
 refine zs3 ?_
 refine zp3 ?_
 refine Wa 23 rfl (congrArg (fun z => PV.val (Value.int .i64 z)) w1) ?_
 refine zs1 ?_
 refine zp1 ?_
 refine Wa 24 rfl ((show PV.seq 4 _ .clip = .seq (List.length [[73], [74], [76, 69, 65, 86, 69], [69, 88, 73, 84]]) (List.flatMap cStr [[73], [74], [76, 69, 65, 86, 69], [69, 88, 73, 84]]) .clip from rfl)) ?_
 refine zy2 ?_
 refine Wa 26 rfl (congrArg (fun z => PV.val (Value.int .u8 z)) w2) ?_
 refine Wv tG rfl rfl rfl (by (simp_all; omega)) (iN cStr 1 (fun _ => rfl) [] (by omega)) ?_
 refine zs2 ?_
 refine zp1 ?_
 (refine WO_own 11 0 1 rfl rfl ?_)
 refine Wn ?_
 refine Ws ?_
 refine zu1 ?_
 refine Wl ?_
 show W _ _ _ _ _ _ _
 refine W_loopS (fun (x : (Nat × List Str)) => [(1, .val (.int .u8 (m : Int))), (2, .val (.int .u8 (q : Int))), (7, boo true), (8, .ptr 0 0), (9, i64 d), (10, str (wdT k)), (11, .seq x.2.length (x.2.flatMap cStr) (.own 2 1)), (12, i64 x.1)]) (fun (x : (Nat × List Str)) => [.cells (cVm vF) 36, .dead]) (fun (x : (Nat × List Str)) => [.free (x.2.length * 1)]) (fun (x : (Nat × List Str)) => x.1 ≤ d ∧ x.2 = opT m x.1) (fun (x : (Nat × List Str)) => d - x.1) ((0, [])) (by exact ⟨Nat.zero_le _, rfl⟩) [1] ?_ ?_
 ·exact fitT
 ·intro x hx
  refine Ws ?_
  refine zu3 ?_
  refine Wi rfl (fun hi1 => ?_) (fun hi1 => ?_)
  ·have hlt : x.1 < d := by have := oT hi1; omega
   have hl2 := opT_len m x.1
   rw [← hx.2] at hl2
   refine Wj ?_
   refine Ws ?_
   refine Wl ?_
   refine zp2 ?_
   refine Wa 35 rfl (bsL cStr [_] rfl rfl) ?_
   refine Wd rfl rfl (does_append_own (lO tG rfl) rfl (lO tG rfl) (lO tG rfl) rfl rfl rfl rfl (by simp) (by exact ⟨_, rfl⟩) (by exact ⟨rfl, rfl, flatMap_len _ 1 (fun _ => rfl) _, okC_flat _ (fun _ => rfl) _⟩) (by (simp; omega)) (by (simp; omega))) ?_
   refine Wa 36 rfl (sq_append cStr) ?_
   refine z1 ?_
   skip
   refine Wn ?_
   refine zp5 ?_
   refine zs1 ?_
   refine Wi rfl (fun hi2 => ?_) (fun hi2 => ?_)
   ·have hb : bitM m x.1 = true := (bit_eq m x.1 hm (by omega)).symm.trans hi2
    refine W_region rfl ?_
    refine zy2 ?_
    refine Wa 44 rfl (bsL cStr [_] rfl rfl) ?_
    refine Wd rfl rfl (does_append_own (lO tG rfl) rfl (lO tG rfl) (lO tG rfl) rfl rfl rfl rfl (by simp) (by exact ⟨_, rfl⟩) (by exact ⟨rfl, rfl, flatMap_len _ 1 (fun _ => rfl) _, okC_flat _ (fun _ => rfl) _⟩) (by (rw [List.length_append]; dsimp only [List.length_cons, List.length_nil]; omega)) (by (rw [List.length_append]; dsimp only [List.length_cons, List.length_nil]; omega))) ?_
    refine Wa 45 rfl (sq_append cStr) ?_
    refine z1 ?_
    skip
    refine Wn ?_
    refine W_region rfl ?_
    refine zs3 ?_
    exact ⟨(x.1 + 1, x.2 ++ [[68, 79]] ++ [[73, 70]]), [4], (by exact ⟨by omega, by show _ = opT m x.1 ++ _; rw [hb, hx.2]; exact List.append_assoc _ _ _⟩), (by omega), fitT⟩
   ·have hb : bitM m x.1 = false := (bit_eq m x.1 hm (by omega)).symm.trans hi2
    refine Wj ?_
    refine W_region rfl ?_
    refine zs3 ?_
    exact ⟨(x.1 + 1, x.2 ++ [[68, 79]]), [3], (by exact ⟨by omega, by show _ = opT m x.1 ++ _; rw [hb, hx.2]; rfl⟩), (by omega), fitT⟩
  ·have hxd : x.1 = d := by have := oF hi1; omega
   have hx2 : x.2 = opT m d := by rw [hx.2, hxd]
   have hl3 := opT_len m d
   rw [← hx2] at hl3
   have e51 : IntKind.i64.wrap ((d : Int) - 1) = (d : Int) - 1 - ((0 : Nat) : Int) := by rw [i64_okV (by unfold Fit64; omega)]; omega
   refine W_exit ?_
   refine zp3 ?_
   refine Wa 48 rfl (bsL cStr [_] rfl rfl) ?_
   refine Wd rfl rfl (does_append_own (lO tG rfl) rfl (lO tG rfl) (lO tG rfl) rfl rfl rfl rfl (by simp) (by exact ⟨_, rfl⟩) (by exact ⟨rfl, rfl, flatMap_len _ 1 (fun _ => rfl) _, okC_flat _ (fun _ => rfl) _⟩) (by (simp; omega)) (by (simp; omega))) ?_
   refine Wa 49 rfl (sq_append cStr) ?_
   refine z1 ?_
   skip
   refine Wn ?_
   refine Ws ?_
   refine zp2 ?_
   refine Wa 51 rfl (congrArg (fun z => PV.val (Value.int .i64 z)) e51) ?_
   refine zs1 ?_
   refine Wl ?_
   show W _ _ _ _ _ _ _
   refine W_loopS (fun (y : (Nat × List Str)) => [(1, .val (.int .u8 (m : Int))), (2, .val (.int .u8 (q : Int))), (7, boo true), (8, .ptr 0 0), (9, i64 d), (11, .seq y.2.length (y.2.flatMap cStr) (.own 4 1)), (13, i64 ((d : Int) - 1 - y.1))]) (fun (y : (Nat × List Str)) => [.cells (cVm vF) 36, .dead, .dead, .dead]) (fun (y : (Nat × List Str)) => [.free (y.2.length * 1)]) (fun (y : (Nat × List Str)) => y.1 ≤ d ∧ y.2 = opT m d ++ [wdT k] ++ clT m d y.1) (fun (y : (Nat × List Str)) => d - y.1) ((0, x.2 ++ [wdT k])) (by exact ⟨Nat.zero_le _, by show x.2 ++ [wdT k] = _ ++ []; rw [hx2, List.append_nil]⟩) [3] ?_ ?_
   ·exact fitT
   ·intro y hy
    refine Ws ?_
    refine zu2 ?_
    refine Wi rfl (fun hi3 => ?_) (fun hi3 => ?_)
    ·have hlt2 : y.1 < d := by have := oT hi3; omega
     have e58 : (d : Int) - 1 - (y.1 : Int) = ((d - 1 - y.1 : Nat) : Int) := by omega
     have hl4 : y.2.length ≤ 2 * d + 1 + 2 * y.1 := by rw [hy.2, List.length_append, List.length_append]; have := opT_len m d; have := clT_len m d y.1; simp; omega
     refine Wj ?_
     refine Ws ?_
     refine Wl ?_
     refine Ws ?_
     refine zp3 ?_
     refine Wa 58 rfl (congrArg (fun z => PV.val (Value.int .i64 z)) e58) ?_
     refine zs3 ?_
     refine Wi rfl (fun hi4 => ?_) (fun hi4 => ?_)
     ·have hb : bitM m (d - 1 - y.1) = true := (bit_eq m (d - 1 - y.1) hm (by omega)).symm.trans hi4
      refine W_region rfl ?_
      refine zy2 ?_
      refine Wa 63 rfl (bsL cStr [_] rfl rfl) ?_
      refine Wd rfl rfl (does_append_own (lO tG rfl) rfl (lO tG rfl) (lO tG rfl) rfl rfl rfl rfl (by simp) (by exact ⟨_, rfl⟩) (by exact ⟨rfl, rfl, flatMap_len _ 1 (fun _ => rfl) _, okC_flat _ (fun _ => rfl) _⟩) (by (simp; omega)) (by (simp; omega))) ?_
      refine Wa 64 rfl (sq_append cStr) ?_
      refine z1 ?_
      skip
      refine Wn ?_
      refine W_region rfl ?_
      refine zy2 ?_
      refine Wa 66 rfl (bsL cStr [_] rfl rfl) ?_
      refine Wd rfl rfl (does_append_own (lO tG rfl) rfl (lO tG rfl) (lO tG rfl) rfl rfl rfl rfl (by simp) (by exact ⟨_, rfl⟩) (by exact ⟨rfl, rfl, flatMap_len _ 1 (fun _ => rfl) _, okC_flat _ (fun _ => rfl) _⟩) (by (rw [List.length_append]; dsimp only [List.length_cons, List.length_nil]; omega)) (by (rw [List.length_append]; dsimp only [List.length_cons, List.length_nil]; omega))) ?_
      refine Wa 67 rfl (sq_append cStr) ?_
      refine z1 ?_
      skip
      refine Wn ?_
      refine W_region rfl ?_
      refine zs3 ?_
      exact ⟨(y.1 + 1, y.2 ++ [[84, 72, 69, 78]] ++ [[76, 79, 79, 80]]), [6], (by exact ⟨by omega, by show _ = opT m d ++ [wdT k] ++ (clT m d y.1 ++ _); rw [hb, hy.2]; simp⟩), (by omega), fitT⟩
     ·have hb : bitM m (d - 1 - y.1) = false := (bit_eq m (d - 1 - y.1) hm (by omega)).symm.trans hi4
      refine Wj ?_
      refine W_region rfl ?_
      refine zy2 ?_
      refine Wa 66 rfl (bsL cStr [_] rfl rfl) ?_
      refine Wd rfl rfl (does_append_own (lO tG rfl) rfl (lO tG rfl) (lO tG rfl) rfl rfl rfl rfl (by simp) (by exact ⟨_, rfl⟩) (by exact ⟨rfl, rfl, flatMap_len _ 1 (fun _ => rfl) _, okC_flat _ (fun _ => rfl) _⟩) (by (simp; omega)) (by (simp; omega))) ?_
      refine Wa 67 rfl (sq_append cStr) ?_
      refine z1 ?_
      skip
      refine Wn ?_
      refine W_region rfl ?_
      refine zs3 ?_
      exact ⟨(y.1 + 1, y.2 ++ [[76, 79, 79, 80]]), [5], (by exact ⟨by omega, by show _ = opT m d ++ [wdT k] ++ (clT m d y.1 ++ _); rw [hb, hy.2]; simp⟩), (by omega), fitT⟩
    ·have hyd : y.1 = d := by have := oF hi3; omega
     have hy2 : y.2 = opT m d ++ [wdT k] ++ clT m d d := by rw [hy.2, hyd]
     have p3 := p2 (wordsT_ok m d k hd5 hk4).1 (wordsT_ok m d k hd5 hk4).2
     rw [← hy2] at p3 hok
     refine W_exit ?_
     refine zp2 ?_
     refine zc rfl Try.func11 ((p3) _) ?_
     refine zs5 ?_
     refine zp5 ?_
     refine zy4 ?_
     refine Wa 82 rfl (bsL cBool [_, _, _, _] rfl rfl) ?_
     refine zy2 ?_
     refine Wa 84 rfl (congrArg (fun z => PV.val (Value.int .u8 z)) w2) ?_
     refine Wv tG rfl rfl rfl (by (simp_all; omega)) (iN cBool 1 (fun _ => rfl) false (by omega)) ?_
     refine zs2 ?_
     refine zp1 ?_
     refine Wa 87 rfl ((show PV.seq 4 _ .clip = .seq (List.length [(-32 : Int), -32, -22, -32]) (List.flatMap cInt [(-32 : Int), -32, -22, -32]) .clip from rfl)) ?_
     refine zy2 ?_
     refine Wa 89 rfl (congrArg (fun z => PV.val (Value.int .u8 z)) w2) ?_
     refine z2 ?_ (q := (by (simp_all; omega)))
     refine Wm 90 rfl (iN cInt 1 (fun _ => rfl) 0 (show k < List.length [(-32 : Int), -32, -22, -32] from hk4)) ?_
     refine zs2 ?_
     refine zp2 ?_
     refine WO_true 93 rfl (by rfl) ?_
     refine zy5 ?_
     refine z1 ?_
     refine WO_true 99 rfl (by exact (congrArg (fun z => z == mayT d k) hok.1).trans (beq_self_eq_true _)) ?_
     refine zy2 ?_
     refine Wb 101 rfl (fun hg3 => ?_) (fun hg3 => ?_)
     ·refine z6 ?_
      iterate 2 refine z6 ?_
      refine zs3 ?_
      refine zR ?_
      rfl
     ·refine zy5 ?_
      refine zs1 ?_
      refine zR ?_
      exact congrArg boo (beq_iff_eq.2 (hok.2 hg3))
theorem reads_u8 {w : World} {v : Value} (h : Reads w 5 v) : ∃ k : Nat, k < 256 ∧ Rep (c0 w) (.val (.int .u8 (k : Int))) v := by
 obtain ⟨n, rfl, h2⟩ := reads_int Try.underlying5 h
 have h3 : 0 ≤ n ∧ n ≤ 255 := by simp [Lit.wf, IntKind.min, IntKind.max, IntKind.bits, IntKind.signed] at h2; omega
 obtain ⟨k, rfl⟩ : ∃ k : Nat, n = (k : Int) := ⟨n.toNat, by omega⟩
 exact ⟨k, by omega, rep_val _ _⟩
theorem walk_AstLoops (v0 v1 v2 : Value) (w : World) (r0 : Reads w 5 v0) (r1 : Reads w 5 v1) (r2 : Reads w 5 v2) :
  Calls Try.prog 6 #[v0, v1, v2] w fun e w' => e = .returned (.bool true) ∧ Below w.heap.size w w' := by
 obtain ⟨n, hn, p0⟩ := reads_u8 r0
 obtain ⟨m, hm, p1⟩ := reads_u8 r1
 obtain ⟨q, hq, p2⟩ := reads_u8 r2
 exact law_calls (law_AstLoops n m q hn hm hq) (repL_cons.2 ⟨p0, repL_cons.2 ⟨p1, repL_cons.2 ⟨p2, repL_nil.2 rfl⟩⟩⟩)
end Go.Proofs.Ytiibjcnedbncjaa
