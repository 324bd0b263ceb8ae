import Derived.Test.YtphgdofmjpdhaaaGreatPk4
set_option linter.unusedVariables false
set_option linter.unusedSimpArgs false
namespace Go.Proofs.YtphgdofmjpdhaaaGreat
open Go.RowKit
namespace V
section
variable {P : Program} {B : Nat → Nat → Prop} {n : Nat} {md : Region.Mode} {ops : Array Oper} {cl : Nat → Nat}
def YU (P : Program) (B : Nat → Nat → Prop) (ops : Array Oper) (o : Oper) (T : Nat → PV) (H : List Ob) (x : PV) (H' : List Ob) : Prop :=
 (wantedA ops T o = some true ∧ (Does P B o T H x H' ∨ DoesC P B o T H x H')) ∨ (wantedA ops T o = some false ∧ x = .val undef ∧ H' = H)
def FU (P : Program) (B : Nat → Nat → Prop) (ops : Array Oper) (c : Nat) (o : Oper) (T : Nat → PV) (H : List Ob) (x : PV) (H' : List Ob) : Prop :=
 match c with
 | 0 => H' = H ∧ ∀ H2, YU P B ops o T H2 x H2
 | 1 => H' = H ∧ ∀ E, YU P B ops o T (H ++ E) x (H ++ E)
 | 2 => ∃ E, H' = H ++ E
 | 3 => True
 | c + 4 => match Nat.beq (c % 2) 0 with
  | true => H' = H ∧ c / 2 < H.length ∧ ∀ H2 : List Ob, H2[c / 2]? = H[c / 2]? → YU P B ops o T H2 x H2
  | false => ∃ ob, H' = H.set (c / 2) ob
def rdB (c : Nat) : Bool := Nat.ble 4 c && Nat.beq (c % 2) 0
def wrB (c : Nat) : Bool := Nat.ble 4 c && Nat.beq (c % 2) 1
def blk (c : Nat) : Nat := (c - 4) / 2
def compatU (a b : Nat) : Bool := Nat.beq a 0 || Nat.beq b 0 || (Nat.beq a 1 && Nat.ble b 2) || (rdB a && (Nat.ble b 2 || rdB b || (wrB b && !Nat.beq (blk a) (blk b)))) || (wrB a && rdB b && !Nat.beq (blk a) (blk b))
theorem YU.congr {o : Oper} {T T' : Nat → PV} {H H' : List Ob} {x : PV} (h : ∀ t ∈ o.looksAt ops, T' t = T t) (y : YU P B ops o T H x H') : YU P B ops o T' H x H' := by
 have hw : wantedA ops T' o = wantedA ops T o := by
  unfold wantedA
  cases hg : o.guard with
  | none => rfl
  | some q =>
   obtain ⟨g, b⟩ := q
   simp only
   cases hd : (ops[g]?).bind (·.dst) with
   | none => rfl
   | some d => simp only; rw [h d (looks_guard hg hd)]
 have ho : ∀ z ∈ o.op.operands.toList, opv T' z = opv T z := fun z hz => opv_congr fun t ht => h t (looks_op (by rw [← ht]; exact hz))
 rcases y with ⟨h1, h2 | h2⟩ | ⟨h1, h2⟩
 ·exact .inl ⟨by rw [hw]; exact h1, .inl fun σ w a s k => h2 σ w a s (fun z hz => by rw [← ho z hz]; exact k z hz)⟩
 ·exact .inl ⟨by rw [hw]; exact h1, .inr fun σ w a s k => h2 σ w a s (fun z hz => by rw [← ho z hz]; exact k z hz)⟩
 ·exact .inr ⟨by rw [hw]; exact h1, h2⟩
theorem FU.congr {c : Nat} {o : Oper} {T T' : Nat → PV} {H H' : List Ob} {x : PV} (h : ∀ t ∈ o.looksAt ops, T' t = T t) (y : FU P B ops c o T H x H') : FU P B ops c o T' H x H' := by
 match c, y with
 | 0, y => exact ⟨y.1, fun H2 => (y.2 H2).congr h⟩
 | 1, y => exact ⟨y.1, fun E => (y.2 E).congr h⟩
 | 2, y => exact y
 | 3, _ => trivial
 | c + 4, y =>
  simp only [FU] at y ⊢
  split at y
  ·exact ⟨y.1, y.2.1, fun H2 h2 => (y.2.2 H2 h2).congr h⟩
  ·exact y
theorem FU.rd {c : Nat} {o : Oper} {T : Nat → PV} {H H' : List Ob} {x : PV} (hc : rdB c = true) (f : FU P B ops c o T H x H') : H' = H ∧ blk c < H.length ∧ ∀ H2 : List Ob, H2[blk c]? = H[blk c]? → YU P B ops o T H2 x H2 := by
 simp only [rdB, Bool.and_eq_true, Nat.ble_eq, Nat.beq_eq] at hc
 obtain ⟨d, rfl⟩ : ∃ d, c = d + 4 := ⟨c - 4, by omega⟩
 have hd : Nat.beq (d % 2) 0 = true := by rw [Nat.beq_eq]; omega
 simp only [FU, hd] at f
 exact f
theorem FU.of_rd {c : Nat} {o : Oper} {T : Nat → PV} {H H' : List Ob} {x : PV} (hc : rdB c = true) (f : H' = H ∧ blk c < H.length ∧ ∀ H2 : List Ob, H2[blk c]? = H[blk c]? → YU P B ops o T H2 x H2) : FU P B ops c o T H x H' := by
 simp only [rdB, Bool.and_eq_true, Nat.ble_eq, Nat.beq_eq] at hc
 obtain ⟨d, rfl⟩ : ∃ d, c = d + 4 := ⟨c - 4, by omega⟩
 have hd : Nat.beq (d % 2) 0 = true := by rw [Nat.beq_eq]; omega
 simp only [FU, hd]
 exact f
theorem FU.wr {c : Nat} {o : Oper} {T : Nat → PV} {H H' : List Ob} {x : PV} (hc : wrB c = true) (f : FU P B ops c o T H x H') : ∃ ob, H' = H.set (blk c) ob := by
 simp only [wrB, Bool.and_eq_true, Nat.ble_eq, Nat.beq_eq] at hc
 obtain ⟨d, rfl⟩ : ∃ d, c = d + 4 := ⟨c - 4, by omega⟩
 have hd : Nat.beq (d % 2) 0 = false := by rw [← Bool.not_eq_true, Nat.beq_eq]; omega
 simp only [FU, hd] at f
 exact f
theorem FU.of_wr {c : Nat} {o : Oper} {T : Nat → PV} {H H' : List Ob} {x : PV} (hc : wrB c = true) (f : ∃ ob, H' = H.set (blk c) ob) : FU P B ops c o T H x H' := by
 simp only [wrB, Bool.and_eq_true, Nat.ble_eq, Nat.beq_eq] at hc
 obtain ⟨d, rfl⟩ : ∃ d, c = d + 4 := ⟨c - 4, by omega⟩
 have hd : Nat.beq (d % 2) 0 = false := by rw [← Bool.not_eq_true, Nat.beq_eq]; omega
 simp only [FU, hd]
 exact f
def qU (P : Program) (B : Nat → Nat → Prop) (ops : Array Oper) (cl : Nat → Nat) (i : Nat) (K : (Nat → PV) → List Ob → Prop) (T : Nat → PV) (H : List Ob) : Prop :=
 match ops[i]? with
 | none => K T H
 | some o => ∃ x H', YU P B ops o T H x H' ∧ FU P B ops (cl i) o T H x H' ∧ K (updD o.dst x T) H'
def anyU (P : Program) (B : Nat → Nat → Prop) (md : Region.Mode) (ops : Array Oper) (cl : Nat → Nat) (Q : (Nat → PV) → List Ob → Prop) : Nat → Array Bool → (Nat → PV) → List Ob → Prop
 | 0, listed, T, H => Region.ready md ops listed = [] ∧ Q T H
 | fuel + 1, listed, T, H => (Region.ready md ops listed = [] → Q T H) ∧ ∀ i ∈ Region.ready md ops listed, qU P B ops cl i (anyU P B md ops cl Q fuel (listed.setIfInBounds i true)) T H
theorem anyU_sound (hall : dstsOk n ops = true) {Q' : Exit → Act → World → Prop} {Q : (Nat → PV) → List Ob → Prop} {H0 : List Ob} {σ0 : Nat → Option Nat} {w0 : World} (hQ : ∀ T H σ w a, Good B n T H σ w a → Step B H0 σ0 w0 H σ w → Q T H → Q' .normal a w) :
  ∀ (fuel : Nat) (listed : Array Bool) (T : Nat → PV) (H : List Ob) (σ : Nat → Option Nat) (w : World) (a : Act), Good B n T H σ w a → Step B H0 σ0 w0 H σ w → anyU P B md ops cl Q fuel listed T H → wpAny P md ops Q' fuel listed a w
 | 0, _, _, _, _, _, _, g, st, h => ⟨h.1, hQ _ _ _ _ _ g st h.2⟩
 | fuel + 1, listed, T, H, σ, w, a, g, st, h => by
  refine ⟨fun h0 => hQ _ _ _ _ _ g st (h.1 h0), fun i hi => ?_⟩
  have h1 := h.2 i hi
  unfold qU at h1
  unfold wpOp
  cases ho : ops[i]? with
  | none => simp only [ho] at h1 ⊢; exact anyU_sound hall hQ fuel _ T H σ w a g st h1
  | some o =>
   simp only [ho] at h1 ⊢
   obtain ⟨x, H', hy, _, hk⟩ := h1
   have hd : ∀ j, o.dst = some j → Nat.blt j n = true := fun j hj => dstsOk_spec hall i j (by rw [ho]; exact hj)
   have hgd : ∀ q, wantedA ops T o = some q → Region.wanted o (yielded ops a.tmps) = q := fun q hq => guard_ok (dstsOk_spec hall) g hq
   rcases hy with ⟨hw, hdo | hdo⟩ | ⟨hw, rfl, rfl⟩
   ·rw [if_pos (hgd true hw)]
    refine .inl ?_
    obtain ⟨v, w', σ', h2, h3, h4, h5⟩ := hdo σ w a g.sim (fun y _ => rep_opv g.rep y)
    have k := anyU_sound hall hQ fuel _ _ _ σ' w' _ (good_put hd g h3 h4 h5) (st.trans h5) hk
    unfold Oper.wp
    rcases h2 with h2 | ⟨h2, rfl⟩
    ·rw [h2]; exact k
    ·rw [h2]; exact k
   ·rw [if_pos (hgd true hw)]
    refine .inl ?_
    obtain ⟨f, args, h2, hc⟩ := hdo σ w a g.sim (fun y _ => rep_opv g.rep y)
    unfold Oper.wp
    rw [h2]
    refine Calls.mono hc ?_
    rintro e w' ⟨v, σ', rfl, h3, h4, h5⟩
    exact anyU_sound hall hQ fuel _ _ _ σ' w' _ (good_put hd g h3 h4 h5) (st.trans h5) hk
   ·rw [if_neg (by rw [hgd false hw]; simp)]
    exact anyU_sound hall hQ fuel _ _ _ σ w _ (good_put hd g (rep_val _ _) g.sim (Step.refl _ _ _ _)) st hk
theorem swapU {ci cj : Nat} {oi oj : Oper} {T : Nat → PV} {H Hi Hj : List Ob} {x y : PV} (hc : compatU ci cj = true) (h1 : ∀ t ∈ oj.looksAt ops, updD oi.dst x T t = T t) (h2 : ∀ t ∈ oi.looksAt ops, updD oj.dst y T t = T t)
  (yi : YU P B ops oi T H x Hi) (fi : FU P B ops ci oi T H x Hi) (yj : YU P B ops oj (updD oi.dst x T) Hi y Hj) (fj : FU P B ops cj oj (updD oi.dst x T) Hi y Hj) :
  ∃ H', YU P B ops oj T H y H' ∧ FU P B ops cj oj T H y H' ∧ YU P B ops oi (updD oj.dst y T) H' x Hj ∧ FU P B ops ci oi (updD oj.dst y T) H' x Hj := by
 have b1 : ∀ t ∈ oj.looksAt ops, T t = updD oi.dst x T t := fun t ht => (h1 t ht).symm
 have yj' := yj.congr b1
 have fj' := fj.congr b1
 simp only [compatU, Bool.or_eq_true, Bool.and_eq_true, Nat.beq_eq, Nat.ble_eq] at hc
 rcases hc with (((rfl | rfl) | ⟨rfl, hj⟩) | ⟨hr, hj⟩) | ⟨⟨hw, hr⟩, hne⟩
 ·obtain ⟨rfl, hl⟩ := fi
  exact ⟨Hj, yj', fj', (hl Hj).congr h2, rfl, fun H2 => (hl H2).congr h2⟩
 ·obtain ⟨rfl, hl⟩ := fj'
  exact ⟨H, hl H, ⟨rfl, hl⟩, yi.congr h2, fi.congr h2⟩
 ·obtain ⟨rfl, hl⟩ := fi
  have : ∃ E, Hj = Hi ++ E := by
   match cj, hj, fj' with
   | 0, _, fj' => exact ⟨[], by rw [fj'.1]; simp⟩
   | 1, _, fj' => exact ⟨[], by rw [fj'.1]; simp⟩
   | 2, _, fj' => exact fj'
   | c + 3, hj, _ => omega
  obtain ⟨E, rfl⟩ := this
  exact ⟨Hi ++ E, yj', fj', (hl E).congr h2, rfl, fun E2 => by rw [List.append_assoc]; exact (hl (E ++ E2)).congr h2⟩
 ·obtain ⟨rfl, hlt, hl⟩ := fi.rd hr
  have key : Hj[blk ci]? = Hi[blk ci]? ∧ blk ci < Hj.length := by
   rcases hj with (hj | hj) | ⟨hj, hne⟩
   ·have : ∃ E, Hj = Hi ++ E := by
     match cj, hj, fj' with
     | 0, _, fj' => exact ⟨[], by rw [fj'.1]; simp⟩
     | 1, _, fj' => exact ⟨[], by rw [fj'.1]; simp⟩
     | 2, _, fj' => exact fj'
     | c + 3, hj, _ => omega
    obtain ⟨E, rfl⟩ := this
    exact ⟨List.getElem?_append_left hlt, by simp; omega⟩
   ·obtain ⟨rfl, _⟩ := fj'.rd hj
    exact ⟨rfl, hlt⟩
   ·obtain ⟨ob, rfl⟩ := fj'.wr hj
    refine ⟨List.getElem?_set_ne ?_, by simpa using hlt⟩
    intro h; rw [h] at hne; simp at hne
  exact ⟨Hj, yj', fj', (hl Hj key.1).congr h2, FU.of_rd hr ⟨rfl, key.2, fun H2 h3 => (hl H2 (h3.trans key.1)).congr h2⟩⟩
 ·obtain ⟨ob, rfl⟩ := fi.wr hw
  obtain ⟨rfl, hlt, hl⟩ := fj'.rd hr
  have hk : H[blk cj]? = (H.set (blk ci) ob)[blk cj]? := by
   rw [List.getElem?_set_ne]
   intro h; rw [h] at hne; simp at hne
  exact ⟨H, hl H hk, FU.of_rd hr ⟨rfl, by simpa using hlt, fun H2 h3 => hl H2 (h3.trans hk)⟩, yi.congr h2, fi.congr h2⟩
theorem anyU_first {Q : (Nat → PV) → List Ob → Prop} {i : Nat} {oi : Oper} {x : PV} (hi : ops[i]? = some oi) : ∀ (fuel : Nat) (listed : Array Bool) (T : Nat → PV) (H Hi : List Ob),
  (∀ j oj, ops[j]? = some oj → j ≠ i → listed.getD j true = false → (∀ e ∈ oj.after, Region.binds md e = true → e.on ≠ i) → oi.apart ops oj = true ∧ compatU (cl i) (cl j) = true) →
  i ∈ Region.ready md ops listed → YU P B ops oi T H x Hi → FU P B ops (cl i) oi T H x Hi → anyU P B md ops cl Q fuel (listed.setIfInBounds i true) (updD oi.dst x T) Hi → anyU P B md ops cl Q (fuel + 1) listed T H := by
 intro fuel
 have self : ∀ (fuel : Nat) (listed : Array Bool) (T : Nat → PV) (H Hi : List Ob), YU P B ops oi T H x Hi → FU P B ops (cl i) oi T H x Hi → anyU P B md ops cl Q fuel (listed.setIfInBounds i true) (updD oi.dst x T) Hi → qU P B ops cl i (anyU P B md ops cl Q fuel (listed.setIfInBounds i true)) T H := by
  intro fuel listed T H Hi hy hf h
  unfold qU
  simp only [hi]
  exact ⟨x, Hi, hy, hf, h⟩
 induction fuel with
 | zero =>
  intro listed T H Hi _ hr hy hf h
  refine ⟨fun h0 => (by rw [h0] at hr; cases hr), fun j hj => ?_⟩
  by_cases hji : j = i
  ·subst hji; exact self 0 listed T H Hi hy hf h
  ·have := ready_mono hj hji
   rw [h.1] at this
   cases this
 | succ fuel ih =>
  intro listed T H Hi hfree hr hy hf h
  refine ⟨fun h0 => (by rw [h0] at hr; cases hr), fun j hj => ?_⟩
  by_cases hji : j = i
  ·subst hji; exact self (fuel + 1) listed T H Hi hy hf h
  ·have h1 := h.2 j (ready_mono hj hji)
   obtain ⟨hjun, oj, hoj, hall⟩ := mem_ready.1 hj
   have hnot : ∀ e ∈ oj.after, Region.binds md e = true → e.on ≠ i := fun e he hb heq => by
    have a1 := hall e he hb
    have a0 := (mem_ready.1 hr).1
    rw [heq] at a1
    rcases Nat.lt_or_ge i listed.size with h' | h'
    ·simp [h'] at a0 a1; rw [a0] at a1; cases a1
    ·simp [Array.getElem?_eq_none h'] at a1
   obtain ⟨hap, hcp⟩ := hfree j oj hoj hji hjun hnot
   obtain ⟨l1, l2, l3⟩ := apart_looks hap
   unfold qU at h1 ⊢
   simp only [hoj] at h1 ⊢
   obtain ⟨y, Hj, hyj, hfj, hk⟩ := h1
   obtain ⟨H', k1, k2, k3, k4⟩ := swapU hcp (fun t ht => updD_look (l1 t ht)) (fun t ht => updD_look (l2 t ht)) hy hf hyj hfj
   refine ⟨y, H', k1, k2, ih (listed.setIfInBounds j true) _ H' Hj (fun k ok hk hki hun hno => ?_) (ready_mono hr (Ne.symm hji)) k3 k4 ?_⟩
   ·refine hfree k ok hk hki ?_ hno
    by_cases hjk : j = k
    ·subst hjk; exact hjun
    ·rw [getD_set_ne true hjk] at hun; exact hun
   ·rw [Array.setIfInBounds_comm _ _ hji, updD_comm _ _ _ l3]
    exact hk
def freeU (md : Region.Mode) (ops : Array Oper) (cl : Nat → Nat) (listed : Array Bool) (i : Nat) (oi : Oper) : Bool :=
 ops.toList.zipIdx.all fun q => Nat.beq q.2 i || listed.getD q.2 true || (q.1.after.any fun e => Region.binds md e && Nat.beq e.on i) || (oi.apart ops q.1 && compatU (cl i) (cl q.2))
def lexU (md : Region.Mode) (ops : Array Oper) (cl : Nat → Nat) : List Nat → Array Bool → Bool
 | [], listed => (Region.ready md ops listed).isEmpty
 | i :: l, listed => (Region.ready md ops listed).contains i && (match ops[i]? with | some oi => freeU md ops cl listed i oi | none => false) && lexU md ops cl l (listed.setIfInBounds i true)
theorem freeU_spec {listed : Array Bool} {i : Nat} {oi : Oper} (h : freeU md ops cl listed i oi = true) : ∀ j oj, ops[j]? = some oj → j ≠ i → listed.getD j true = false → (∀ e ∈ oj.after, Region.binds md e = true → e.on ≠ i) → oi.apart ops oj = true ∧ compatU (cl i) (cl j) = true := by
 intro j oj hj hji hun hno
 have h1 := List.all_eq_true.1 h (oj, j) (zip_get (by rw [Array.getElem?_toList]; exact hj))
 simp only [Bool.or_eq_true, Bool.and_eq_true, Nat.beq_eq] at h1
 rcases h1 with ((h1 | h1) | h1) | h1
 ·exact absurd h1 hji
 ·rw [hun] at h1; cases h1
 ·obtain ⟨e, he, h3⟩ := Array.any_eq_true'.1 h1
  simp only [Bool.and_eq_true, Nat.beq_eq] at h3
  exact absurd h3.2 (hno e he h3.1)
 ·exact h1
def WU (P : Program) (B : Nat → Nat → Prop) (n : Nat) (ops : Array Oper) (cl : Nat → Nat) : List Nat → (Nat → PV) → List Ob → ((Nat → PV) → List Ob → Prop) → Prop
 | [], T, H, K => K T H
 | i :: l, T, H, K => ∃ o, ops[i]? = some o ∧ ∃ x H', YU P B ops o T H x H' ∧ FU P B ops (cl i) o T H x H' ∧ WU P B n ops cl l (updD o.dst x T) H' K
theorem anyU_lex {Q : (Nat → PV) → List Ob → Prop} : ∀ (l : List Nat) (listed : Array Bool) (T : Nat → PV) (H : List Ob), lexU md ops cl l listed = true → WU P B n ops cl l T H Q → anyU P B md ops cl Q l.length listed T H
 | [], listed, T, H, hB, h => ⟨by simpa [lexU] using hB, h⟩
 | i :: l, listed, T, H, hB, h => by
  simp only [lexU, Bool.and_eq_true] at hB
  obtain ⟨⟨hr, hf⟩, hB'⟩ := hB
  obtain ⟨o, ho, x, H', hy, hfu, hK⟩ := h
  rw [ho] at hf
  exact anyU_first ho l.length listed T H H' (freeU_spec hf) (by simpa using hr) hy hfu (anyU_lex l _ _ _ hB' hK)
def clOf (l : List Nat) (i : Nat) : Nat := l.getD i 3
def lexUB (md : Region.Mode) (ops : Array Oper) (cl : List Nat) (ord : List Nat) : Bool := Nat.beq ord.length ops.size && lexU md ops (clOf cl) ord (Array.replicate ops.size false)
variable {T : Nat → PV} {H : List Ob} {Q : Exit → (Nat → PV) → List Ob → Prop}
theorem W_drawU {id : Nat} (cl ord : List Nat) (hm : P.follows .mixedOrders = true) (hall : dstsOk n ops = true) (hB : lexUB .any ops cl ord = true) (h : WU P B n ops (clOf cl) ord T H (fun T' H' => Q .normal T' H')) : W P B n (.region id ops true) T H Q := by
 intro σ w a g
 simp only [lexUB, Bool.and_eq_true, Nat.beq_eq] at hB
 refine wp_region_any hm ?_
 have hd : Grows w { w with drawn := w.drawn + 1 } := Grows.drew w
 obtain ⟨s', st⟩ := grow_sim g.sim hd
 have hA := anyU_lex (P := P) (B := B) (n := n) (md := .any) ord (Array.replicate ops.size false) T H hB.2 h
 rw [hB.1] at hA
 exact anyU_sound (P := P) (md := .any) hall (H0 := H) (σ0 := σ) (w0 := w) (Q' := Post B n H σ w Q) (fun T' H' σ' w' a' g' st' hq => ⟨T', H', σ', hq, g', st'⟩) ops.size _ T H σ _ a ⟨s', fun i => (g.rep i).mono st.le, g.size, g.defers⟩ st hA
variable {o : Oper} {l : List Nat} {i : Nat} {K : (Nat → PV) → List Ob → Prop} {x : PV} {H' : List Ob} {G : List (Nat × TD)} {p : Prop} {d : Option Tmp}
theorem WU_nil (h : K T H) : WU P B n ops cl [] T H K := h
theorem WU_does0 (h0 : ops[i]? = some o) (hc : cl i = 0) (hd : nfD n o.dst = some d) (hw : wantedA ops T o = some true) (h : ∀ H2, Does P B o T H2 x H2) (k : WU P B n ops cl l (updD d x T) H K) : WU P B n ops cl (i :: l) T H K :=
 ⟨o, h0, x, H, .inl ⟨hw, .inl (h H)⟩, by rw [hc]; exact ⟨rfl, fun H2 => .inl ⟨hw, .inl (h H2)⟩⟩, (nfD_eq hd).1 ▸ k⟩
theorem Xc (h0 : ops[i]? = some o) (hc : cl i = 0) (hd : nfD n o.dst = some d) (hw : wantedA ops T o = some true) (h : ∀ H2, DoesC P B o T H2 x H2) (k : WU P B n ops cl l (updD d x T) H K) : WU P B n ops cl (i :: l) T H K :=
 ⟨o, h0, x, H, .inl ⟨hw, .inr (h H)⟩, by rw [hc]; exact ⟨rfl, fun H2 => .inl ⟨hw, .inr (h H2)⟩⟩, (nfD_eq hd).1 ▸ k⟩
theorem Xe (hG : tysOk P G = true) (h0 : ops[i]? = some o) (hc : cl i = 0) (hd : nfD n o.dst = some d) (hw : wantedA ops T o = some true) (h : ∀ H2, evS G T H2 o.type o.op = some (x, H2, p)) (hp : p) (k : WU P B n ops cl l (updD d x T) H K) : WU P B n ops cl (i :: l) T H K :=
 WU_does0 h0 hc hd hw (fun H2 => evOp_ok hG rfl (evS_ok (h H2)) hp) k
theorem Xi {y : PV} (hG : tysOk P G = true) (h0 : ops[i]? = some o) (hc : cl i = 0) (hd : nfD n o.dst = some d) (hw : wantedA ops T o = some true) (h : ∀ H2, evS G T H2 o.type o.op = some (x, H2, p)) (hp : p) (hi : Imp x y) (k : WU P B n ops cl l (updD d y T) H K) : WU P B n ops cl (i :: l) T H K :=
 WU_does0 h0 hc hd hw (fun H2 => (evOp_ok hG rfl (evS_ok (h H2)) hp).imp hi) k
theorem WU_skip (h0 : ops[i]? = some o) (hc : Nat.ble (cl i) 3 = true) (hd : nfD n o.dst = some d) (hw : wantedA ops T o = some false) (k : WU P B n ops cl l (updD d (.val undef) T) H K) : WU P B n ops cl (i :: l) T H K := by
 refine ⟨o, h0, _, H, .inr ⟨hw, rfl, rfl⟩, ?_, (nfD_eq hd).1 ▸ k⟩
 generalize cl i = q at hc
 match q, hc with
 | 0, _ => exact ⟨rfl, fun H2 => .inr ⟨hw, rfl, rfl⟩⟩
 | 1, _ => exact ⟨rfl, fun E => .inr ⟨hw, rfl, rfl⟩⟩
 | 2, _ => exact ⟨[], by simp⟩
 | 3, _ => trivial
 | c + 4, hc => rw [Nat.ble_eq] at hc; omega
theorem Xf (hG : tysOk P G = true) (h0 : ops[i]? = some o) (hc : cl i = 1) (hd : nfD n o.dst = some d) (hw : wantedA ops T o = some true) (h : ∀ E, evS G T (H ++ E) o.type o.op = some (x, H ++ E, p)) (hp : p) (k : WU P B n ops cl l (updD d x T) H K) : WU P B n ops cl (i :: l) T H K :=
 ⟨o, h0, x, H, .inl ⟨hw, .inl (by have := evOp_ok (P := P) (B := B) (o := o) hG rfl (evS_ok (h [])) hp; rwa [List.append_nil] at this)⟩, by rw [hc]; exact ⟨rfl, fun E => .inl ⟨hw, .inl (evOp_ok hG rfl (evS_ok (h E)) hp)⟩⟩, (nfD_eq hd).1 ▸ k⟩
theorem WU_ev2 {E : List Ob} (hG : tysOk P G = true) (h0 : ops[i]? = some o) (hc : cl i = 2) (hd : nfD n o.dst = some d) (hw : wantedA ops T o = some true) (h : evN G T H o.type o.op = some (x, H', p)) (hp : p) (hH : H' = H ++ E) (k : WU P B n ops cl l (updD d x T) H' K) : WU P B n ops cl (i :: l) T H K :=
 ⟨o, h0, x, H', .inl ⟨hw, .inl (evOp_ok hG rfl (evN_ok h) hp)⟩, by rw [hc]; exact ⟨E, hH⟩, (nfD_eq hd).1 ▸ k⟩
theorem WU_ev3 (hG : tysOk P G = true) (h0 : ops[i]? = some o) (hc : cl i = 3) (hd : nfD n o.dst = some d) (hw : wantedA ops T o = some true) (h : evN G T H o.type o.op = some (x, H', p)) (hp : p) (k : WU P B n ops cl l (updD d x T) H' K) : WU P B n ops cl (i :: l) T H K :=
 ⟨o, h0, x, H', .inl ⟨hw, .inl (evOp_ok hG rfl (evN_ok h) hp)⟩, by rw [hc]; trivial, (nfD_eq hd).1 ▸ k⟩
theorem WU_does3 (h0 : ops[i]? = some o) (hc : cl i = 3) (hd : nfD n o.dst = some d) (hw : wantedA ops T o = some true) (h : Does P B o T H x H') (k : WU P B n ops cl l (updD d x T) H' K) : WU P B n ops cl (i :: l) T H K :=
 ⟨o, h0, x, H', .inl ⟨hw, .inl h⟩, by rw [hc]; trivial, (nfD_eq hd).1 ▸ k⟩
theorem WU_call3 (h0 : ops[i]? = some o) (hc : cl i = 3) (hd : nfD n o.dst = some d) (hw : wantedA ops T o = some true) (h : DoesC P B o T H x H') (k : WU P B n ops cl l (updD d x T) H' K) : WU P B n ops cl (i :: l) T H K :=
 ⟨o, h0, x, H', .inl ⟨hw, .inr h⟩, by rw [hc]; trivial, (nfD_eq hd).1 ▸ k⟩
theorem WU_split (d : Nat) {b : Bool} (hT : T d = .val (.bool b)) (h1 : b = true → WU P B n ops cl l (upd d (.val (.bool true)) T) H K) (h2 : b = false → WU P B n ops cl l (upd d (.val (.bool false)) T) H K) : WU P B n ops cl l T H K := by
 have e : ∀ q, b = q → upd d (.val (.bool q)) T = T := by
  rintro q rfl
  funext i
  by_cases hi : i = d
  ·subst hi; rw [upd_same, hT]
  ·rw [upd_other _ _ _ _ hi]
 cases hb : b with
 | true => have := h1 hb; rwa [e true hb] at this
 | false => have := h2 hb; rwa [e false hb] at this
theorem WU_false (d : Nat) {b : Bool} (hT : T d = .val (.bool b)) (hb : b = false) (h1 : WU P B n ops cl l (upd d (.val (.bool false)) T) H K) : WU P B n ops cl l T H K :=
 WU_split d hT (fun h => by rw [hb] at h; cases h) (fun _ => h1)
theorem Xa (d : Nat) {x y : PV} (hT : T d = x) (hxy : x = y) (h1 : WU P B n ops cl l (upd d y T) H K) : WU P B n ops cl l T H K := by
 have e : upd d y T = T := by
  funext i
  by_cases hi : i = d
  ·subst hi; rw [upd_same, hT, hxy]
  ·rw [upd_other _ _ _ _ hi]
 rwa [e] at h1
theorem WU_ob {H' : List Ob} (hH : H' = H) (h1 : WU P B n ops cl l T H' K) : WU P B n ops cl l T H K := by subst hH; exact h1
theorem WU_rd (b : Nat) {ob : Ob} (h0 : ops[i]? = some o) (hc : cl i = 4 + 2 * b) (hd : nfD n o.dst = some d) (hw : wantedA ops T o = some true) (hb : H[b]? = some ob) (h : ∀ H2 : List Ob, H2[b]? = some ob → Does P B o T H2 x H2) (k : WU P B n ops cl l (updD d x T) H K) : WU P B n ops cl (i :: l) T H K := by
 have hk : blk (4 + 2 * b) = b := by unfold blk; omega
 exact ⟨o, h0, x, H, .inl ⟨hw, .inl (h H hb)⟩, by rw [hc]; exact FU.of_rd (by simp only [rdB, Bool.and_eq_true, Nat.ble_eq, Nat.beq_eq]; omega) ⟨rfl, by rw [hk]; exact lt_of_get hb, fun H2 h2 => .inl ⟨hw, .inl (h H2 (by rw [hk, hb] at h2; exact h2))⟩⟩, (nfD_eq hd).1 ▸ k⟩
theorem WU_wr (b : Nat) {ob : Ob} (hG : tysOk P G = true) (h0 : ops[i]? = some o) (hc : cl i = 5 + 2 * b) (hd : nfD n o.dst = some d) (hw : wantedA ops T o = some true) (h : evN G T H o.type o.op = some (x, H', p)) (hp : p) (hH : H' = H.set b ob) (k : WU P B n ops cl l (updD d x T) H' K) : WU P B n ops cl (i :: l) T H K := by
 have hk : blk (5 + 2 * b) = b := by unfold blk; omega
 exact ⟨o, h0, x, H', .inl ⟨hw, .inl (evOp_ok hG rfl (evN_ok h) hp)⟩, by rw [hc]; exact FU.of_wr (by simp only [wrB, Bool.and_eq_true, Nat.ble_eq, Nat.beq_eq]; omega) ⟨ob, by rw [hk]; exact hH⟩, (nfD_eq hd).1 ▸ k⟩
theorem WU_wrC (b : Nat) {ob : Ob} (h0 : ops[i]? = some o) (hc : cl i = 5 + 2 * b) (hd : nfD n o.dst = some d) (hw : wantedA ops T o = some true) (h : DoesC P B o T H x H') (hH : H' = H.set b ob) (k : WU P B n ops cl l (updD d x T) H' K) : WU P B n ops cl (i :: l) T H K := by
 have hk : blk (5 + 2 * b) = b := by unfold blk; omega
 exact ⟨o, h0, x, H', .inl ⟨hw, .inr h⟩, by rw [hc]; exact FU.of_wr (by simp only [wrB, Bool.and_eq_true, Nat.ble_eq, Nat.beq_eq]; omega) ⟨ob, by rw [hk]; exact hH⟩, (nfD_eq hd).1 ▸ k⟩
end
section
variable {B : Nat → Nat → Prop} {n : Nat} {all ops : Array Oper} {cl : Nat → Nat} {i : Nat} {li : List Nat} {T : Nat → PV} {H H' : List Ob} {K : (Nat → PV) → List Ob → Prop} {Q : Exit → (Nat → PV) → List Ob → Prop} {l : List Oper} {o : Oper} {x : PV} {d : Option Tmp} {p : Prop}
theorem z3 (k : WU Tryz.prog B n ops cl li (updD d x T) H K) (h0 : ops[i]? = some o := by exact rfl) (hc : cl i = 0 := by exact rfl) (hd : nfD n o.dst = some d := by exact rfl) (hw : wantedA ops T o = some true := by exact rfl) (h : ∀ H2, evS tys T H2 o.type o.op = some (x, H2, True) := by exact fun _ => rfl) : WU Tryz.prog B n ops cl (i :: li) T H K :=
 Xe tG h0 hc hd hw h trivial k
theorem z4 (k : WU Tryz.prog B n ops cl li (updD d x T) H K) (h0 : ops[i]? = some o := by exact rfl) (hc : cl i = 0 := by exact rfl) (hd : nfD n o.dst = some d := by exact rfl) (hw : wantedA ops T o = some true := by exact rfl) (h : ∀ H2, evS tys T H2 o.type o.op = some (x, H2, p) := by exact fun _ => rfl) (q : p) : WU Tryz.prog B n ops cl (i :: li) T H K :=
 Xe tG h0 hc hd hw h q k
theorem z5 (k : WU Tryz.prog B n ops cl li (updD d x T) H K) (h0 : ops[i]? = some o := by exact rfl) (hc : cl i = 1 := by exact rfl) (hd : nfD n o.dst = some d := by exact rfl) (hw : wantedA ops T o = some true := by exact rfl) (h : ∀ E, evS tys T (H ++ E) o.type o.op = some (x, H ++ E, True) := by exact fun _ => rfl) : WU Tryz.prog B n ops cl (i :: li) T H K :=
 Xf tG h0 hc hd hw h trivial k
theorem z7 (k : WU Tryz.prog B n ops cl li (updD d (.val undef) T) H K) (h0 : ops[i]? = some o := by exact rfl) (hc : Nat.ble (cl i) 3 = true := by exact rfl) (hd : nfD n o.dst = some d := by exact rfl) (hw : wantedA ops T o = some false := by exact rfl) : WU Tryz.prog B n ops cl (i :: li) T H K :=
 WU_skip h0 hc hd hw k
end
end V
end Go.Proofs.YtphgdofmjpdhaaaGreat
namespace Go.Proofs.YtphgdofmjpdhaaaGreat
open Go.RowKit
set_option maxRecDepth 100000
set_option maxHeartbeats 4000000
theorem mk_asks1 : PureC Tryz.prog 166 [i64 1] (deedP 3 244 [.row [i64 1], .row [i64 3]]) := by
 refine pW tG (rs := [.cell 2 75]) Tryz.func166 rfl rfl rfl (by simp) (by simp) (fun B => ?_)
 refine zp1 ?_
 refine WO_freezeP 1 _ rfl rfl rfl ?_
 refine zs1 ?_
 refine z8 ?_
 refine Wd rfl rfl (does_makeMap rfl) ?_
 refine Wd rfl rfl (dI (e := 3) (key := .n (1)) (by kernel_rfl) rfl rfl rfl rfl (by kernel_rfl)) ?_
 refine Wd rfl rfl (dI (e := 3) (key := .n (2)) (by kernel_rfl) rfl rfl rfl rfl (by kernel_rfl)) ?_
 refine Wd rfl rfl (dI (e := 3) (key := .n (3)) (by kernel_rfl) rfl rfl rfl rfl (by kernel_rfl)) ?_
 refine Wd rfl rfl (dI (e := 3) (key := .n (4)) (by kernel_rfl) rfl rfl rfl rfl (by kernel_rfl)) ?_
 refine z1 ?_
 refine WO_freezeM 5 _ rfl rfl rfl ?_
 refine z1 ?_
 refine Wd rfl rfl (does_lookup (b := false) (e := 3) (key := .n 1) (by kernel_rfl) (lO tG rfl) (by kernel_rfl) rfl rfl rfl rfl (by kernel_rfl) (rfl)) ?_
 refine zy2 ?_
 refine WO_freezeP 3 _ rfl rfl rfl ?_
 refine Wn ?_
 refine zu4 ?_
 refine zR ?_
 rfl
theorem mk_asks2 : PureC Tryz.prog 166 [i64 2] (deedP 4 244 [.row [i64 2], .row [i64 4]]) := by
 refine pW tG (rs := [.cell 2 75]) Tryz.func166 rfl rfl rfl (by simp) (by simp) (fun B => ?_)
 refine zp1 ?_
 refine WO_freezeP 1 _ rfl rfl rfl ?_
 refine zs1 ?_
 refine z8 ?_
 refine Wd rfl rfl (does_makeMap rfl) ?_
 refine Wd rfl rfl (dI (e := 3) (key := .n (1)) (by kernel_rfl) rfl rfl rfl rfl (by kernel_rfl)) ?_
 refine Wd rfl rfl (dI (e := 3) (key := .n (2)) (by kernel_rfl) rfl rfl rfl rfl (by kernel_rfl)) ?_
 refine Wd rfl rfl (dI (e := 3) (key := .n (3)) (by kernel_rfl) rfl rfl rfl rfl (by kernel_rfl)) ?_
 refine Wd rfl rfl (dI (e := 3) (key := .n (4)) (by kernel_rfl) rfl rfl rfl rfl (by kernel_rfl)) ?_
 refine z1 ?_
 refine WO_freezeM 5 _ rfl rfl rfl ?_
 refine z1 ?_
 refine Wd rfl rfl (does_lookup (b := false) (e := 3) (key := .n 2) (by kernel_rfl) (lO tG rfl) (by kernel_rfl) rfl rfl rfl rfl (by kernel_rfl) (rfl)) ?_
 refine zy2 ?_
 refine WO_freezeP 3 _ rfl rfl rfl ?_
 refine Wn ?_
 refine zu4 ?_
 refine zR ?_
 rfl
theorem mk_asks3 : PureC Tryz.prog 166 [i64 3] (deedP 4 244 [.row [i64 3], .row [i64 4]]) := by
 refine pW tG (rs := [.cell 2 75]) Tryz.func166 rfl rfl rfl (by simp) (by simp) (fun B => ?_)
 refine zp1 ?_
 refine WO_freezeP 1 _ rfl rfl rfl ?_
 refine zs1 ?_
 refine z8 ?_
 refine Wd rfl rfl (does_makeMap rfl) ?_
 refine Wd rfl rfl (dI (e := 3) (key := .n (1)) (by kernel_rfl) rfl rfl rfl rfl (by kernel_rfl)) ?_
 refine Wd rfl rfl (dI (e := 3) (key := .n (2)) (by kernel_rfl) rfl rfl rfl rfl (by kernel_rfl)) ?_
 refine Wd rfl rfl (dI (e := 3) (key := .n (3)) (by kernel_rfl) rfl rfl rfl rfl (by kernel_rfl)) ?_
 refine Wd rfl rfl (dI (e := 3) (key := .n (4)) (by kernel_rfl) rfl rfl rfl rfl (by kernel_rfl)) ?_
 refine z1 ?_
 refine WO_freezeM 5 _ rfl rfl rfl ?_
 refine z1 ?_
 refine Wd rfl rfl (does_lookup (b := false) (e := 3) (key := .n 3) (by kernel_rfl) (lO tG rfl) (by kernel_rfl) rfl rfl rfl rfl (by kernel_rfl) (rfl)) ?_
 refine zy2 ?_
 refine WO_freezeP 3 _ rfl rfl rfl ?_
 refine Wn ?_
 refine zu4 ?_
 refine zR ?_
 rfl
theorem mk_asks4 : PureC Tryz.prog 166 [i64 4] (deedP 1 244 [.row [i64 4], .row [i64 1]]) := by
 refine pW tG (rs := [.cell 2 75]) Tryz.func166 rfl rfl rfl (by simp) (by simp) (fun B => ?_)
 refine zp1 ?_
 refine WO_freezeP 1 _ rfl rfl rfl ?_
 refine zs1 ?_
 refine z8 ?_
 refine Wd rfl rfl (does_makeMap rfl) ?_
 refine Wd rfl rfl (dI (e := 3) (key := .n (1)) (by kernel_rfl) rfl rfl rfl rfl (by kernel_rfl)) ?_
 refine Wd rfl rfl (dI (e := 3) (key := .n (2)) (by kernel_rfl) rfl rfl rfl rfl (by kernel_rfl)) ?_
 refine Wd rfl rfl (dI (e := 3) (key := .n (3)) (by kernel_rfl) rfl rfl rfl rfl (by kernel_rfl)) ?_
 refine Wd rfl rfl (dI (e := 3) (key := .n (4)) (by kernel_rfl) rfl rfl rfl rfl (by kernel_rfl)) ?_
 refine z1 ?_
 refine WO_freezeM 5 _ rfl rfl rfl ?_
 refine z1 ?_
 refine Wd rfl rfl (does_lookup (b := false) (e := 3) (key := .n 4) (by kernel_rfl) (lO tG rfl) (by kernel_rfl) rfl rfl rfl rfl (by kernel_rfl) (rfl)) ?_
 refine zy2 ?_
 refine WO_freezeP 3 _ rfl rfl rfl ?_
 refine Wn ?_
 refine zu4 ?_
 refine zR ?_
 rfl
theorem d_cancel (v : VVm) (x : List Int) (hr : v.req.length ≤ 100000) (hx : XOk 1 x) : ∀ (H : List Ob) (i : Nat), H[i]? = some (.cells (cVm v) 36) → HC Tryz.prog 244 (.ptr i 0 :: [sq cInt x, .row [i64 4], .row [i64 1]]) H (tLv (pCancel v x).2) (H.set i (.cells (cVm (pCancel v x).1) 36)) := by
 have hl := hx.len
 refine mut_of_W tG (rs := [.tmp 6, .tmp 7]) Tryz.func244 rfl rfl rfl (by simp) (by simp) (by simp) (by simp) (fun B => ?_)
 refine zu2 ?_
 refine zu4 ?_
 refine Ws ?_
 refine zu2 ?_
 refine Wt rfl (by decide) ?_
 refine W_region rfl ?_
 refine z1 ?_
 refine Wv tG rfl rfl rfl (by omega) (iN cInt 1 (fun _ => rfl) 0 (by (simp only [dnL] at *; omega))) ?_
 refine zs3 ?_
 refine zu3 ?_
 refine Ws ?_
 refine zp2 ?_
 refine WO_false 56 rfl (by decide) ?_
 iterate 10 refine z6 ?_
 refine zs1 ?_
 refine Wf rfl rfl ?_
 refine Wj ?_
 refine Ws ?_
 refine zp5 ?_
 refine zs1 ?_
 refine Wi rfl (fun hi2 => ?_) (fun hi2 => ?_)
 ·have h5 : 16 ≤ (v.req.length : Int) := oT hi2
  refine zu2 ?_
  refine Wq ?_
  refine leafM rfl rfl ?_ ?_
  ·rw [pCancel, if_pos h5]; rfl
  ·rw [pCancel, if_pos h5]; rfl
 ·have h5 : ¬ 16 ≤ (v.req.length : Int) := oF hi2
  refine Wj ?_
  refine Ws ?_
  refine zu2 ?_
  refine Wt rfl (by decide) ?_
  refine Ws ?_
  refine W_drawU [0, 0, 0, 0, 1, 0, 1, 0, 0, 0, 0, 3] [0, 1, 2, 3, 4, 5, 6, 7, 8, 9, 10, 11] mG rfl (by kernel_rfl) ?_
  iterate 4 refine z3 ?_
  refine z5 ?_
  refine Xc rfl rfl rfl rfl (fun _ => dC rfl Tryz.func245 rfl rfl ((clip_reqs _ (by omega)) _)) ?_
  refine z5 ?_
  refine z3 ?_
  refine Xa 83 rfl ((show PV.seq 1 _ .clip = .seq (List.length [(⟨4, 0, 0, 0, 0, xat x 0⟩ : VReq)]) (List.flatMap cReq [(⟨4, 0, 0, 0, 0, xat x 0⟩ : VReq)]) .clip from rfl)) ?_
  refine WU_does0 rfl rfl rfl rfl (fun _ => does_append_drawn (lO tG rfl) rfl (lO tG rfl) (lO tG rfl) rfl rfl (by exact ⟨_, rfl⟩) (by exact ⟨rfl, rfl, flatMap_len _ 6 (fun _ => rfl) _, okC_flat _ (fun _ => rfl) _⟩) (by exact flatMap_len _ 6 (fun _ => rfl) _) (by ((simp_all; omega))) (by ((simp_all; omega))) (by exact flatL_app (flatL_map' (fun x => by simp) _) (flatL_map' (fun x => by simp) _))) ?_
  refine Xa 84 rfl (sq_append cReq) ?_
  iterate 2 refine z3 ?_
  refine WU_ev3 tG rfl rfl rfl rfl rfl trivial ?_
  refine WU_nil ?_
  refine zu2 ?_
  refine Wq ?_
  refine leafM rfl rfl ?_ ?_
  ·rw [pCancel, if_neg h5]; rfl
  ·rw [pCancel, if_neg h5]; rfl
theorem d_post (v : VVm) (x : List Int) (hr : v.req.length ≤ 100000) (hd : v.hand.length ≤ 1000000) (hx : XOk 3 x) : ∀ (H : List Ob) (i : Nat), H[i]? = some (.cells (cVm v) 36) → HC Tryz.prog 244 (.ptr i 0 :: [sq cInt x, .row [i64 1], .row [i64 3]]) H (tLv (pPost v x).2) (H.set i (.cells (cVm (pPost v x).1) 36)) := by
 have hl := hx.len
 refine mut_of_W tG (rs := [.tmp 6, .tmp 7]) Tryz.func244 rfl rfl rfl (by simp) (by simp) (by simp) (by simp) (fun B => ?_)
 refine zu2 ?_
 refine zu4 ?_
 refine Ws ?_
 refine zu2 ?_
 refine Wf rfl (by decide) ?_
 refine Ws ?_
 refine W_drawU [0, 0, 0, 0, 0, 0, 0, 0, 0, 0, 3, 0, 3, 0, 3] [0, 1, 2, 3, 4, 5, 6, 7, 8, 9, 10, 11, 12, 13, 14] mG rfl (by kernel_rfl) ?_
 refine z3 ?_
 refine Xi tG rfl rfl rfl rfl (fun _ => rfl) (by omega) (iN cInt 1 (fun _ => rfl) 0 (by (simp only [dnL] at *; omega))) ?_
 iterate 2 refine z3 ?_
 refine Xi tG rfl rfl rfl rfl (fun _ => rfl) (by omega) (iN cInt 1 (fun _ => rfl) 0 (by (simp only [dnL] at *; omega))) ?_
 iterate 2 refine z3 ?_
 refine Xi tG rfl rfl rfl rfl (fun _ => rfl) (by omega) (iN cInt 1 (fun _ => rfl) 0 (by (simp only [dnL] at *; omega))) ?_
 iterate 2 refine z3 ?_
 refine WU_ev3 tG rfl rfl rfl rfl rfl trivial ?_
 refine z3 ?_
 refine WU_ev3 tG rfl rfl rfl rfl rfl trivial ?_
 refine z3 ?_
 refine WU_ev3 tG rfl rfl rfl rfl rfl trivial ?_
 refine WU_nil ?_
 refine Ws ?_
 refine W_drawU [0, 1, 0, 0, 0, 1, 0, 0, 0, 1, 0, 0, 0, 0, 0, 1, 0, 0, 0, 0, 1, 0, 0] [0, 1, 2, 3, 4, 5, 6, 7, 8, 9, 10, 11, 12, 13, 14, 15, 16, 17, 18, 19, 20, 21, 22] mG rfl (by kernel_rfl) ?_
 refine z3 ?_
 refine z5 ?_
 iterate 2 refine z3 ?_
 refine WU_split 33 rfl (fun hg1 => ?_) (fun hg1 => ?_)
 ·have h1 : xat x 1 < 0 := oT hg1
  have hb : pBounds v x := .inl h1
  iterate 8 refine z7 ?_
  iterate 2 refine z3 ?_
  iterate 3 refine z7 ?_
  iterate 2 refine z3 ?_
  iterate 3 refine z7 ?_
  refine z3 ?_
  refine WU_nil ?_
  refine Wt rfl rfl ?_
  refine zu2 ?_
  refine Wq ?_
  refine leafM rfl rfl ?_ ?_
  ·rw [pPost, if_pos hb]; rfl
  ·rw [pPost, if_pos hb]; rfl
 ·have h1 : ¬ xat x 1 < 0 := oF hg1
  refine z3 ?_
  refine z5 ?_
  iterate 3 refine z3 ?_
  refine z5 ?_
  iterate 4 refine z3 ?_
  refine WU_split 43 rfl (fun hg2 => ?_) (fun hg2 => ?_)
  ·have h2 : (v.hand.length : Int) ≤ xat x 1 := oT hg2
   have hb : pBounds v x := .inr (.inl h2)
   iterate 3 refine z7 ?_
   iterate 2 refine z3 ?_
   iterate 3 refine z7 ?_
   refine z3 ?_
   refine WU_nil ?_
   refine Wt rfl rfl ?_
   refine zu2 ?_
   refine Wq ?_
   refine leafM rfl rfl ?_ ?_
   ·rw [pPost, if_pos hb]; rfl
   ·rw [pPost, if_pos hb]; rfl
  ·have h2 : ¬ (v.hand.length : Int) ≤ xat x 1 := oF hg2
   refine z3 ?_
   refine z5 ?_
   iterate 3 refine z3 ?_
   refine WU_split 48 rfl (fun hg3 => ?_) (fun hg3 => ?_)
   ·have h3 : xat x 2 < 0 := oT hg3
    have hb : pBounds v x := .inr (.inr (.inl h3))
    iterate 3 refine z7 ?_
    refine z3 ?_
    refine WU_nil ?_
    refine Wt rfl rfl ?_
    refine zu2 ?_
    refine Wq ?_
    refine leafM rfl rfl ?_ ?_
    ·rw [pPost, if_pos hb]; rfl
    ·rw [pPost, if_pos hb]; rfl
   ·have h3 : ¬ xat x 2 < 0 := oF hg3
    refine z3 ?_
    refine z5 ?_
    iterate 2 refine z3 ?_
    refine WU_nil ?_
    refine Wi rfl (fun hi2 => ?_) (fun hi2 => ?_)
    ·have h4 : 4 ≤ xat x 2 := oT hi2
     have hb : pBounds v x := .inr (.inr (.inr (by omega)))
     refine zu2 ?_
     refine Wq ?_
     refine leafM rfl rfl ?_ ?_
     ·rw [pPost, if_pos hb]; rfl
     ·rw [pPost, if_pos hb]; rfl
    ·have h4 : ¬ 4 ≤ xat x 2 := oF hi2
     have hb : ¬ pBounds v x := by rintro (h | h | h | h) <;> omega
     refine Wj ?_
     refine zu3 ?_
     refine Ws ?_
     refine zp2 ?_
     refine WO_false 56 rfl (by decide) ?_
     iterate 10 refine z6 ?_
     refine zs1 ?_
     refine Wf rfl rfl ?_
     refine Wj ?_
     refine Ws ?_
     refine zp5 ?_
     refine zs1 ?_
     refine Wi rfl (fun hi3 => ?_) (fun hi3 => ?_)
     ·have h5 : 16 ≤ (v.req.length : Int) := oT hi3
      refine zu2 ?_
      refine Wq ?_
      refine leafM rfl rfl ?_ ?_
      ·rw [pPost, if_neg hb, if_pos h5]; rfl
      ·rw [pPost, if_neg hb, if_pos h5]; rfl
     ·have h5 : ¬ 16 ≤ (v.req.length : Int) := oF hi3
      refine Wj ?_
      refine Ws ?_
      refine zu2 ?_
      refine Wt rfl (by decide) ?_
      refine Ws ?_
      refine W_drawU [0, 0, 0, 0, 1, 0, 1, 0, 0, 0, 0, 3] [0, 1, 2, 3, 4, 5, 6, 7, 8, 9, 10, 11] mG rfl (by kernel_rfl) ?_
      iterate 4 refine z3 ?_
      refine z5 ?_
      refine Xc rfl rfl rfl rfl (fun _ => dC rfl Tryz.func245 rfl rfl ((clip_reqs _ (by omega)) _)) ?_
      refine z5 ?_
      refine z3 ?_
      refine Xa 83 rfl ((show PV.seq 1 _ .clip = .seq (List.length [(⟨1, xat x 0, xat x 1, xat x 2, 0, 0⟩ : VReq)]) (List.flatMap cReq [(⟨1, xat x 0, xat x 1, xat x 2, 0, 0⟩ : VReq)]) .clip from rfl)) ?_
      refine WU_does0 rfl rfl rfl rfl (fun _ => does_append_drawn (lO tG rfl) rfl (lO tG rfl) (lO tG rfl) rfl rfl (by exact ⟨_, rfl⟩) (by exact ⟨rfl, rfl, flatMap_len _ 6 (fun _ => rfl) _, okC_flat _ (fun _ => rfl) _⟩) (by exact flatMap_len _ 6 (fun _ => rfl) _) (by ((simp_all; omega))) (by ((simp_all; omega))) (by exact flatL_app (flatL_map' (fun x => by simp) _) (flatL_map' (fun x => by simp) _))) ?_
      refine Xa 84 rfl (sq_append cReq) ?_
      iterate 2 refine z3 ?_
      refine WU_ev3 tG rfl rfl rfl rfl rfl trivial ?_
      refine WU_nil ?_
      refine zu2 ?_
      refine Wq ?_
      refine leafM rfl rfl ?_ ?_
      ·rw [pPost, if_neg hb, if_neg h5]; rfl
      ·rw [pPost, if_neg hb, if_neg h5]; rfl
theorem d_timer (k : Int) (hk : k ≠ 4) (v : VVm) (x : List Int) (hr : v.req.length ≤ 100000) (hd : v.hand.length ≤ 1000000) (hx : XOk 4 x) : ∀ (H : List Ob) (i : Nat), H[i]? = some (.cells (cVm v) 36) → HC Tryz.prog 244 (.ptr i 0 :: [sq cInt x, .row [i64 k], .row [i64 4]]) H (tLv (pTimer k v x).2) (H.set i (.cells (cVm (pTimer k v x).1) 36)) := by
 have hl := hx.len
 refine mut_of_W tG (rs := [.tmp 6, .tmp 7]) Tryz.func244 rfl rfl rfl (by simp) (by simp) (by simp) (by simp) (fun B => ?_)
 refine zu2 ?_
 refine zu4 ?_
 refine Ws ?_
 refine zu2 ?_
 refine Wf rfl (by exact beq_eq_false_iff_ne.2 hk) ?_
 refine Ws ?_
 refine V.W_drawU [0, 0, 0, 0, 0, 0, 0, 0, 0, 0, 3, 0, 3, 0, 3] [0, 1, 2, 3, 4, 5, 6, 7, 8, 9, 10, 11, 12, 13, 14] mG rfl (by kernel_rfl) ?_
 refine V.z3 ?_
 refine V.Xi tG rfl rfl rfl rfl (fun _ => rfl) (by omega) (iN cInt 1 (fun _ => rfl) 0 (by (simp only [dnL] at *; omega))) ?_
 iterate 2 refine V.z3 ?_
 refine V.Xi tG rfl rfl rfl rfl (fun _ => rfl) (by omega) (iN cInt 1 (fun _ => rfl) 0 (by (simp only [dnL] at *; omega))) ?_
 iterate 2 refine V.z3 ?_
 refine V.Xi tG rfl rfl rfl rfl (fun _ => rfl) (by omega) (iN cInt 1 (fun _ => rfl) 0 (by (simp only [dnL] at *; omega))) ?_
 iterate 2 refine V.z3 ?_
 refine V.WU_ev3 tG rfl rfl rfl rfl rfl trivial ?_
 refine V.z3 ?_
 refine V.WU_ev3 tG rfl rfl rfl rfl rfl trivial ?_
 refine V.z3 ?_
 refine V.WU_ev3 tG rfl rfl rfl rfl rfl trivial ?_
 refine V.WU_nil ?_
 refine Ws ?_
 refine V.W_drawU [0, 1, 0, 0, 0, 1, 0, 0, 0, 1, 0, 0, 0, 0, 0, 1, 0, 0, 0, 0, 1, 0, 0] [0, 1, 2, 3, 4, 5, 6, 7, 8, 9, 10, 11, 12, 13, 14, 15, 16, 17, 18, 19, 20, 21, 22] mG rfl (by kernel_rfl) ?_
 refine V.z3 ?_
 refine V.z5 ?_
 iterate 2 refine V.z3 ?_
 refine V.WU_split 33 rfl (fun hg1 => ?_) (fun hg1 => ?_)
 ·have h1 : xat x 1 < 0 := oT hg1
  have hb : pBounds v x := .inl h1
  iterate 8 refine V.z7 ?_
  iterate 2 refine V.z3 ?_
  iterate 3 refine V.z7 ?_
  iterate 2 refine V.z3 ?_
  iterate 3 refine V.z7 ?_
  refine V.z3 ?_
  refine V.WU_nil ?_
  refine Wt rfl rfl ?_
  refine zu2 ?_
  refine Wq ?_
  refine leafM rfl rfl ?_ ?_
  ·rw [pTimer, if_pos hb]; rfl
  ·rw [pTimer, if_pos hb]; rfl
 ·have h1 : ¬ xat x 1 < 0 := oF hg1
  refine V.z3 ?_
  refine V.z5 ?_
  iterate 3 refine V.z3 ?_
  refine V.z5 ?_
  iterate 4 refine V.z3 ?_
  refine V.WU_split 43 rfl (fun hg2 => ?_) (fun hg2 => ?_)
  ·have h2 : (v.hand.length : Int) ≤ xat x 1 := oT hg2
   have hb : pBounds v x := .inr (.inl h2)
   iterate 3 refine V.z7 ?_
   iterate 2 refine V.z3 ?_
   iterate 3 refine V.z7 ?_
   refine V.z3 ?_
   refine V.WU_nil ?_
   refine Wt rfl rfl ?_
   refine zu2 ?_
   refine Wq ?_
   refine leafM rfl rfl ?_ ?_
   ·rw [pTimer, if_pos hb]; rfl
   ·rw [pTimer, if_pos hb]; rfl
  ·have h2 : ¬ (v.hand.length : Int) ≤ xat x 1 := oF hg2
   refine V.z3 ?_
   refine V.z5 ?_
   iterate 3 refine V.z3 ?_
   refine V.WU_split 48 rfl (fun hg3 => ?_) (fun hg3 => ?_)
   ·have h3 : xat x 2 < 0 := oT hg3
    have hb : pBounds v x := .inr (.inr (.inl h3))
    iterate 3 refine V.z7 ?_
    refine V.z3 ?_
    refine V.WU_nil ?_
    refine Wt rfl rfl ?_
    refine zu2 ?_
    refine Wq ?_
    refine leafM rfl rfl ?_ ?_
    ·rw [pTimer, if_pos hb]; rfl
    ·rw [pTimer, if_pos hb]; rfl
   ·have h3 : ¬ xat x 2 < 0 := oF hg3
    refine V.z3 ?_
    refine V.z5 ?_
    iterate 2 refine V.z3 ?_
    refine V.WU_nil ?_
    refine Wi rfl (fun hi2 => ?_) (fun hi2 => ?_)
    ·have h4 : 4 ≤ xat x 2 := oT hi2
     have hb : pBounds v x := .inr (.inr (.inr (by omega)))
     refine zu2 ?_
     refine Wq ?_
     refine leafM rfl rfl ?_ ?_
     ·rw [pTimer, if_pos hb]; rfl
     ·rw [pTimer, if_pos hb]; rfl
    ·have h4 : ¬ 4 ≤ xat x 2 := oF hi2
     have hb : ¬ pBounds v x := by rintro (h | h | h | h) <;> omega
     refine Wj ?_
     refine zu3 ?_
     refine Ws ?_
     refine zp2 ?_
     refine WO_true 56 rfl (by decide) ?_
     refine z1 ?_
     refine Wv tG rfl rfl rfl (by omega) (iN cInt 1 (fun _ => rfl) 0 (by (simp only [dnL] at *; omega))) ?_
     refine zy3 ?_
     refine Wb 61 rfl (fun hg5 => ?_) (fun hg5 => ?_)
     ·have h6 : xat x 3 < 1 := oT hg5
      have hq : xat x 3 < 1 ∨ 4294967295 < xat x 3 := .inl h6
      iterate 4 refine z6 ?_
      refine zs2 ?_
      refine Wt rfl rfl ?_
      refine zu2 ?_
      refine Wq ?_
      refine leafM rfl rfl ?_ ?_
      ·rw [pTimer, if_neg hb, if_pos hq]; rfl
      ·rw [pTimer, if_neg hb, if_pos hq]; rfl
     ·have h6 : ¬ xat x 3 < 1 := oF hg5
      refine z1 ?_
      refine Wv tG rfl rfl rfl (by omega) (iN cInt 1 (fun _ => rfl) 0 (by (simp only [dnL] at *; omega))) ?_
      refine zs4 ?_
      refine Wi rfl (fun hi3 => ?_) (fun hi3 => ?_)
      ·have h7 : 4294967296 ≤ xat x 3 := oT hi3
       have hq : xat x 3 < 1 ∨ 4294967295 < xat x 3 := .inr (by omega)
       refine zu2 ?_
       refine Wq ?_
       refine leafM rfl rfl ?_ ?_
       ·rw [pTimer, if_neg hb, if_pos hq]; rfl
       ·rw [pTimer, if_neg hb, if_pos hq]; rfl
      ·have h7 : ¬ 4294967296 ≤ xat x 3 := oF hi3
       have hq : ¬ (xat x 3 < 1 ∨ 4294967295 < xat x 3) := by omega
       refine Wj ?_
       refine Ws ?_
       refine zp5 ?_
       refine zs1 ?_
       refine Wi rfl (fun hi4 => ?_) (fun hi4 => ?_)
       ·have h5 : 16 ≤ (v.req.length : Int) := oT hi4
        refine zu2 ?_
        refine Wq ?_
        refine leafM rfl rfl ?_ ?_
        ·rw [pTimer, if_neg hb, if_neg hq, if_pos h5]; rfl
        ·rw [pTimer, if_neg hb, if_neg hq, if_pos h5]; rfl
       ·have h5 : ¬ 16 ≤ (v.req.length : Int) := oF hi4
        refine Wj ?_
        refine Ws ?_
        refine zu2 ?_
        refine Wf rfl (by decide) ?_
        refine Wj ?_
        refine Ws ?_
        refine zp5 ?_
        refine z1 ?_
        refine Wb 92 rfl (fun hg6 => ?_) (fun hg6 => ?_)
        ·have h8 : v.free = 0 := beq_iff_eq.1 hg6
         have hw : v.free = 0 ∨ v.next = 4611686018427387904 := .inl h8
         iterate 5 refine z6 ?_
         refine zs1 ?_
         refine Wt rfl rfl ?_
         refine zu2 ?_
         refine Wq ?_
         refine leafM rfl rfl ?_ ?_
         ·rw [pTimer, if_neg hb, if_neg hq, if_neg h5, if_pos hw]; rfl
         ·rw [pTimer, if_neg hb, if_neg hq, if_neg h5, if_pos hw]; rfl
        ·have h8 : ¬ v.free = 0 := beq_eq_false_iff_ne.1 hg6
         refine zy5 ?_
         refine zs1 ?_
         refine Wi rfl (fun hi6 => ?_) (fun hi6 => ?_)
         ·have h9 : v.next = 4611686018427387904 := beq_iff_eq.1 hi6
          have hw : v.free = 0 ∨ v.next = 4611686018427387904 := .inr h9
          refine zu2 ?_
          refine Wq ?_
          refine leafM rfl rfl ?_ ?_
          ·rw [pTimer, if_neg hb, if_neg hq, if_neg h5, if_pos hw]; rfl
          ·rw [pTimer, if_neg hb, if_neg hq, if_neg h5, if_pos hw]; rfl
         ·have h9 : ¬ v.next = 4611686018427387904 := beq_eq_false_iff_ne.1 hi6
          have hw : ¬ (v.free = 0 ∨ v.next = 4611686018427387904) := by rintro (h | h) <;> contradiction
          refine Wj ?_
          refine Ws ?_
          refine V.W_drawU [0, 0, 0, 0, 0, 0, 4, 0, 7, 0, 7] [0, 1, 2, 3, 4, 5, 6, 7, 8, 9, 10] mG rfl (by kernel_rfl) ?_
          refine V.z3 ?_
          refine V.Xi tG rfl rfl rfl rfl (fun _ => rfl) (by omega) (iN cInt 1 (fun _ => rfl) 0 (by (simp only [dnL] at *; omega))) ?_
          iterate 4 refine V.z3 ?_
          refine V.WU_rd 0 rfl rfl rfl rfl rfl (fun H2 h2 => does_load_ptr (lO tG rfl) rfl rfl h2 rfl) ?_
          refine V.z3 ?_
          refine V.WU_wr 1 tG rfl rfl rfl rfl rfl trivial rfl ?_
          refine V.z3 ?_
          refine V.WU_wr 1 tG rfl rfl rfl rfl rfl trivial rfl ?_
          refine V.WU_nil ?_
          refine Ws ?_
          refine V.W_drawU [0, 0, 0, 0, 1, 0, 1, 0, 0, 0, 0, 3] [0, 1, 2, 3, 4, 5, 6, 7, 8, 9, 10, 11] mG rfl (by kernel_rfl) ?_
          iterate 4 refine V.z3 ?_
          refine V.z5 ?_
          refine V.Xc rfl rfl rfl rfl (fun _ => dC rfl Tryz.func245 rfl rfl ((clip_reqs _ (by omega)) _)) ?_
          refine V.z5 ?_
          refine V.z3 ?_
          refine V.Xa 115 rfl ((show PV.seq 1 _ .clip = .seq (List.length [(⟨k, xat x 0, xat x 1, xat x 2, xat x 3, v.next⟩ : VReq)]) (List.flatMap cReq [(⟨k, xat x 0, xat x 1, xat x 2, xat x 3, v.next⟩ : VReq)]) .clip from rfl)) ?_
          refine V.WU_does0 rfl rfl rfl rfl (fun _ => does_append_drawn (lO tG rfl) rfl (lO tG rfl) (lO tG rfl) rfl rfl (by exact ⟨_, rfl⟩) (by exact ⟨rfl, rfl, flatMap_len _ 6 (fun _ => rfl) _, okC_flat _ (fun _ => rfl) _⟩) (by exact flatMap_len _ 6 (fun _ => rfl) _) (by ((simp_all; omega))) (by ((simp_all; omega))) (by exact flatL_app (flatL_map' (fun x => by simp) _) (flatL_map' (fun x => by simp) _))) ?_
          refine V.Xa 116 rfl (sq_append cReq) ?_
          iterate 2 refine V.z3 ?_
          refine V.WU_ev3 tG rfl rfl rfl rfl rfl trivial ?_
          refine V.WU_nil ?_
          refine zp5 ?_
          refine zs3 ?_
          refine zp5 ?_
          refine zs3 ?_
          refine zp3 ?_
          refine Wa 135 rfl (bsL cInt [_] rfl rfl) ?_
          refine Wc rfl rfl (dC rfl Tryz.func55 rfl rfl ((prim_told [v.next]) _)) ?_
          refine zs4 ?_
          refine Wq ?_
          refine leafM rfl rfl ?_ ?_
          ·rw [pTimer, if_neg hb, if_neg hq, if_neg h5, if_neg hw]; rfl
          ·rw [pTimer, if_neg hb, if_neg hq, if_neg h5, if_neg hw]; rfl
end Go.Proofs.YtphgdofmjpdhaaaGreat
namespace Go.Proofs.YtphgdofmjpdhaaaGreat
open Go.RowKit
set_option maxRecDepth 100000
set_option maxHeartbeats 4000000
def rkK : List MKey := [.s [47, 77, 79, 68], .s [42, 47, 77, 79, 68], .s [42, 47], .s [85, 77, 42], .s [77, 42], .s [85, 77, 47, 77, 79, 68], .s [83, 77, 47, 82, 69, 77], .s [70, 77, 47, 77, 79, 68], .s [83, 62, 68], .s [87, 73, 84, 72, 73, 78]]
def rkV : List PV := [deedP 2 80 [.row [fnP 89 capA]], deedP 3 80 [.row [fnP 90 capAB]], deedP 3 80 [.row [fnP 91 capB]], deedP 2 80 [.row [fnP 92 []]], deedP 2 80 [.row [fnP 94 []]], deedP 3 80 [.row [fnP 95 capA]], deedP 3 80 [.row [fnP 97 capA]], deedP 3 80 [.row [fnP 99 capA]], deedP 1 80 [.row [fnP 100 []]], deedP 3 80 [.row [fnP 102 []]]]
theorem flat_rk : Flat (.smap rkK rkV) := by
 unfold Flat rkV
 simp
theorem prim_reckons : PureC Tryz.prog 56 [] (.smap rkK rkV) := by
 refine pW tG (rs := [.tmp 0]) Tryz.func56 rfl rfl rfl (by simp; done) (by exact flat_rk) (fun B => ?_)
 refine zu1 ?_
 refine zp2 ?_
 refine WO_freezeP 1 _ rfl rfl rfl ?_
 refine Wn ?_
 refine zp2 ?_
 refine WO_freezeP 2 _ rfl rfl rfl ?_
 refine z0 ?_
 refine Wd rfl rfl (does_makeMap rfl) ?_
 refine z1 ?_
 refine Wc rfl rfl (dC rfl Tryz.func50 rfl rfl ((mk_pure 2 89 capA (by simp)) _)) ?_
 refine Wd rfl rfl (dI (e := 75) (key := .s [47, 77, 79, 68]) (by kernel_rfl) rfl rfl rfl rfl (by kernel_rfl)) ?_
 refine z1 ?_
 refine Wc rfl rfl (dC rfl Tryz.func50 rfl rfl ((mk_pure 3 90 capAB (by simp)) _)) ?_
 refine Wd rfl rfl (dI (e := 75) (key := .s [42, 47, 77, 79, 68]) (by kernel_rfl) rfl rfl rfl rfl (by kernel_rfl)) ?_
 refine z1 ?_
 refine Wc rfl rfl (dC rfl Tryz.func50 rfl rfl ((mk_pure 3 91 capB (by simp)) _)) ?_
 refine Wd rfl rfl (dI (e := 75) (key := .s [42, 47]) (by kernel_rfl) rfl rfl rfl rfl (by kernel_rfl)) ?_
 refine Wc rfl rfl (dC rfl Tryz.func50 rfl rfl ((mk_pure 2 92 [] (by simp)) _)) ?_
 refine Wd rfl rfl (dI (e := 75) (key := .s [85, 77, 42]) (by kernel_rfl) rfl rfl rfl rfl (by kernel_rfl)) ?_
 refine Wc rfl rfl (dC rfl Tryz.func50 rfl rfl ((mk_pure 2 94 [] (by simp)) _)) ?_
 refine Wd rfl rfl (dI (e := 75) (key := .s [77, 42]) (by kernel_rfl) rfl rfl rfl rfl (by kernel_rfl)) ?_
 refine z1 ?_
 refine Wc rfl rfl (dC rfl Tryz.func50 rfl rfl ((mk_pure 3 95 capA (by simp)) _)) ?_
 refine Wd rfl rfl (dI (e := 75) (key := .s [85, 77, 47, 77, 79, 68]) (by kernel_rfl) rfl rfl rfl rfl (by kernel_rfl)) ?_
 refine z1 ?_
 refine Wc rfl rfl (dC rfl Tryz.func50 rfl rfl ((mk_pure 3 97 capA (by simp)) _)) ?_
 refine Wd rfl rfl (dI (e := 75) (key := .s [83, 77, 47, 82, 69, 77]) (by kernel_rfl) rfl rfl rfl rfl (by kernel_rfl)) ?_
 refine z1 ?_
 refine Wc rfl rfl (dC rfl Tryz.func50 rfl rfl ((mk_pure 3 99 capA (by simp)) _)) ?_
 refine Wd rfl rfl (dI (e := 75) (key := .s [70, 77, 47, 77, 79, 68]) (by kernel_rfl) rfl rfl rfl rfl (by kernel_rfl)) ?_
 refine Wc rfl rfl (dC rfl Tryz.func50 rfl rfl ((mk_pure 1 100 [] (by simp)) _)) ?_
 refine Wd rfl rfl (dI (e := 75) (key := .s [83, 62, 68]) (by kernel_rfl) rfl rfl rfl rfl (by kernel_rfl)) ?_
 refine Wc rfl rfl (dC rfl Tryz.func50 rfl rfl ((mk_pure 3 102 [] (by simp)) _)) ?_
 refine Wd rfl rfl (dI (e := 75) (key := .s [87, 73, 84, 72, 73, 78]) (by kernel_rfl) rfl rfl rfl rfl (by kernel_rfl)) ?_
 refine z1 ?_
 refine WO_freezeM 20 _ rfl rfl rfl ?_
 refine zs1 ?_
 refine zR ?_
 rfl
def meK : List MKey := [.s [64], .s [67, 64], .s [33], .s [67, 33], .s [43, 33], .s [50, 64], .s [50, 33], .s [70, 73, 76, 76], .s [77, 79, 86, 69], .s [67, 79, 85, 78, 84]]
def meV : List PV := [deedP 1 216 [.row [fnP 105 []]], deedP 1 216 [.row [fnP 106 []]], deedP 2 220 [.row [fnP 108 []]], deedP 2 220 [.row [fnP 110 []]], deedP 2 220 [.row [fnP 112 []]], deedP 1 113 [], deedP 3 220 [.row [fnP 114 []]], deedP 3 220 [.row [fnP 115 []]], deedP 3 220 [.row [fnP 117 []]], deedP 1 119 []]
theorem flat_me : Flat (.smap meK meV) := by
 unfold Flat meV
 simp
theorem prim_memories : PureC Tryz.prog 57 [] (.smap meK meV) := by
 refine pW tG (rs := [.tmp 0]) Tryz.func57 rfl rfl rfl (by simp; done) (by exact flat_me) (fun B => ?_)
 refine zu1 ?_
 refine z8 ?_
 refine Wd rfl rfl (does_makeMap rfl) ?_
 refine Wc rfl rfl (dC rfl Tryz.func104 rfl rfl ((mk_fetches 105 [] (by simp)) _)) ?_
 refine Wd rfl rfl (dI (e := 75) (key := .s [64]) (by kernel_rfl) rfl rfl rfl rfl (by kernel_rfl)) ?_
 refine Wc rfl rfl (dC rfl Tryz.func104 rfl rfl ((mk_fetches 106 [] (by simp)) _)) ?_
 refine Wd rfl rfl (dI (e := 75) (key := .s [67, 64]) (by kernel_rfl) rfl rfl rfl rfl (by kernel_rfl)) ?_
 refine Wc rfl rfl (dC rfl Tryz.func107 rfl rfl ((mk_changes 2 108 [] (by simp)) _)) ?_
 refine Wd rfl rfl (dI (e := 75) (key := .s [33]) (by kernel_rfl) rfl rfl rfl rfl (by kernel_rfl)) ?_
 refine Wc rfl rfl (dC rfl Tryz.func107 rfl rfl ((mk_changes 2 110 [] (by simp)) _)) ?_
 refine Wd rfl rfl (dI (e := 75) (key := .s [67, 33]) (by kernel_rfl) rfl rfl rfl rfl (by kernel_rfl)) ?_
 refine Wc rfl rfl (dC rfl Tryz.func107 rfl rfl ((mk_changes 2 112 [] (by simp)) _)) ?_
 refine Wd rfl rfl (dI (e := 75) (key := .s [43, 33]) (by kernel_rfl) rfl rfl rfl rfl (by kernel_rfl)) ?_
 refine z1 ?_
 refine Wd rfl rfl (dI (e := 75) (key := .s [50, 64]) (by kernel_rfl) rfl rfl rfl rfl (by kernel_rfl)) ?_
 refine Wc rfl rfl (dC rfl Tryz.func107 rfl rfl ((mk_changes 3 114 [] (by simp)) _)) ?_
 refine Wd rfl rfl (dI (e := 75) (key := .s [50, 33]) (by kernel_rfl) rfl rfl rfl rfl (by kernel_rfl)) ?_
 refine Wc rfl rfl (dC rfl Tryz.func107 rfl rfl ((mk_changes 3 115 [] (by simp)) _)) ?_
 refine Wd rfl rfl (dI (e := 75) (key := .s [70, 73, 76, 76]) (by kernel_rfl) rfl rfl rfl rfl (by kernel_rfl)) ?_
 refine Wc rfl rfl (dC rfl Tryz.func107 rfl rfl ((mk_changes 3 117 [] (by simp)) _)) ?_
 refine Wd rfl rfl (dI (e := 75) (key := .s [77, 79, 86, 69]) (by kernel_rfl) rfl rfl rfl rfl (by kernel_rfl)) ?_
 refine z1 ?_
 refine Wd rfl rfl (dI (e := 75) (key := .s [67, 79, 85, 78, 84]) (by kernel_rfl) rfl rfl rfl rfl (by kernel_rfl)) ?_
 refine z1 ?_
 refine WO_freezeM 12 _ rfl rfl rfl ?_
 refine zs1 ?_
 refine zR ?_
 rfl
def spK : List MKey := [.s [72, 69, 82, 69], .s [65, 76, 76, 79, 84], .s [44], .s [67, 44], .s [65, 76, 73, 71, 78], .s [66, 65, 83, 69], .s [83, 84, 65, 84, 69], .s [84, 82, 85, 69], .s [70, 65, 76, 83, 69], .s [66, 76], .s [68, 69, 67, 73, 77, 65, 76], .s [72, 69, 88]]
def spV : List PV := [deedP 0 223 [.row [fnP 126 []]], deedP 1 224 [.row [fnP 128 []]], deedP 1 224 [.row [fnP 131 []]], deedP 1 224 [.row [fnP 133 []]], deedP 0 224 [.row [fnP 135 []]], deedP 0 223 [.row [fnP 125 [.row [i64 (0)]]]], deedP 0 223 [.row [fnP 125 [.row [i64 (8)]]]], deedP 0 223 [.row [fnP 125 [.row [i64 (-1)]]]], deedP 0 223 [.row [fnP 125 [.row [i64 (0)]]]], deedP 0 223 [.row [fnP 125 [.row [i64 (32)]]]], deedP 0 121 [.row [i64 10]], deedP 0 121 [.row [i64 16]]]
theorem flat_sp : Flat (.smap spK spV) := by
 unfold Flat spV
 simp
theorem prim_spaces : PureC Tryz.prog 58 [] (.smap spK spV) := by
 refine pW tG (rs := [.tmp 0]) Tryz.func58 rfl rfl rfl (by simp; done) (by exact flat_sp) (fun B => ?_)
 refine zu1 ?_
 refine zu1 ?_
 refine zu1 ?_
 refine z8 ?_
 refine Wd rfl rfl (does_makeMap rfl) ?_
 refine Wc rfl rfl (dC rfl Tryz.func124 rfl rfl ((mk_shown 126 [] (by simp)) _)) ?_
 refine Wd rfl rfl (dI (e := 75) (key := .s [72, 69, 82, 69]) (by kernel_rfl) rfl rfl rfl rfl (by kernel_rfl)) ?_
 refine Wc rfl rfl (dC rfl Tryz.func127 rfl rfl ((mk_lays 1 128 [] (by simp)) _)) ?_
 refine Wd rfl rfl (dI (e := 75) (key := .s [65, 76, 76, 79, 84]) (by kernel_rfl) rfl rfl rfl rfl (by kernel_rfl)) ?_
 refine Wc rfl rfl (dC rfl Tryz.func127 rfl rfl ((mk_lays 1 131 [] (by simp)) _)) ?_
 refine Wd rfl rfl (dI (e := 75) (key := .s [44]) (by kernel_rfl) rfl rfl rfl rfl (by kernel_rfl)) ?_
 refine Wc rfl rfl (dC rfl Tryz.func127 rfl rfl ((mk_lays 1 133 [] (by simp)) _)) ?_
 refine Wd rfl rfl (dI (e := 75) (key := .s [67, 44]) (by kernel_rfl) rfl rfl rfl rfl (by kernel_rfl)) ?_
 refine Wc rfl rfl (dC rfl Tryz.func127 rfl rfl ((mk_lays 0 135 [] (by simp)) _)) ?_
 refine Wd rfl rfl (dI (e := 75) (key := .s [65, 76, 73, 71, 78]) (by kernel_rfl) rfl rfl rfl rfl (by kernel_rfl)) ?_
 refine z1 ?_
 refine Wc rfl rfl (doesCWv rfl rfl Tryz.func123 rfl rfl (mk_always (0) _)) ?_
 refine Wd rfl rfl (dI (e := 75) (key := .s [66, 65, 83, 69]) (by kernel_rfl) rfl rfl rfl rfl (by kernel_rfl)) ?_
 refine z1 ?_
 refine Wc rfl rfl (doesCWv rfl rfl Tryz.func123 rfl rfl (mk_always (8) _)) ?_
 refine Wd rfl rfl (dI (e := 75) (key := .s [83, 84, 65, 84, 69]) (by kernel_rfl) rfl rfl rfl rfl (by kernel_rfl)) ?_
 refine z1 ?_
 refine Wc rfl rfl (doesCWv rfl rfl Tryz.func123 rfl rfl (mk_always (-1) _)) ?_
 refine Wd rfl rfl (dI (e := 75) (key := .s [84, 82, 85, 69]) (by kernel_rfl) rfl rfl rfl rfl (by kernel_rfl)) ?_
 refine z1 ?_
 refine Wc rfl rfl (doesCWv rfl rfl Tryz.func123 rfl rfl (mk_always (0) _)) ?_
 refine Wd rfl rfl (dI (e := 75) (key := .s [70, 65, 76, 83, 69]) (by kernel_rfl) rfl rfl rfl rfl (by kernel_rfl)) ?_
 refine z1 ?_
 refine Wc rfl rfl (doesCWv rfl rfl Tryz.func123 rfl rfl (mk_always (32) _)) ?_
 refine Wd rfl rfl (dI (e := 75) (key := .s [66, 76]) (by kernel_rfl) rfl rfl rfl rfl (by kernel_rfl)) ?_
 refine z1 ?_
 refine Wc rfl rfl (doesCWv rfl rfl Tryz.func120 rfl rfl (mk_base 10 _)) ?_
 refine Wd rfl rfl (dI (e := 75) (key := .s [68, 69, 67, 73, 77, 65, 76]) (by kernel_rfl) rfl rfl rfl rfl (by kernel_rfl)) ?_
 refine z1 ?_
 refine Wc rfl rfl (doesCWv rfl rfl Tryz.func120 rfl rfl (mk_base 16 _)) ?_
 refine Wd rfl rfl (dI (e := 75) (key := .s [72, 69, 88]) (by kernel_rfl) rfl rfl rfl rfl (by kernel_rfl)) ?_
 refine z1 ?_
 refine WO_freezeM 23 _ rfl rfl rfl ?_
 refine zs1 ?_
 refine zR ?_
 rfl
def prK : List MKey := [.s [69, 77, 73, 84], .s [67, 82], .s [83, 80, 65, 67, 69], .s [83, 80, 65, 67, 69, 83], .s [84, 89, 80, 69], .s [46], .s [85, 46]]
def prV : List PV := [deedP 1 227 [.row [fnP 143 []]], deedP 0 227 [.row [fnP 142 [.row [str [10]]]]], deedP 0 227 [.row [fnP 142 [.row [str [32]]]]], deedP 1 227 [.row [fnP 144 []]], deedP 2 227 [.row [fnP 146 []]], deedP 1 227 [.row [fnP 139 [.row [fnP 148 []]]]], deedP 1 227 [.row [fnP 139 [.row [fnP 149 []]]]]]
theorem flat_pr : Flat (.smap prK prV) := by
 unfold Flat prV
 simp
theorem prim_prints : PureC Tryz.prog 59 [] (.smap prK prV) := by
 refine pW tG (rs := [.tmp 0]) Tryz.func59 rfl rfl rfl (by simp; done) (by exact flat_pr) (fun B => ?_)
 refine zu1 ?_
 refine zu1 ?_
 refine zu1 ?_
 refine z8 ?_
 refine Wd rfl rfl (does_makeMap rfl) ?_
 refine Wc rfl rfl (dC rfl Tryz.func138 rfl rfl ((mk_puts 1 143 [] (by simp)) _)) ?_
 refine Wd rfl rfl (dI (e := 75) (key := .s [69, 77, 73, 84]) (by kernel_rfl) rfl rfl rfl rfl (by kernel_rfl)) ?_
 refine z1 ?_
 refine Wc rfl rfl (doesCWv rfl rfl Tryz.func141 rfl rfl (mk_text [10] _)) ?_
 refine Wd rfl rfl (dI (e := 75) (key := .s [67, 82]) (by kernel_rfl) rfl rfl rfl rfl (by kernel_rfl)) ?_
 refine z1 ?_
 refine Wc rfl rfl (doesCWv rfl rfl Tryz.func141 rfl rfl (mk_text [32] _)) ?_
 refine Wd rfl rfl (dI (e := 75) (key := .s [83, 80, 65, 67, 69]) (by kernel_rfl) rfl rfl rfl rfl (by kernel_rfl)) ?_
 refine Wc rfl rfl (dC rfl Tryz.func138 rfl rfl ((mk_puts 1 144 [] (by simp)) _)) ?_
 refine Wd rfl rfl (dI (e := 75) (key := .s [83, 80, 65, 67, 69, 83]) (by kernel_rfl) rfl rfl rfl rfl (by kernel_rfl)) ?_
 refine Wc rfl rfl (dC rfl Tryz.func138 rfl rfl ((mk_puts 2 146 [] (by simp)) _)) ?_
 refine Wd rfl rfl (dI (e := 75) (key := .s [84, 89, 80, 69]) (by kernel_rfl) rfl rfl rfl rfl (by kernel_rfl)) ?_
 refine z1 ?_
 refine Wc rfl rfl (doesCWv rfl rfl Tryz.func137 rfl rfl (mk_number 148 [] (by simp) _)) ?_
 refine Wd rfl rfl (dI (e := 75) (key := .s [46]) (by kernel_rfl) rfl rfl rfl rfl (by kernel_rfl)) ?_
 refine z1 ?_
 refine Wc rfl rfl (doesCWv rfl rfl Tryz.func137 rfl rfl (mk_number 149 [] (by simp) _)) ?_
 refine Wd rfl rfl (dI (e := 75) (key := .s [85, 46]) (by kernel_rfl) rfl rfl rfl rfl (by kernel_rfl)) ?_
 refine z1 ?_
 refine WO_freezeM 15 _ rfl rfl rfl ?_
 refine zs1 ?_
 refine zR ?_
 rfl
def piK : List MKey := [.s [60, 35], .s [35], .s [35, 83], .s [72, 79, 76, 68], .s [83, 73, 71, 78], .s [35, 62]]
def piV : List PV := [deedP 0 152 [], deedP 2 154 [], deedP 2 156 [], deedP 1 151 [.row [fnP 158 []]], deedP 1 151 [.row [fnP 159 []]], deedP 2 160 []]
theorem flat_pi : Flat (.smap piK piV) := by
 unfold Flat piV
 simp
theorem prim_pics : PureC Tryz.prog 60 [] (.smap piK piV) := by
 refine pW tG (rs := [.tmp 0]) Tryz.func60 rfl rfl rfl (by simp; done) (by exact flat_pi) (fun B => ?_)
 refine zu1 ?_
 refine zu1 ?_
 refine z8 ?_
 refine Wd rfl rfl (does_makeMap rfl) ?_
 refine z1 ?_
 refine Wd rfl rfl (dI (e := 75) (key := .s [60, 35]) (by kernel_rfl) rfl rfl rfl rfl (by kernel_rfl)) ?_
 refine z1 ?_
 refine Wd rfl rfl (dI (e := 75) (key := .s [35]) (by kernel_rfl) rfl rfl rfl rfl (by kernel_rfl)) ?_
 refine z1 ?_
 refine Wd rfl rfl (dI (e := 75) (key := .s [35, 83]) (by kernel_rfl) rfl rfl rfl rfl (by kernel_rfl)) ?_
 refine z1 ?_
 refine Wc rfl rfl (doesCWv rfl rfl Tryz.func150 rfl rfl (mk_lay 158 [] (by simp) _)) ?_
 refine Wd rfl rfl (dI (e := 75) (key := .s [72, 79, 76, 68]) (by kernel_rfl) rfl rfl rfl rfl (by kernel_rfl)) ?_
 refine z1 ?_
 refine Wc rfl rfl (doesCWv rfl rfl Tryz.func150 rfl rfl (mk_lay 159 [] (by simp) _)) ?_
 refine Wd rfl rfl (dI (e := 75) (key := .s [83, 73, 71, 78]) (by kernel_rfl) rfl rfl rfl rfl (by kernel_rfl)) ?_
 refine z1 ?_
 refine Wd rfl rfl (dI (e := 75) (key := .s [35, 62]) (by kernel_rfl) rfl rfl rfl rfl (by kernel_rfl)) ?_
 refine z1 ?_
 refine WO_freezeM 11 _ rfl rfl rfl ?_
 refine zs1 ?_
 refine zR ?_
 rfl
def otK : List MKey := [.s [62, 66, 79, 68, 89], .s [65, 66, 79, 82, 84], .s [80, 79, 83, 84], .s [65, 70, 84, 69, 82], .s [69, 86, 69, 82, 89], .s [67, 65, 78, 67, 69, 76], .s [65, 82, 71], .s [83, 69, 76, 70], .s [78, 79, 87], .s [83, 69, 84, 45, 83, 84, 65, 84, 69], .s [65, 84, 45, 83, 84, 65, 84, 69], .s [71, 69, 84, 45, 83, 84, 65, 84, 69]]
def otV : List PV := [deedP 1 163 [], deedP 0 80 [.row [fnP 165 []]], deedP 3 244 [.row [i64 1], .row [i64 3]], deedP 4 244 [.row [i64 2], .row [i64 4]], deedP 4 244 [.row [i64 3], .row [i64 4]], deedP 1 244 [.row [i64 4], .row [i64 1]], deedP 0 223 [.row [fnP 167 []]], deedP 0 223 [.row [fnP 168 []]], deedP 0 223 [.row [fnP 169 []]], deedP 2 170 [], deedP 3 172 [], deedP 1 216 [.row [fnP 105 []]]]
theorem flat_ot : Flat (.smap otK otV) := by
 unfold Flat otV
 simp
theorem prim_others : PureC Tryz.prog 61 [] (.smap otK otV) := by
 refine pW tG (rs := [.tmp 0]) Tryz.func61 rfl rfl rfl (by simp; done) (by exact flat_ot) (fun B => ?_)
 refine zu1 ?_
 refine z8 ?_
 refine Wd rfl rfl (does_makeMap rfl) ?_
 refine z1 ?_
 refine Wd rfl rfl (dI (e := 75) (key := .s [62, 66, 79, 68, 89]) (by kernel_rfl) rfl rfl rfl rfl (by kernel_rfl)) ?_
 refine Wc rfl rfl (dC rfl Tryz.func50 rfl rfl ((mk_pure 0 165 [] (by simp)) _)) ?_
 refine Wd rfl rfl (dI (e := 75) (key := .s [65, 66, 79, 82, 84]) (by kernel_rfl) rfl rfl rfl rfl (by kernel_rfl)) ?_
 refine Wc rfl rfl (dC rfl Tryz.func166 rfl rfl ((mk_asks1) _)) ?_
 refine Wd rfl rfl (dI (e := 75) (key := .s [80, 79, 83, 84]) (by kernel_rfl) rfl rfl rfl rfl (by kernel_rfl)) ?_
 refine Wc rfl rfl (dC rfl Tryz.func166 rfl rfl ((mk_asks2) _)) ?_
 refine Wd rfl rfl (dI (e := 75) (key := .s [65, 70, 84, 69, 82]) (by kernel_rfl) rfl rfl rfl rfl (by kernel_rfl)) ?_
 refine Wc rfl rfl (dC rfl Tryz.func166 rfl rfl ((mk_asks3) _)) ?_
 refine Wd rfl rfl (dI (e := 75) (key := .s [69, 86, 69, 82, 89]) (by kernel_rfl) rfl rfl rfl rfl (by kernel_rfl)) ?_
 refine Wc rfl rfl (dC rfl Tryz.func166 rfl rfl ((mk_asks4) _)) ?_
 refine Wd rfl rfl (dI (e := 75) (key := .s [67, 65, 78, 67, 69, 76]) (by kernel_rfl) rfl rfl rfl rfl (by kernel_rfl)) ?_
 refine Wc rfl rfl (dC rfl Tryz.func124 rfl rfl ((mk_shown 167 [] (by simp)) _)) ?_
 refine Wd rfl rfl (dI (e := 75) (key := .s [65, 82, 71]) (by kernel_rfl) rfl rfl rfl rfl (by kernel_rfl)) ?_
 refine Wc rfl rfl (dC rfl Tryz.func124 rfl rfl ((mk_shown 168 [] (by simp)) _)) ?_
 refine Wd rfl rfl (dI (e := 75) (key := .s [83, 69, 76, 70]) (by kernel_rfl) rfl rfl rfl rfl (by kernel_rfl)) ?_
 refine Wc rfl rfl (dC rfl Tryz.func124 rfl rfl ((mk_shown 169 [] (by simp)) _)) ?_
 refine Wd rfl rfl (dI (e := 75) (key := .s [78, 79, 87]) (by kernel_rfl) rfl rfl rfl rfl (by kernel_rfl)) ?_
 refine z1 ?_
 refine Wd rfl rfl (dI (e := 75) (key := .s [83, 69, 84, 45, 83, 84, 65, 84, 69]) (by kernel_rfl) rfl rfl rfl rfl (by kernel_rfl)) ?_
 refine z1 ?_
 refine Wd rfl rfl (dI (e := 75) (key := .s [65, 84, 45, 83, 84, 65, 84, 69]) (by kernel_rfl) rfl rfl rfl rfl (by kernel_rfl)) ?_
 refine Wc rfl rfl (dC rfl Tryz.func104 rfl rfl ((mk_fetches 105 [] (by simp)) _)) ?_
 refine Wd rfl rfl (dI (e := 75) (key := .s [71, 69, 84, 45, 83, 84, 65, 84, 69]) (by kernel_rfl) rfl rfl rfl rfl (by kernel_rfl)) ?_
 refine z1 ?_
 refine WO_freezeM 14 _ rfl rfl rfl ?_
 refine zs1 ?_
 refine zR ?_
 rfl
abbrev zDeed : PV := .agg [i64 0, .val .nilFunc]
theorem found_rk (n : Int) (name : Str) (k : Int) (f : FuncId) (cap : List PV) (hn : 72 < n) (hc : FlatL cap)  (h0 : lkPV rkK rkV (.s name) zDeed = (deedP k f cap, true)) : PureC Tryz.prog 27 [i64 n, str name] (deedP k f cap) := by
 refine pW tG (rs := [.cell 4 75]) Tryz.func27 rfl rfl rfl (by simp [hc]) (by simp [hc]) (fun B => ?_)
 refine zu2 ?_
 refine Ws ?_
 refine Wl ?_
 refine zu3 ?_
 refine Wf rfl (by exact decide_eq_false (by omega)) ?_
 refine zu3 ?_
 refine Wf rfl (by exact decide_eq_false (by omega)) ?_
 refine Wj ?_
 refine Ws ?_
 refine z8 ?_
 refine Wc rfl rfl (dC rfl Tryz.func56 rfl rfl ((prim_reckons) _)) ?_
 refine Wc rfl rfl (dC rfl Tryz.func57 rfl rfl ((prim_memories) _)) ?_
 refine Wc rfl rfl (dC rfl Tryz.func58 rfl rfl ((prim_spaces) _)) ?_
 refine Wc rfl rfl (dC rfl Tryz.func59 rfl rfl ((prim_prints) _)) ?_
 refine Wc rfl rfl (dC rfl Tryz.func60 rfl rfl ((prim_pics) _)) ?_
 refine zs2 ?_
 refine Wl ?_
 refine W_rounds 7 ?_
 show W _ _ _ _ _ _ _
 refine zu1 ?_
 refine Ws ?_
 refine Wt rfl (by rfl) ?_
 refine Wj ?_
 refine Ws ?_
 refine Wl ?_
 refine z8 ?_
 refine z2 ?_ (q := (by decide))
 refine zs1 ?_
 refine zp2 ?_
 refine Wd rfl rfl (does_lookup (b := true) (e := 75) (key := .s name) (by kernel_rfl) (lO tG rfl) (by kernel_rfl) rfl rfl rfl rfl (by kernel_rfl) ((by exact h0))) ?_
 refine zy5 ?_
 refine zs1 ?_
 refine zu1 ?_
 refine Wt rfl (by rfl) ?_
 refine zu2 ?_
 refine zR ?_
 rfl
theorem found_me (n : Int) (name : Str) (k : Int) (f : FuncId) (cap : List PV) (hn : 72 < n) (hc : FlatL cap) (h0 : lkPV rkK rkV (.s name) zDeed = (zDeed, false)) (h1 : lkPV meK meV (.s name) zDeed = (deedP k f cap, true)) : PureC Tryz.prog 27 [i64 n, str name] (deedP k f cap) := by
 refine pW tG (rs := [.cell 4 75]) Tryz.func27 rfl rfl rfl (by simp [hc]) (by simp [hc]) (fun B => ?_)
 refine zu2 ?_
 refine Ws ?_
 refine Wl ?_
 refine zu3 ?_
 refine Wf rfl (by exact decide_eq_false (by omega)) ?_
 refine zu3 ?_
 refine Wf rfl (by exact decide_eq_false (by omega)) ?_
 refine Wj ?_
 refine Ws ?_
 refine z8 ?_
 refine Wc rfl rfl (dC rfl Tryz.func56 rfl rfl ((prim_reckons) _)) ?_
 refine Wc rfl rfl (dC rfl Tryz.func57 rfl rfl ((prim_memories) _)) ?_
 refine Wc rfl rfl (dC rfl Tryz.func58 rfl rfl ((prim_spaces) _)) ?_
 refine Wc rfl rfl (dC rfl Tryz.func59 rfl rfl ((prim_prints) _)) ?_
 refine Wc rfl rfl (dC rfl Tryz.func60 rfl rfl ((prim_pics) _)) ?_
 refine zs2 ?_
 refine Wl ?_
 refine W_rounds 7 ?_
 show W _ _ _ _ _ _ _
 refine zu1 ?_
 refine Ws ?_
 refine Wt rfl (by rfl) ?_
 refine Wj ?_
 refine Ws ?_
 refine Wl ?_
 refine z8 ?_
 refine z2 ?_ (q := (by decide))
 refine zs1 ?_
 refine zp2 ?_
 refine Wd rfl rfl (does_lookup (b := true) (e := 75) (key := .s name) (by kernel_rfl) (lO tG rfl) (by kernel_rfl) rfl rfl rfl rfl (by kernel_rfl) ((by exact h0))) ?_
 refine zy5 ?_
 refine zs1 ?_
 refine zu1 ?_
 refine Wf rfl (by rfl) ?_
 refine Wj ?_
 refine W_region rfl ?_
 refine z1 ?_
 refine Wa 36 rfl (show _ = PV.val (.int .i64 1) from rfl) ?_
 refine zs1 ?_
 show W _ _ _ _ _ _ _
 refine zu1 ?_
 refine Ws ?_
 refine Wt rfl (by rfl) ?_
 refine Wj ?_
 refine Ws ?_
 refine Wl ?_
 refine z8 ?_
 refine z2 ?_ (q := (by decide))
 refine zs1 ?_
 refine zp2 ?_
 refine Wd rfl rfl (does_lookup (b := true) (e := 75) (key := .s name) (by kernel_rfl) (lO tG rfl) (by kernel_rfl) rfl rfl rfl rfl (by kernel_rfl) ((by exact h1))) ?_
 refine zy5 ?_
 refine zs1 ?_
 refine zu1 ?_
 refine Wt rfl (by rfl) ?_
 refine zu2 ?_
 refine zR ?_
 rfl
theorem found_sp (n : Int) (name : Str) (k : Int) (f : FuncId) (cap : List PV) (hn : 72 < n) (hc : FlatL cap) (h0 : lkPV rkK rkV (.s name) zDeed = (zDeed, false)) (h1 : lkPV meK meV (.s name) zDeed = (zDeed, false)) (h2 : lkPV spK spV (.s name) zDeed = (deedP k f cap, true)) : PureC Tryz.prog 27 [i64 n, str name] (deedP k f cap) := by
 refine pW tG (rs := [.cell 4 75]) Tryz.func27 rfl rfl rfl (by simp [hc]) (by simp [hc]) (fun B => ?_)
 refine zu2 ?_
 refine Ws ?_
 refine Wl ?_
 refine zu3 ?_
 refine Wf rfl (by exact decide_eq_false (by omega)) ?_
 refine zu3 ?_
 refine Wf rfl (by exact decide_eq_false (by omega)) ?_
 refine Wj ?_
 refine Ws ?_
 refine z8 ?_
 refine Wc rfl rfl (dC rfl Tryz.func56 rfl rfl ((prim_reckons) _)) ?_
 refine Wc rfl rfl (dC rfl Tryz.func57 rfl rfl ((prim_memories) _)) ?_
 refine Wc rfl rfl (dC rfl Tryz.func58 rfl rfl ((prim_spaces) _)) ?_
 refine Wc rfl rfl (dC rfl Tryz.func59 rfl rfl ((prim_prints) _)) ?_
 refine Wc rfl rfl (dC rfl Tryz.func60 rfl rfl ((prim_pics) _)) ?_
 refine zs2 ?_
 refine Wl ?_
 refine W_rounds 7 ?_
 show W _ _ _ _ _ _ _
 refine zu1 ?_
 refine Ws ?_
 refine Wt rfl (by rfl) ?_
 refine Wj ?_
 refine Ws ?_
 refine Wl ?_
 refine z8 ?_
 refine z2 ?_ (q := (by decide))
 refine zs1 ?_
 refine zp2 ?_
 refine Wd rfl rfl (does_lookup (b := true) (e := 75) (key := .s name) (by kernel_rfl) (lO tG rfl) (by kernel_rfl) rfl rfl rfl rfl (by kernel_rfl) ((by exact h0))) ?_
 refine zy5 ?_
 refine zs1 ?_
 refine zu1 ?_
 refine Wf rfl (by rfl) ?_
 refine Wj ?_
 refine W_region rfl ?_
 refine z1 ?_
 refine Wa 36 rfl (show _ = PV.val (.int .i64 1) from rfl) ?_
 refine zs1 ?_
 show W _ _ _ _ _ _ _
 refine zu1 ?_
 refine Ws ?_
 refine Wt rfl (by rfl) ?_
 refine Wj ?_
 refine Ws ?_
 refine Wl ?_
 refine z8 ?_
 refine z2 ?_ (q := (by decide))
 refine zs1 ?_
 refine zp2 ?_
 refine Wd rfl rfl (does_lookup (b := true) (e := 75) (key := .s name) (by kernel_rfl) (lO tG rfl) (by kernel_rfl) rfl rfl rfl rfl (by kernel_rfl) ((by exact h1))) ?_
 refine zy5 ?_
 refine zs1 ?_
 refine zu1 ?_
 refine Wf rfl (by rfl) ?_
 refine Wj ?_
 refine W_region rfl ?_
 refine z1 ?_
 refine Wa 36 rfl (show _ = PV.val (.int .i64 2) from rfl) ?_
 refine zs1 ?_
 show W _ _ _ _ _ _ _
 refine zu1 ?_
 refine Ws ?_
 refine Wt rfl (by rfl) ?_
 refine Wj ?_
 refine Ws ?_
 refine Wl ?_
 refine z8 ?_
 refine z2 ?_ (q := (by decide))
 refine zs1 ?_
 refine zp2 ?_
 refine Wd rfl rfl (does_lookup (b := true) (e := 75) (key := .s name) (by kernel_rfl) (lO tG rfl) (by kernel_rfl) rfl rfl rfl rfl (by kernel_rfl) ((by exact h2))) ?_
 refine zy5 ?_
 refine zs1 ?_
 refine zu1 ?_
 refine Wt rfl (by rfl) ?_
 refine zu2 ?_
 refine zR ?_
 rfl
theorem found_pr (n : Int) (name : Str) (k : Int) (f : FuncId) (cap : List PV) (hn : 72 < n) (hc : FlatL cap) (h0 : lkPV rkK rkV (.s name) zDeed = (zDeed, false)) (h1 : lkPV meK meV (.s name) zDeed = (zDeed, false)) (h2 : lkPV spK spV (.s name) zDeed = (zDeed, false)) (h3 : lkPV prK prV (.s name) zDeed = (deedP k f cap, true)) : PureC Tryz.prog 27 [i64 n, str name] (deedP k f cap) := by
 refine pW tG (rs := [.cell 4 75]) Tryz.func27 rfl rfl rfl (by simp [hc]) (by simp [hc]) (fun B => ?_)
 refine zu2 ?_
 refine Ws ?_
 refine Wl ?_
 refine zu3 ?_
 refine Wf rfl (by exact decide_eq_false (by omega)) ?_
 refine zu3 ?_
 refine Wf rfl (by exact decide_eq_false (by omega)) ?_
 refine Wj ?_
 refine Ws ?_
 refine z8 ?_
 refine Wc rfl rfl (dC rfl Tryz.func56 rfl rfl ((prim_reckons) _)) ?_
 refine Wc rfl rfl (dC rfl Tryz.func57 rfl rfl ((prim_memories) _)) ?_
 refine Wc rfl rfl (dC rfl Tryz.func58 rfl rfl ((prim_spaces) _)) ?_
 refine Wc rfl rfl (dC rfl Tryz.func59 rfl rfl ((prim_prints) _)) ?_
 refine Wc rfl rfl (dC rfl Tryz.func60 rfl rfl ((prim_pics) _)) ?_
 refine zs2 ?_
 refine Wl ?_
 refine W_rounds 7 ?_
 show W _ _ _ _ _ _ _
 refine zu1 ?_
 refine Ws ?_
 refine Wt rfl (by rfl) ?_
 refine Wj ?_
 refine Ws ?_
 refine Wl ?_
 refine z8 ?_
 refine z2 ?_ (q := (by decide))
 refine zs1 ?_
 refine zp2 ?_
 refine Wd rfl rfl (does_lookup (b := true) (e := 75) (key := .s name) (by kernel_rfl) (lO tG rfl) (by kernel_rfl) rfl rfl rfl rfl (by kernel_rfl) ((by exact h0))) ?_
 refine zy5 ?_
 refine zs1 ?_
 refine zu1 ?_
 refine Wf rfl (by rfl) ?_
 refine Wj ?_
 refine W_region rfl ?_
 refine z1 ?_
 refine Wa 36 rfl (show _ = PV.val (.int .i64 1) from rfl) ?_
 refine zs1 ?_
 show W _ _ _ _ _ _ _
 refine zu1 ?_
 refine Ws ?_
 refine Wt rfl (by rfl) ?_
 refine Wj ?_
 refine Ws ?_
 refine Wl ?_
 refine z8 ?_
 refine z2 ?_ (q := (by decide))
 refine zs1 ?_
 refine zp2 ?_
 refine Wd rfl rfl (does_lookup (b := true) (e := 75) (key := .s name) (by kernel_rfl) (lO tG rfl) (by kernel_rfl) rfl rfl rfl rfl (by kernel_rfl) ((by exact h1))) ?_
 refine zy5 ?_
 refine zs1 ?_
 refine zu1 ?_
 refine Wf rfl (by rfl) ?_
 refine Wj ?_
 refine W_region rfl ?_
 refine z1 ?_
 refine Wa 36 rfl (show _ = PV.val (.int .i64 2) from rfl) ?_
 refine zs1 ?_
 show W _ _ _ _ _ _ _
 refine zu1 ?_
 refine Ws ?_
 refine Wt rfl (by rfl) ?_
 refine Wj ?_
 refine Ws ?_
 refine Wl ?_
 refine z8 ?_
 refine z2 ?_ (q := (by decide))
 refine zs1 ?_
 refine zp2 ?_
 refine Wd rfl rfl (does_lookup (b := true) (e := 75) (key := .s name) (by kernel_rfl) (lO tG rfl) (by kernel_rfl) rfl rfl rfl rfl (by kernel_rfl) ((by exact h2))) ?_
 refine zy5 ?_
 refine zs1 ?_
 refine zu1 ?_
 refine Wf rfl (by rfl) ?_
 refine Wj ?_
 refine W_region rfl ?_
 refine z1 ?_
 refine Wa 36 rfl (show _ = PV.val (.int .i64 3) from rfl) ?_
 refine zs1 ?_
 show W _ _ _ _ _ _ _
 refine zu1 ?_
 refine Ws ?_
 refine Wt rfl (by rfl) ?_
 refine Wj ?_
 refine Ws ?_
 refine Wl ?_
 refine z8 ?_
 refine z2 ?_ (q := (by decide))
 refine zs1 ?_
 refine zp2 ?_
 refine Wd rfl rfl (does_lookup (b := true) (e := 75) (key := .s name) (by kernel_rfl) (lO tG rfl) (by kernel_rfl) rfl rfl rfl rfl (by kernel_rfl) ((by exact h3))) ?_
 refine zy5 ?_
 refine zs1 ?_
 refine zu1 ?_
 refine Wt rfl (by rfl) ?_
 refine zu2 ?_
 refine zR ?_
 rfl
theorem found_pi (n : Int) (name : Str) (k : Int) (f : FuncId) (cap : List PV) (hn : 72 < n) (hc : FlatL cap) (h0 : lkPV rkK rkV (.s name) zDeed = (zDeed, false)) (h1 : lkPV meK meV (.s name) zDeed = (zDeed, false)) (h2 : lkPV spK spV (.s name) zDeed = (zDeed, false)) (h3 : lkPV prK prV (.s name) zDeed = (zDeed, false)) (h4 : lkPV piK piV (.s name) zDeed = (deedP k f cap, true)) : PureC Tryz.prog 27 [i64 n, str name] (deedP k f cap) := by
 refine pW tG (rs := [.cell 4 75]) Tryz.func27 rfl rfl rfl (by simp [hc]) (by simp [hc]) (fun B => ?_)
 refine zu2 ?_
 refine Ws ?_
 refine Wl ?_
 refine zu3 ?_
 refine Wf rfl (by exact decide_eq_false (by omega)) ?_
 refine zu3 ?_
 refine Wf rfl (by exact decide_eq_false (by omega)) ?_
 refine Wj ?_
 refine Ws ?_
 refine z8 ?_
 refine Wc rfl rfl (dC rfl Tryz.func56 rfl rfl ((prim_reckons) _)) ?_
 refine Wc rfl rfl (dC rfl Tryz.func57 rfl rfl ((prim_memories) _)) ?_
 refine Wc rfl rfl (dC rfl Tryz.func58 rfl rfl ((prim_spaces) _)) ?_
 refine Wc rfl rfl (dC rfl Tryz.func59 rfl rfl ((prim_prints) _)) ?_
 refine Wc rfl rfl (dC rfl Tryz.func60 rfl rfl ((prim_pics) _)) ?_
 refine zs2 ?_
 refine Wl ?_
 refine W_rounds 7 ?_
 show W _ _ _ _ _ _ _
 refine zu1 ?_
 refine Ws ?_
 refine Wt rfl (by rfl) ?_
 refine Wj ?_
 refine Ws ?_
 refine Wl ?_
 refine z8 ?_
 refine z2 ?_ (q := (by decide))
 refine zs1 ?_
 refine zp2 ?_
 refine Wd rfl rfl (does_lookup (b := true) (e := 75) (key := .s name) (by kernel_rfl) (lO tG rfl) (by kernel_rfl) rfl rfl rfl rfl (by kernel_rfl) ((by exact h0))) ?_
 refine zy5 ?_
 refine zs1 ?_
 refine zu1 ?_
 refine Wf rfl (by rfl) ?_
 refine Wj ?_
 refine W_region rfl ?_
 refine z1 ?_
 refine Wa 36 rfl (show _ = PV.val (.int .i64 1) from rfl) ?_
 refine zs1 ?_
 show W _ _ _ _ _ _ _
 refine zu1 ?_
 refine Ws ?_
 refine Wt rfl (by rfl) ?_
 refine Wj ?_
 refine Ws ?_
 refine Wl ?_
 refine z8 ?_
 refine z2 ?_ (q := (by decide))
 refine zs1 ?_
 refine zp2 ?_
 refine Wd rfl rfl (does_lookup (b := true) (e := 75) (key := .s name) (by kernel_rfl) (lO tG rfl) (by kernel_rfl) rfl rfl rfl rfl (by kernel_rfl) ((by exact h1))) ?_
 refine zy5 ?_
 refine zs1 ?_
 refine zu1 ?_
 refine Wf rfl (by rfl) ?_
 refine Wj ?_
 refine W_region rfl ?_
 refine z1 ?_
 refine Wa 36 rfl (show _ = PV.val (.int .i64 2) from rfl) ?_
 refine zs1 ?_
 show W _ _ _ _ _ _ _
 refine zu1 ?_
 refine Ws ?_
 refine Wt rfl (by rfl) ?_
 refine Wj ?_
 refine Ws ?_
 refine Wl ?_
 refine z8 ?_
 refine z2 ?_ (q := (by decide))
 refine zs1 ?_
 refine zp2 ?_
 refine Wd rfl rfl (does_lookup (b := true) (e := 75) (key := .s name) (by kernel_rfl) (lO tG rfl) (by kernel_rfl) rfl rfl rfl rfl (by kernel_rfl) ((by exact h2))) ?_
 refine zy5 ?_
 refine zs1 ?_
 refine zu1 ?_
 refine Wf rfl (by rfl) ?_
 refine Wj ?_
 refine W_region rfl ?_
 refine z1 ?_
 refine Wa 36 rfl (show _ = PV.val (.int .i64 3) from rfl) ?_
 refine zs1 ?_
 show W _ _ _ _ _ _ _
 refine zu1 ?_
 refine Ws ?_
 refine Wt rfl (by rfl) ?_
 refine Wj ?_
 refine Ws ?_
 refine Wl ?_
 refine z8 ?_
 refine z2 ?_ (q := (by decide))
 refine zs1 ?_
 refine zp2 ?_
 refine Wd rfl rfl (does_lookup (b := true) (e := 75) (key := .s name) (by kernel_rfl) (lO tG rfl) (by kernel_rfl) rfl rfl rfl rfl (by kernel_rfl) ((by exact h3))) ?_
 refine zy5 ?_
 refine zs1 ?_
 refine zu1 ?_
 refine Wf rfl (by rfl) ?_
 refine Wj ?_
 refine W_region rfl ?_
 refine z1 ?_
 refine Wa 36 rfl (show _ = PV.val (.int .i64 4) from rfl) ?_
 refine zs1 ?_
 show W _ _ _ _ _ _ _
 refine zu1 ?_
 refine Ws ?_
 refine Wt rfl (by rfl) ?_
 refine Wj ?_
 refine Ws ?_
 refine Wl ?_
 refine z8 ?_
 refine z2 ?_ (q := (by decide))
 refine zs1 ?_
 refine zp2 ?_
 refine Wd rfl rfl (does_lookup (b := true) (e := 75) (key := .s name) (by kernel_rfl) (lO tG rfl) (by kernel_rfl) rfl rfl rfl rfl (by kernel_rfl) ((by exact h4))) ?_
 refine zy5 ?_
 refine zs1 ?_
 refine zu1 ?_
 refine Wt rfl (by rfl) ?_
 refine zu2 ?_
 refine zR ?_
 rfl
theorem found_ot (n : Int) (name : Str) (k : Int) (f : FuncId) (cap : List PV) (hn : 72 < n) (hc : FlatL cap) (h0 : lkPV rkK rkV (.s name) zDeed = (zDeed, false)) (h1 : lkPV meK meV (.s name) zDeed = (zDeed, false)) (h2 : lkPV spK spV (.s name) zDeed = (zDeed, false)) (h3 : lkPV prK prV (.s name) zDeed = (zDeed, false)) (h4 : lkPV piK piV (.s name) zDeed = (zDeed, false)) (h5 : lkPV otK otV (.s name) zDeed = (deedP k f cap, true)) : PureC Tryz.prog 27 [i64 n, str name] (deedP k f cap) := by
 refine pW tG (rs := [.cell 4 75]) Tryz.func27 rfl rfl rfl (by simp [hc]) (by simp [hc]) (fun B => ?_)
 refine zu2 ?_
 refine Ws ?_
 refine Wl ?_
 refine zu3 ?_
 refine Wf rfl (by exact decide_eq_false (by omega)) ?_
 refine zu3 ?_
 refine Wf rfl (by exact decide_eq_false (by omega)) ?_
 refine Wj ?_
 refine Ws ?_
 refine z8 ?_
 refine Wc rfl rfl (dC rfl Tryz.func56 rfl rfl ((prim_reckons) _)) ?_
 refine Wc rfl rfl (dC rfl Tryz.func57 rfl rfl ((prim_memories) _)) ?_
 refine Wc rfl rfl (dC rfl Tryz.func58 rfl rfl ((prim_spaces) _)) ?_
 refine Wc rfl rfl (dC rfl Tryz.func59 rfl rfl ((prim_prints) _)) ?_
 refine Wc rfl rfl (dC rfl Tryz.func60 rfl rfl ((prim_pics) _)) ?_
 refine zs2 ?_
 refine Wl ?_
 refine W_rounds 7 ?_
 show W _ _ _ _ _ _ _
 refine zu1 ?_
 refine Ws ?_
 refine Wt rfl (by rfl) ?_
 refine Wj ?_
 refine Ws ?_
 refine Wl ?_
 refine z8 ?_
 refine z2 ?_ (q := (by decide))
 refine zs1 ?_
 refine zp2 ?_
 refine Wd rfl rfl (does_lookup (b := true) (e := 75) (key := .s name) (by kernel_rfl) (lO tG rfl) (by kernel_rfl) rfl rfl rfl rfl (by kernel_rfl) ((by exact h0))) ?_
 refine zy5 ?_
 refine zs1 ?_
 refine zu1 ?_
 refine Wf rfl (by rfl) ?_
 refine Wj ?_
 refine W_region rfl ?_
 refine z1 ?_
 refine Wa 36 rfl (show _ = PV.val (.int .i64 1) from rfl) ?_
 refine zs1 ?_
 show W _ _ _ _ _ _ _
 refine zu1 ?_
 refine Ws ?_
 refine Wt rfl (by rfl) ?_
 refine Wj ?_
 refine Ws ?_
 refine Wl ?_
 refine z8 ?_
 refine z2 ?_ (q := (by decide))
 refine zs1 ?_
 refine zp2 ?_
 refine Wd rfl rfl (does_lookup (b := true) (e := 75) (key := .s name) (by kernel_rfl) (lO tG rfl) (by kernel_rfl) rfl rfl rfl rfl (by kernel_rfl) ((by exact h1))) ?_
 refine zy5 ?_
 refine zs1 ?_
 refine zu1 ?_
 refine Wf rfl (by rfl) ?_
 refine Wj ?_
 refine W_region rfl ?_
 refine z1 ?_
 refine Wa 36 rfl (show _ = PV.val (.int .i64 2) from rfl) ?_
 refine zs1 ?_
 show W _ _ _ _ _ _ _
 refine zu1 ?_
 refine Ws ?_
 refine Wt rfl (by rfl) ?_
 refine Wj ?_
 refine Ws ?_
 refine Wl ?_
 refine z8 ?_
 refine z2 ?_ (q := (by decide))
 refine zs1 ?_
 refine zp2 ?_
 refine Wd rfl rfl (does_lookup (b := true) (e := 75) (key := .s name) (by kernel_rfl) (lO tG rfl) (by kernel_rfl) rfl rfl rfl rfl (by kernel_rfl) ((by exact h2))) ?_
 refine zy5 ?_
 refine zs1 ?_
 refine zu1 ?_
 refine Wf rfl (by rfl) ?_
 refine Wj ?_
 refine W_region rfl ?_
 refine z1 ?_
 refine Wa 36 rfl (show _ = PV.val (.int .i64 3) from rfl) ?_
 refine zs1 ?_
 show W _ _ _ _ _ _ _
 refine zu1 ?_
 refine Ws ?_
 refine Wt rfl (by rfl) ?_
 refine Wj ?_
 refine Ws ?_
 refine Wl ?_
 refine z8 ?_
 refine z2 ?_ (q := (by decide))
 refine zs1 ?_
 refine zp2 ?_
 refine Wd rfl rfl (does_lookup (b := true) (e := 75) (key := .s name) (by kernel_rfl) (lO tG rfl) (by kernel_rfl) rfl rfl rfl rfl (by kernel_rfl) ((by exact h3))) ?_
 refine zy5 ?_
 refine zs1 ?_
 refine zu1 ?_
 refine Wf rfl (by rfl) ?_
 refine Wj ?_
 refine W_region rfl ?_
 refine z1 ?_
 refine Wa 36 rfl (show _ = PV.val (.int .i64 4) from rfl) ?_
 refine zs1 ?_
 show W _ _ _ _ _ _ _
 refine zu1 ?_
 refine Ws ?_
 refine Wt rfl (by rfl) ?_
 refine Wj ?_
 refine Ws ?_
 refine Wl ?_
 refine z8 ?_
 refine z2 ?_ (q := (by decide))
 refine zs1 ?_
 refine zp2 ?_
 refine Wd rfl rfl (does_lookup (b := true) (e := 75) (key := .s name) (by kernel_rfl) (lO tG rfl) (by kernel_rfl) rfl rfl rfl rfl (by kernel_rfl) ((by exact h4))) ?_
 refine zy5 ?_
 refine zs1 ?_
 refine zu1 ?_
 refine Wf rfl (by rfl) ?_
 refine Wj ?_
 refine W_region rfl ?_
 refine z1 ?_
 refine Wa 36 rfl (show _ = PV.val (.int .i64 5) from rfl) ?_
 refine zs1 ?_
 show W _ _ _ _ _ _ _
 refine zu1 ?_
 refine Ws ?_
 refine Wf rfl (by rfl) ?_
 refine W_exit ?_
 refine Ws ?_
 refine W_drawU [0, 1, 0, 3] [0, 1, 2, 3] mG rfl (by kernel_rfl) ?_
 refine Xc rfl rfl rfl rfl (fun _ => dC rfl Tryz.func61 rfl rfl ((prim_others) _)) ?_
 refine z5 ?_
 refine WU_does0 rfl rfl rfl rfl (fun _ => does_lookup (b := false) (e := 75) (key := .s name) (by kernel_rfl) (lO tG rfl) (by kernel_rfl) rfl rfl rfl rfl (by kernel_rfl) ((by exact h5))) ?_
 refine WU_ev3 tG rfl rfl rfl rfl rfl trivial ?_
 refine WU_nil ?_
 refine zR ?_
 rfl
end Go.Proofs.YtphgdofmjpdhaaaGreat
namespace Go.Proofs.YtphgdofmjpdhaaaGreat
open Go.RowKit
set_option maxRecDepth 100000
set_option maxHeartbeats 4000000
theorem clone_new (l : List Int) (hl : l.length ≤ 1000000) : NewC Tryz.prog 28 [sq cInt l] l.length (l.flatMap cInt) 1 := by
 refine new_of_WR tG (rs := [.tmp 2]) Tryz.func28 rfl rfl rfl (by simp) (flatL_map' (fun x => by simp) _) (fun B => ?_)
 refine zp1 ?_
 refine WO_own 2 0 1 rfl rfl ?_
 refine Wn ?_
 refine Ws ?_
 refine zp1 ?_
 refine WO_nilS (lO tG rfl) rfl rfl rfl rfl rfl (fun bn1 hn1 => ?_)
 refine Wn ?_
 refine Wi rfl (fun hi1 => ?_) (fun hi1 => ?_)
 ·refine zp1 ?_
  refine WO_own 2 0 1 rfl rfl ?_
  refine Wn ?_
  refine Wq ?_
  exact leafN rfl (hn1 hi1).1.symm (hn1 hi1).2.symm rfl (by omega)
 ·refine Wj ?_
  refine zp2 ?_
  refine Wd rfl rfl (does_append_clip (lO tG rfl) rfl (lO tG rfl) (lO tG rfl) rfl rfl (by exact ⟨_, rfl⟩) (by exact ⟨rfl, rfl, flatMap_len _ 1 (fun _ => rfl) _, okC_flat _ (fun _ => rfl) _⟩) (by rfl) (by (dsimp only; omega)) (by (omega))) ?_
  refine Wa 7 rfl (sq_none cInt) ?_
  refine z1 ?_
  skip
  refine Wn ?_
  refine Wq ?_
  exact leafN rfl rfl rfl rfl (by show (0 + l.length) * 1 ≤ _; omega)
def stkDeep (s : List Int) (roll : Bool) (limit : Int) : List Int × Bool × Int :=
 if (stkPop s).2.2 ≠ 0 ∨ (stkPop s).1 < 0 ∨ ((stkPop s).2.1.length : Int) ≤ (stkPop s).1 then (s, true, -4) else
  if roll then stkLaid s ((stkPop s).1.toNat + 2) ((stkPop s).2.1.drop ((stkPop s).2.1.length - 1 - (stkPop s).1.toNat + 1) ++ [(stkPop s).2.1.getD ((stkPop s).2.1.length - 1 - (stkPop s).1.toNat) 0]) limit
  else stkLaid s 1 [(stkPop s).2.1.getD ((stkPop s).2.1.length - 1 - (stkPop s).1.toNat) 0] limit
theorem stkPop_len {s : List Int} (h : (stkPop s).2.2 = 0) : (stkPop s).2.1.length + 1 = s.length := by
 unfold stkPop at h ⊢
 split at h
 ·cases h
 ·rename_i h0
  rw [if_neg h0]
  simp only [List.length_take]; omega
theorem stk_deep (s : List Int) (roll : Bool) (limit : Int) (hs : s.length ≤ 100000) (hm : -9223372036854775808 ≤ limit ∧ limit ≤ 9223372036854775807) :
  PureC Tryz.prog 48 [sq cInt s, boo roll, i64 limit] (tStk (stkDeep s roll limit)) := by
 refine pW tG (rs := [.tmp 6, .tmp 7, .tmp 8]) Tryz.func48 rfl rfl rfl (by simp) (by simp) (fun B => ?_)
 refine zu3 ?_
 refine zp1 ?_
 refine Wc rfl rfl (dC rfl Tryz.func79 rfl rfl ((stk_Pop s hs) _)) ?_
 refine zy5 ?_
 refine zs2 ?_
 refine Ws ?_
 refine zp3 ?_
 refine Wb 21 rfl (fun hg1 => ?_) (fun hg1 => ?_)
 ·have h0 : (stkPop s).2.2 ≠ 0 := by simpa using hg1
  iterate 2 refine z6 ?_
  refine zy2 ?_
  iterate 4 refine z6 ?_
  refine zs1 ?_
  refine Wt rfl rfl ?_
  refine zu4 ?_
  refine zR ?_
  rw [stkDeep, if_pos (.inl h0)]; rfl
 ·have h0 : (stkPop s).2.2 = 0 := by simpa using hg1
  have hl := stkPop_len h0
  refine zy4 ?_
  refine Wb 25 rfl (fun hg2 => ?_) (fun hg2 => ?_)
  ·have h1 : (stkPop s).1 < 0 := by simpa using hg2
   iterate 4 refine z6 ?_
   refine zs1 ?_
   refine Wt rfl rfl ?_
   refine zu4 ?_
   refine zR ?_
   rw [stkDeep, if_pos (.inr (.inl h1))]; rfl
  ·have h1 : ¬ (stkPop s).1 < 0 := by simpa using hg2
   refine zs5 ?_
   refine Wi rfl (fun hi1 => ?_) (fun hi1 => ?_)
   ·have h2 : ((stkPop s).2.1.length : Int) ≤ (stkPop s).1 := by simpa using hi1
    refine zu4 ?_
    refine zR ?_
    rw [stkDeep, if_pos (.inr (.inr h2))]; rfl
   ·have h2 : ¬ ((stkPop s).2.1.length : Int) ≤ (stkPop s).1 := by simpa using hi1
    have hc : ¬ ((stkPop s).2.2 ≠ 0 ∨ (stkPop s).1 < 0 ∨ ((stkPop s).2.1.length : Int) ≤ (stkPop s).1) := by rintro (h | h | h) <;> contradiction
    have w1 : IntKind.i64.wrap (IntKind.i64.wrap (((stkPop s).2.1.length : Int) - 1) - (stkPop s).1) = (((stkPop s).2.1.length - 1 - (stkPop s).1.toNat : Nat) : Int) := by simp only [i64w]; unfold wrap64; omega
    have w2 : IntKind.i64.wrap ((((stkPop s).2.1.length - 1 - (stkPop s).1.toNat : Nat) : Int) + 1) = (((stkPop s).2.1.length - 1 - (stkPop s).1.toNat + 1 : Nat) : Int) := by simp only [i64w]; unfold wrap64; omega
    have w3 : IntKind.i64.wrap ((stkPop s).1 + 2) = (((stkPop s).1.toNat + 2 : Nat) : Int) := by simp only [i64w]; unfold wrap64; omega
    refine Wj ?_
    refine zp5 ?_
    refine Wa 36 rfl (congrArg (fun z => PV.val (Value.int .i64 z)) w1) ?_
    refine zs1 ?_
    refine Ws ?_
    refine zu1 ?_
    refine Wi rfl (fun hi2 => ?_) (fun hi2 => ?_)
    ·refine Ws ?_
     refine W_drawU [0, 0, 0, 0, 0, 0, 0, 2, 0, 0, 0, 0, 0, 3, 0, 0, 0, 0, 0, 0, 0, 0] [0, 1, 2, 3, 4, 5, 6, 8, 9, 10, 11, 12, 14, 7, 13, 15, 16, 17, 18, 19, 20, 21] mG rfl (by kernel_rfl) ?_
     iterate 3 refine z3 ?_
     refine Xa 40 rfl (congrArg (fun z => PV.val (Value.int .i64 z)) w3) ?_
     iterate 3 refine z3 ?_
     refine Xa 43 rfl (congrArg (fun z => PV.val (Value.int .i64 z)) w2) ?_
     refine z4 ?_ (q := (by (simp_all; omega)))
     refine Xa 44 rfl (sq_slice cInt 1 (fun _ => rfl) (by omega)) ?_
     refine Xa 44 rfl ((show _ = sq cInt ((stkPop s).2.1.drop ((stkPop s).2.1.length - 1 - (stkPop s).1.toNat + 1)) by rw [List.take_length, Int.toNat_natCast]; rfl)) ?_
     iterate 2 refine z3 ?_
     refine Xi tG rfl rfl rfl rfl (fun _ => rfl) (by omega) (iN cInt 1 (fun _ => rfl) 0 (by omega)) ?_
     iterate 2 refine z3 ?_
     refine Xa 50 rfl (bsL cInt [_] rfl rfl) ?_
     refine z3 ?_
     refine WU_call2 rfl rfl rfl rfl (dC rfl Tryz.func28 rfl rfl (clone_new _ (by simp; omega) _)) ?_
     refine WU_does3 rfl rfl rfl rfl (does_append_own (lO tG rfl) rfl (lO tG rfl) (lO tG rfl) rfl rfl rfl rfl (by simp) (by exact ⟨_, rfl⟩) (by exact ⟨rfl, rfl, flatMap_len _ 1 (fun _ => rfl) _, okC_flat _ (fun _ => rfl) _⟩) (by (simp; omega)) (by (simp; omega))) ?_
     refine Xa 51 rfl (sq_append cInt) ?_
     refine Xc rfl rfl rfl rfl (fun _ => dC rfl Tryz.func47 rfl rfl ((stk_laid s _ _ _ hs (by omega) (by simp; omega) hm) _)) ?_
     iterate 6 refine z3 ?_
     refine WU_nil ?_
     refine zR ?_
     rw [stkDeep, if_neg hc, if_pos hi2]; rfl
    ·refine Wj ?_
     refine zp3 ?_
     refine Wv tG rfl rfl rfl (by omega) (iN cInt 1 (fun _ => rfl) 0 (by omega)) ?_
     refine zy2 ?_
     refine Wa 62 rfl (bsL cInt [_] rfl rfl) ?_
     refine z1 ?_
     refine Wc rfl rfl (dC rfl Tryz.func47 rfl rfl ((stk_laid s 1 _ _ hs (by omega) (by simp) hm) _)) ?_
     refine zy5 ?_
     refine zs1 ?_
     refine zR ?_
     rw [stkDeep, if_neg hc, if_neg (by rw [hi2]; simp)]; rfl
end Go.Proofs.YtphgdofmjpdhaaaGreat
namespace Go.Proofs.YtphgdofmjpdhaaaGreat
open Go.RowKit
set_option maxRecDepth 100000
set_option maxHeartbeats 4000000
def shapeT : List (Str × Nat × Str) := [([68, 85, 80], 1, [97, 97]), ([68, 82, 79, 80], 1, []), ([83, 87, 65, 80], 2, [98, 97]), ([79, 86, 69, 82], 2, [97, 98, 97]), ([78, 73, 80], 2, [98]), ([84, 85, 67, 75], 2, [98, 97, 98]), ([82, 79, 84], 3, [98, 99, 97]), ([45, 82, 79, 84], 3, [99, 97, 98]), ([50, 68, 85, 80], 2, [97, 98, 97, 98]), ([50, 68, 82, 79, 80], 2, []), ([50, 83, 87, 65, 80], 4, [99, 100, 97, 98]), ([50, 79, 86, 69, 82], 4, [97, 98, 99, 100, 97, 98])]
def shapeK : List MKey := shapeT.map fun q => .s q.1
def shapeV : List PV := shapeT.map fun q => .agg [i64 q.2.1, str q.2.2]
theorem flat_shapes : Flat (.smap shapeK shapeV) := by
 unfold Flat shapeV
 exact flatL_map _ (fun q => by simp) _
theorem stk_shapes : PureC Tryz.prog 49 [] (.smap shapeK shapeV) := by
 refine pW tG (rs := [.tmp 0]) Tryz.func49 rfl rfl rfl (by simp; done) (by exact flat_shapes) (fun B => ?_)
 refine zu1 ?_
 refine z8 ?_
 refine Wd rfl rfl (does_makeMap rfl) ?_
 refine z1 ?_
 refine Wd rfl rfl (dI (e := 106) (key := .s [68, 85, 80]) (by kernel_rfl) rfl rfl rfl rfl (by kernel_rfl)) ?_
 refine z1 ?_
 refine Wd rfl rfl (dI (e := 106) (key := .s [68, 82, 79, 80]) (by kernel_rfl) rfl rfl rfl rfl (by kernel_rfl)) ?_
 refine z1 ?_
 refine Wd rfl rfl (dI (e := 106) (key := .s [83, 87, 65, 80]) (by kernel_rfl) rfl rfl rfl rfl (by kernel_rfl)) ?_
 refine z1 ?_
 refine Wd rfl rfl (dI (e := 106) (key := .s [79, 86, 69, 82]) (by kernel_rfl) rfl rfl rfl rfl (by kernel_rfl)) ?_
 refine z1 ?_
 refine Wd rfl rfl (dI (e := 106) (key := .s [78, 73, 80]) (by kernel_rfl) rfl rfl rfl rfl (by kernel_rfl)) ?_
 refine z1 ?_
 refine Wd rfl rfl (dI (e := 106) (key := .s [84, 85, 67, 75]) (by kernel_rfl) rfl rfl rfl rfl (by kernel_rfl)) ?_
 refine z1 ?_
 refine Wd rfl rfl (dI (e := 106) (key := .s [82, 79, 84]) (by kernel_rfl) rfl rfl rfl rfl (by kernel_rfl)) ?_
 refine z1 ?_
 refine Wd rfl rfl (dI (e := 106) (key := .s [45, 82, 79, 84]) (by kernel_rfl) rfl rfl rfl rfl (by kernel_rfl)) ?_
 refine z1 ?_
 refine Wd rfl rfl (dI (e := 106) (key := .s [50, 68, 85, 80]) (by kernel_rfl) rfl rfl rfl rfl (by kernel_rfl)) ?_
 refine z1 ?_
 refine Wd rfl rfl (dI (e := 106) (key := .s [50, 68, 82, 79, 80]) (by kernel_rfl) rfl rfl rfl rfl (by kernel_rfl)) ?_
 refine z1 ?_
 refine Wd rfl rfl (dI (e := 106) (key := .s [50, 83, 87, 65, 80]) (by kernel_rfl) rfl rfl rfl rfl (by kernel_rfl)) ?_
 refine z1 ?_
 refine Wd rfl rfl (dI (e := 106) (key := .s [50, 79, 86, 69, 82]) (by kernel_rfl) rfl rfl rfl rfl (by kernel_rfl)) ?_
 refine z1 ?_
 refine WO_freezeM 14 _ rfl rfl rfl ?_
 refine zs1 ?_
 refine zR ?_
 rfl
def shapeS (s : List Int) (tk : Nat) (lv : Str) (limit : Int) : List Int × Bool × Int :=
 if s.length < tk then (s, true, -4) else stkLaid s tk (lv.map fun c => (s.drop (s.length - tk)).getD (c.toNat - 97) 0) limit
theorem map_snoc_pv {lv : Str} {f : UInt8 → Int} {k : Nat} {q : SK} (hk : k < lv.length) : PV.seq ((lv.take k).map f ++ [f (lv.getD k 0)]).length (((lv.take k).map f ++ [f (lv.getD k 0)]).flatMap cInt) q = .seq ((lv.take (k + 1)).map f).length (((lv.take (k + 1)).map f).flatMap cInt) q := by
 rw [take_snoc' lv k 0 hk, List.map_append]; rfl
theorem stk_word (name : Str) (s : List Int) (limit : Int) (tk : Nat) (lv : Str) (hs : s.length ≤ 100000) (hm : -9223372036854775808 ≤ limit ∧ limit ≤ 9223372036854775807) (h1 : name ≠ [68, 69, 80, 84, 72]) (h2 : name ≠ [80, 73, 67, 75]) (h3 : name ≠ [82, 79, 76, 76]) (h4 : name ≠ [63, 68, 85, 80])
  (hk : lkPV shapeK shapeV (.s name) (.agg [i64 0, str []]) = (.agg [i64 tk, str lv], true)) (hl : ∀ c ∈ lv, 97 ≤ c.toNat ∧ c.toNat < 97 + tk) (hlen : lv.length ≤ 10) (htk : tk ≤ 4) :
  PureC Tryz.prog 26 [str name, sq cInt s, i64 limit] (tStk (shapeS s tk lv limit)) := by
 refine pW tG (rs := [.tmp 6, .tmp 7, .tmp 8]) Tryz.func26 rfl rfl rfl (by simp) (by simp) (fun B => ?_)
 refine zu3 ?_
 refine Ws ?_
 refine zu1 ?_
 refine Wl ?_
 refine zp1 ?_
 refine Wa 17 rfl (str_eql _ _) ?_
 refine zs1 ?_
 refine Wf rfl (by exact decide_eq_false h1) ?_
 refine Ws ?_
 refine zp1 ?_
 refine Wa 28 rfl (str_eql _ _) ?_
 refine zs1 ?_
 refine Wf rfl (by exact decide_eq_false h2) ?_
 refine W_region rfl ?_
 refine z1 ?_
 refine Wa 29 rfl (str_eql _ _) ?_
 refine zs1 ?_
 refine Wf rfl (by exact decide_eq_false h3) ?_
 refine Wj ?_
 refine z8 ?_
 refine Wc rfl rfl (dC rfl Tryz.func49 rfl rfl ((stk_shapes) _)) ?_
 refine z1 ?_
 refine Wd rfl rfl (does_lookup (b := true) (e := 106) (key := .s name) (by kernel_rfl) (lO tG rfl) (by kernel_rfl) rfl rfl rfl rfl (by kernel_rfl) (hk)) ?_
 refine zy5 ?_
 refine zs1 ?_
 refine Ws ?_
 refine zp2 ?_
 refine Wa 45 rfl (str_eql _ _) ?_
 refine Wn ?_
 refine Wf rfl (by exact decide_eq_false h4) ?_
 refine Wj ?_
 refine Ws ?_
 refine zu2 ?_
 refine Wf rfl (by rfl) ?_
 refine Wj ?_
 refine Ws ?_
 refine zu5 ?_
 refine Wi rfl (fun hi6 => ?_) (fun hi6 => ?_)
 ·have h0 : s.length < tk := by (try simp only [dnL] at *); omega
  refine zu4 ?_
  refine zR ?_
  rw [shapeS, if_pos h0]; rfl
 ·have h0 : ¬ s.length < tk := by (try simp only [dnL] at *); omega
  have w1 : IntKind.i64.wrap ((s.length : Int) - (tk : Int)) = ((s.length - tk : Nat) : Int) := by ((rw [i64w]; unfold wrap64; (try simp only [dnL] at *); omega))
  refine Wj ?_
  refine zp5 ?_
  refine z1 ?_
  refine Wa 74 rfl (congrArg (fun z => PV.val (Value.int .i64 z)) w1) ?_
  refine z2 ?_ (q := (by (simp_all; done)))
  refine Wa 75 rfl (sq_slice cInt 1 (fun _ => rfl) (by omega)) ?_
  refine Wa 75 rfl ((show _ = sq cInt (s.drop (s.length - tk)) by rw [List.take_length, Int.toNat_natCast]; rfl)) ?_
  refine zs1 ?_
  refine zp1 ?_
  refine WO_own 12 0 1 rfl rfl ?_
  refine Wn ?_
  refine Ws ?_
  refine zp2 ?_
  refine Wd rfl rfl (does_rangeStr (lO tG rfl) rfl rfl rfl) ?_
  refine Wn ?_
  refine Wl ?_
  show W _ _ _ _ _ _ _
  refine W_loopS (fun (k : Nat) => [(1, sq cInt s), (2, i64 limit), (9, .ptr 0 0), (11, sq cInt (s.drop (s.length - tk))), (78, .ptr 3 0), (12, .seq ((lv.take k).map fun c => (s.drop (s.length - tk)).getD (c.toNat - 97) 0).length (((lv.take k).map fun c => (s.drop (s.length - tk)).getD (c.toNat - 97) 0).flatMap cInt) (.own 4 1))]) (fun (k : Nat) => [.cells [i64 tk, str lv] 106, .dead, .dead]) (fun (k : Nat) => [.iter lv k, .free (((lv.take k).map fun c => (s.drop (s.length - tk)).getD (c.toNat - 97) 0).length * 1)]) (fun (k : Nat) => k ≤ lv.length) (fun (k : Nat) => lv.length - k) (0) (by omega) [2, 1] ?_ ?_
  ·exact fitT
  ·intro k hk
   refine z8 ?_
   by_cases hx1 : k < lv.length
   ·have hc := hl (lv.getD k 0) (by simp only [List.getD, List.getElem?_eq_getElem hx1, Option.getD_some]; exact List.getElem_mem hx1)
    have w2 : IntKind.i32.wrap (((lv.getD k 0).toNat : Int) - 97) = (((lv.getD k 0).toNat - 97 : Nat) : Int) := by rw [IntWalk.i32_left]; unfold wrap32; omega
    refine Wd rfl rfl (does_next rfl rfl rfl (by exact hx1) (by omega)) ?_
    refine zs1 ?_
    refine Ws ?_
    refine Wt rfl rfl ?_
    refine Wj ?_
    refine Wl ?_
    refine zu2 ?_
    refine W_region rfl ?_
    refine zy4 ?_
    refine Wa 85 rfl (congrArg (fun z => PV.val (Value.int .i32 z)) w2) ?_
    refine Wv tG rfl rfl rfl (by simp only [List.length_drop, Int.toNat_natCast]; omega) (iN cInt 1 (fun _ => rfl) 0 (by simp only [List.length_drop, Int.toNat_natCast]; omega)) ?_
    refine zy2 ?_
    refine Wa 88 rfl (bsL cInt [_] rfl rfl) ?_
    refine Wd rfl rfl (does_append_own (lO tG rfl) rfl (lO tG rfl) (lO tG rfl) rfl rfl rfl rfl (by simp) (by exact ⟨_, rfl⟩) (by exact ⟨rfl, rfl, flatMap_len _ 1 (fun _ => rfl) _, okC_flat _ (fun _ => rfl) _⟩) (by ((simp_all; omega))) (by ((simp_all; omega)))) ?_
    refine Wa 89 rfl (sq_append cInt) ?_
    refine z1 ?_
    skip
    refine Wn ?_
    exact ⟨k + 1, [3, 5], (by omega), (by omega), (fitT (sub := by repeat (first | exact subL_nil | refine subL_cons (by first | exact imp_of rfl | exact imp_of (map_snoc_pv hx1)) ?_)))⟩
   ·refine Wd rfl rfl (does_next_end rfl rfl rfl (by omega)) ?_
    refine zs1 ?_
    refine Ws ?_
    refine Wf rfl rfl ?_
    refine W_exit ?_
    refine zp5 ?_
    refine Wc rfl rfl (dC rfl Tryz.func47 rfl rfl ((stk_laid s tk _ limit hs (by omega) (by simp; omega) hm) _)) ?_
    refine zy5 ?_
    refine zs1 ?_
    refine zR ?_
    rw [shapeS, if_neg h0, take_all' lv k (by omega)]; rfl
end Go.Proofs.YtphgdofmjpdhaaaGreat
namespace Go.Proofs.YtphgdofmjpdhaaaGreat
open Go.RowKit
set_option maxRecDepth 100000
set_option maxHeartbeats 4000000
def pickK (s : List Int) : Int := if s.length = 0 ∨ s.getD (s.length - 1) 0 < 0 ∨ (s.length : Int) - 1 ≤ s.getD (s.length - 1) 0 then (s.length : Int) + 1 else s.getD (s.length - 1) 0 + 2
end Go.Proofs.YtphgdofmjpdhaaaGreat
namespace Go.Proofs.YtphgdofmjpdhaaaGreat
open Go.RowKit
set_option maxRecDepth 100000
set_option maxHeartbeats 4000000
theorem shuffle_of {name : Str} {s : List Int} {limit : Int} {tk : Nat} {lv : List Int} (h1 : takesK name s = (tk : Int)) (h2 : leftK name (s.drop (s.length - tk)) s.length = lv) :
  shuffleS name s limit = if s.length < tk then (s, true, -4) else stkLaid s tk lv limit := by
 have e : (takesK name s).toNat = tk := by rw [h1]; rfl
 unfold shuffleS
 rw [e, h2, h1, if_neg (by omega)]
 by_cases h : s.length < tk
 ·rw [if_pos h, if_pos (by omega)]
 ·rw [if_neg h, if_neg (by omega)]
  unfold stkLaid
  rfl
theorem stk_DEPTH (s : List Int) (limit : Int) (hs : s.length ≤ 100000) (hm : -9223372036854775808 ≤ limit ∧ limit ≤ 9223372036854775807) : PureC Tryz.prog 26 [str [68, 69, 80, 84, 72], sq cInt s, i64 limit] (tStk (shuffleS [68, 69, 80, 84, 72] s limit)) := by
 refine pW tG (rs := [.tmp 6, .tmp 7, .tmp 8]) Tryz.func26 rfl rfl rfl (by simp) (by simp) (fun B => ?_)
 refine zu3 ?_
 refine Ws ?_
 refine zu1 ?_
 refine Wl ?_
 refine zp1 ?_
 refine Wa 17 rfl (str_eql _ _) ?_
 refine zs1 ?_
 refine Wt rfl (by decide) ?_
 refine zp4 ?_
 refine Wa 21 rfl (bsL cInt [_] rfl rfl) ?_
 refine z1 ?_
 refine Wc rfl rfl (dC rfl Tryz.func47 rfl rfl ((stk_laid s 0 _ limit hs (by omega) (by simp) hm) _)) ?_
 refine zy5 ?_
 refine zs1 ?_
 refine zR ?_
 rw [shuffle_of (tk := 0) (lv := [(s.length : Int)]) rfl rfl, if_neg (by omega)]; rfl
theorem getD_drop' {s : List Int} {k : Nat} : (s.drop k).getD 0 0 = s.getD k 0 := by unfold List.getD; rw [List.getElem?_drop]; rfl
theorem getD_take' {s : List Int} {k n : Nat} (h : k < n) : (s.take n).getD k 0 = s.getD k 0 := by unfold List.getD; rw [List.getElem?_take, if_pos h]
theorem pick_bad {name : Str} {s : List Int} {limit : Int} {roll : Bool} (hp : takesK name s = pickK s) (hc : s.length = 0 ∨ s.getD (s.length - 1) 0 < 0 ∨ (s.length : Int) - 1 ≤ s.getD (s.length - 1) 0) : stkDeep s roll limit = shuffleS name s limit := by
 have e : pickK s = (s.length : Int) + 1 := by rw [pickK, if_pos hc]
 unfold shuffleS
 rw [hp, e, if_neg (by omega), if_pos (by omega)]
 unfold stkDeep
 rw [if_pos]
 unfold stkPop
 split
 ·exact .inl (by simp)
 ·rename_i h0
  refine .inr ?_
  rcases hc with hc | hc | hc
  ·exact absurd hc h0
  ·exact .inl hc
  ·refine .inr ?_
   simp only [List.length_take]; omega
theorem pick_good {name : Str} {s : List Int} {limit : Int} {roll : Bool} (hp : takesK name s = pickK s) (hl : ∀ x d, leftK name x d = if roll then (x.take (x.length - 1)).drop 1 ++ [xat x 0] else x.take (x.length - 1) ++ [xat x 0])
  (hc : ¬ (s.length = 0 ∨ s.getD (s.length - 1) 0 < 0 ∨ (s.length : Int) - 1 ≤ s.getD (s.length - 1) 0)) : stkDeep s roll limit = shuffleS name s limit := by
 have h0 : s.length ≠ 0 := fun h => hc (.inl h)
 obtain ⟨t, ht⟩ : ∃ t : Nat, s.getD (s.length - 1) 0 = t := ⟨(s.getD (s.length - 1) 0).toNat, by have : ¬ s.getD (s.length - 1) 0 < 0 := fun h => hc (.inr (.inl h)); omega⟩
 have hlt : t + 2 ≤ s.length := by have : ¬ ((s.length : Int) - 1 ≤ s.getD (s.length - 1) 0) := fun h => hc (.inr (.inr h)); omega
 have e : pickK s = ((t + 2 : Nat) : Int) := by rw [pickK, if_neg hc, ht]; rfl
 have hd : (s.drop (s.length - (t + 2))).length = t + 2 := by rw [List.length_drop]; omega
 have hx : xat (s.drop (s.length - (t + 2))) 0 = s.getD (s.length - (t + 2)) 0 := getD_drop'
 have hpop : stkPop s = ((t : Int), s.take (s.length - 1), 0) := by unfold stkPop; rw [if_neg h0, ht]
 rw [shuffle_of (tk := t + 2) (hp.trans e) (hl _ _), if_neg (by omega)]
 unfold stkDeep
 rw [hpop]
 simp only [List.length_take, Int.toNat_natCast, Nat.min_eq_left (show s.length - 1 ≤ s.length by omega)]
 rw [if_neg (by rintro (h | h | h) <;> omega), hd, hx]
 have e1 : s.length - 1 - 1 - t = s.length - (t + 2) := by omega
 rw [e1, getD_take' (by omega)]
 cases roll with
 | true =>
  simp only [if_true]
  congr 2
  rw [List.drop_take, List.drop_take, List.drop_drop]
  have e2 : s.length - (t + 2) + 1 = s.length - (t + 2) + 1 := rfl
  have e3 : s.length - 1 - (s.length - (t + 2) + 1) = t + 2 - 1 - 1 := by omega
  rw [e3]
 | false =>
  simp only [Bool.false_eq_true, if_false]
  unfold stkLaid
  have hl1 : ((s.drop (s.length - (t + 2))).take (t + 2 - 1) ++ [s.getD (s.length - (t + 2)) 0]).length = t + 2 := by rw [List.length_append, List.length_take, hd]; simp
  have e2 : s.length - (t + 2) + ((s.drop (s.length - (t + 2))).take (t + 2 - 1) ++ [s.getD (s.length - (t + 2)) 0]).length = s.length - 1 + [s.getD (s.length - (t + 2)) 0].length := by rw [hl1]; simp; omega
  rw [e2, ← List.append_assoc, ← List.take_add]
  have e3 : s.length - (t + 2) + (t + 2 - 1) = s.length - 1 := by omega
  rw [e3]
theorem pick_shuffle {name : Str} {s : List Int} {limit : Int} {roll : Bool} (hp : takesK name s = pickK s) (hl : ∀ x d, leftK name x d = if roll then (x.take (x.length - 1)).drop 1 ++ [xat x 0] else x.take (x.length - 1) ++ [xat x 0]) :
  stkDeep s roll limit = shuffleS name s limit := by
 by_cases hc : s.length = 0 ∨ s.getD (s.length - 1) 0 < 0 ∨ (s.length : Int) - 1 ≤ s.getD (s.length - 1) 0
 ·exact pick_bad hp hc
 ·exact pick_good hp hl hc
theorem stk_PICK (s : List Int) (limit : Int) (hs : s.length ≤ 100000) (hm : -9223372036854775808 ≤ limit ∧ limit ≤ 9223372036854775807) : PureC Tryz.prog 26 [str [80, 73, 67, 75], sq cInt s, i64 limit] (tStk (stkDeep s false limit)) := by
 refine pW tG (rs := [.tmp 6, .tmp 7, .tmp 8]) Tryz.func26 rfl rfl rfl (by simp) (by simp) (fun B => ?_)
 refine zu3 ?_
 refine Ws ?_
 refine zu1 ?_
 refine Wl ?_
 refine zp1 ?_
 refine Wa 17 rfl (str_eql _ _) ?_
 refine zs1 ?_
 refine Wf rfl (by decide) ?_
 refine Ws ?_
 refine zp1 ?_
 refine Wa 28 rfl (str_eql _ _) ?_
 refine zs1 ?_
 refine Wt rfl (by decide) ?_
 refine Wj ?_
 refine Wt rfl (by decide) ?_
 refine zp3 ?_
 refine Wa 32 rfl (str_eql _ _) ?_
 refine z1 ?_
 refine Wc rfl rfl (dC rfl Tryz.func48 rfl rfl ((stk_deep s _ limit hs hm) _)) ?_
 refine zy5 ?_
 refine zs1 ?_
 refine zR ?_
 rfl
theorem stk_ROLL (s : List Int) (limit : Int) (hs : s.length ≤ 100000) (hm : -9223372036854775808 ≤ limit ∧ limit ≤ 9223372036854775807) : PureC Tryz.prog 26 [str [82, 79, 76, 76], sq cInt s, i64 limit] (tStk (stkDeep s true limit)) := by
 refine pW tG (rs := [.tmp 6, .tmp 7, .tmp 8]) Tryz.func26 rfl rfl rfl (by simp) (by simp) (fun B => ?_)
 refine zu3 ?_
 refine Ws ?_
 refine zu1 ?_
 refine Wl ?_
 refine zp1 ?_
 refine Wa 17 rfl (str_eql _ _) ?_
 refine zs1 ?_
 refine Wf rfl (by decide) ?_
 refine Ws ?_
 refine zp1 ?_
 refine Wa 28 rfl (str_eql _ _) ?_
 refine zs1 ?_
 refine Wf rfl (by decide) ?_
 refine W_region rfl ?_
 refine z1 ?_
 refine Wa 29 rfl (str_eql _ _) ?_
 refine zs1 ?_
 refine Wt rfl (by decide) ?_
 refine zp3 ?_
 refine Wa 32 rfl (str_eql _ _) ?_
 refine z1 ?_
 refine Wc rfl rfl (dC rfl Tryz.func48 rfl rfl ((stk_deep s _ limit hs hm) _)) ?_
 refine zy5 ?_
 refine zs1 ?_
 refine zR ?_
 rfl
def qdupS (s : List Int) (limit : Int) : List Int × Bool × Int :=
 if s.length = 0 then (s, true, -4) else stkLaid s 1 (if s.getD (s.length - 1) 0 = 0 then [xat (s.drop (s.length - 1)) 0] else [xat (s.drop (s.length - 1)) 0, xat (s.drop (s.length - 1)) 0]) limit
theorem stk_QDUP (s : List Int) (limit : Int) (hs : s.length ≤ 100000) (hm : -9223372036854775808 ≤ limit ∧ limit ≤ 9223372036854775807) : PureC Tryz.prog 26 [str [63, 68, 85, 80], sq cInt s, i64 limit] (tStk (qdupS s limit)) := by
 refine pW tG (rs := [.tmp 6, .tmp 7, .tmp 8]) Tryz.func26 rfl rfl rfl (by simp) (by simp) (fun B => ?_)
 refine zu3 ?_
 refine Ws ?_
 refine zu1 ?_
 refine Wl ?_
 refine zp1 ?_
 refine Wa 17 rfl (str_eql _ _) ?_
 refine zs1 ?_
 refine Wf rfl (by decide) ?_
 refine Ws ?_
 refine zp1 ?_
 refine Wa 28 rfl (str_eql _ _) ?_
 refine zs1 ?_
 refine Wf rfl (by decide) ?_
 refine W_region rfl ?_
 refine z1 ?_
 refine Wa 29 rfl (str_eql _ _) ?_
 refine zs1 ?_
 refine Wf rfl (by decide) ?_
 refine Wj ?_
 refine z8 ?_
 refine Wc rfl rfl (dC rfl Tryz.func49 rfl rfl ((stk_shapes) _)) ?_
 refine z1 ?_
 refine Wd rfl rfl (does_lookup (b := true) (e := 106) (key := .s [63, 68, 85, 80]) (by kernel_rfl) (lO tG rfl) (by kernel_rfl) rfl rfl rfl rfl (by kernel_rfl) ((show lkPV shapeK shapeV (.s [63, 68, 85, 80]) (PV.agg [i64 0, str []]) = (PV.agg [i64 0, str []], false) from rfl))) ?_
 refine zy5 ?_
 refine zs1 ?_
 refine Ws ?_
 refine zp2 ?_
 refine Wa 45 rfl (str_eql _ _) ?_
 refine Wn ?_
 refine Wt rfl (by decide) ?_
 refine zu3 ?_
 refine zp4 ?_
 refine Wb 50 rfl (fun hg1 => ?_) (fun hg1 => ?_)
 ·have h0 : ¬ s.length = 0 := by (try simp only [dnL] at *); omega
  have w1 : IntKind.i64.wrap ((s.length : Int) - 1) = ((s.length - 1 : Nat) : Int) := by ((rw [i64w]; unfold wrap64; (try simp only [dnL] at *); omega))
  refine zy4 ?_
  refine Wa 54 rfl (congrArg (fun z => PV.val (Value.int .i64 z)) w1) ?_
  refine Wv tG rfl rfl rfl (by omega) (iN cInt 1 (fun _ => rfl) 0 (by omega)) ?_
  refine zs3 ?_
  refine Wi rfl (fun hi5 => ?_) (fun hi5 => ?_)
  ·have h1 : s.getD (s.length - 1) 0 = 0 := oT hi5
   refine W_region rfl ?_
   refine zs2 ?_
   refine Ws ?_
   refine zu2 ?_
   refine Wf rfl rfl ?_
   refine Wj ?_
   refine Ws ?_
   refine zu5 ?_
   refine Wf rfl (by (simp only [dnL] at *; omega)) ?_
   refine Wj ?_
   refine zp5 ?_
   refine z1 ?_
   refine Wa 74 rfl (congrArg (fun z => PV.val (Value.int .i64 z)) w1) ?_
   refine z2 ?_ (q := (by (simp_all; done)))
   refine Wa 75 rfl (sq_slice cInt 1 (fun _ => rfl) (by omega)) ?_
   refine Wa 75 rfl ((show _ = sq cInt (s.drop (s.length - 1)) by rw [List.take_length, Int.toNat_natCast]; rfl)) ?_
   refine zs1 ?_
   refine zu1 ?_
   refine Ws ?_
   refine zp2 ?_
   refine Wd rfl rfl (does_rangeStr (lO tG rfl) rfl rfl rfl) ?_
   refine Wn ?_
   refine Wl ?_
   refine W_rounds 4 ?_
   show W _ _ _ _ _ _ _
   refine z8 ?_
   refine Wd rfl rfl (does_next rfl rfl rfl (by decide) (by decide)) ?_
   refine zs1 ?_
   refine Ws ?_
   refine Wt rfl rfl ?_
   refine Wj ?_
   refine Wl ?_
   refine zu2 ?_
   refine W_region rfl ?_
   refine zy4 ?_
   refine Wa 85 rfl ((show _ = PV.val (.int .i32 0) from rfl)) ?_
   refine Wv tG rfl rfl rfl (by simp only [List.length_drop]; omega) (iN cInt 1 (fun _ => rfl) 0 (by simp only [List.length_drop]; omega)) ?_
   refine zy2 ?_
   refine Wa 88 rfl (bsL cInt [_] rfl rfl) ?_
   refine Wd rfl rfl (does_append_clip (lO tG rfl) rfl (lO tG rfl) (lO tG rfl) rfl rfl (by exact ⟨_, rfl⟩) (by exact ⟨rfl, rfl, flatMap_len _ 1 (fun _ => rfl) _, okC_flat _ (fun _ => rfl) _⟩) (by rfl) (by ((simp_all; done))) (by ((simp_all; done)))) ?_
   refine Wa 89 rfl (sq_one cInt _) ?_
   refine zs1 ?_
   show W _ _ _ _ _ _ _
   refine z8 ?_
   refine Wd rfl rfl (does_next_end rfl rfl rfl (by decide)) ?_
   refine zs1 ?_
   refine Ws ?_
   refine Wf rfl rfl ?_
   refine W_exit ?_
   refine zp5 ?_
   refine Wc rfl rfl (dC rfl Tryz.func47 rfl rfl ((stk_laid s 1 _ limit hs (by omega) (by simp) hm) _)) ?_
   refine zy5 ?_
   refine zs1 ?_
   refine zR ?_
   rw [qdupS, if_neg h0, if_pos h1]; rfl
  ·have h1 : ¬ s.getD (s.length - 1) 0 = 0 := oF hi5
   refine Wj ?_
   refine Ws ?_
   refine zu2 ?_
   refine Wf rfl rfl ?_
   refine Wj ?_
   refine Ws ?_
   refine zu5 ?_
   refine Wf rfl (by (simp only [dnL] at *; omega)) ?_
   refine Wj ?_
   refine zp5 ?_
   refine z1 ?_
   refine Wa 74 rfl (congrArg (fun z => PV.val (Value.int .i64 z)) w1) ?_
   refine z2 ?_ (q := (by (simp_all; done)))
   refine Wa 75 rfl (sq_slice cInt 1 (fun _ => rfl) (by omega)) ?_
   refine Wa 75 rfl ((show _ = sq cInt (s.drop (s.length - 1)) by rw [List.take_length, Int.toNat_natCast]; rfl)) ?_
   refine zs1 ?_
   refine zu1 ?_
   refine Ws ?_
   refine zp2 ?_
   refine Wd rfl rfl (does_rangeStr (lO tG rfl) rfl rfl rfl) ?_
   refine Wn ?_
   refine Wl ?_
   refine W_rounds 4 ?_
   show W _ _ _ _ _ _ _
   refine z8 ?_
   refine Wd rfl rfl (does_next rfl rfl rfl (by decide) (by decide)) ?_
   refine zs1 ?_
   refine Ws ?_
   refine Wt rfl rfl ?_
   refine Wj ?_
   refine Wl ?_
   refine zu2 ?_
   refine W_region rfl ?_
   refine zy4 ?_
   refine Wa 85 rfl ((show _ = PV.val (.int .i32 0) from rfl)) ?_
   refine Wv tG rfl rfl rfl (by simp only [List.length_drop]; omega) (iN cInt 1 (fun _ => rfl) 0 (by simp only [List.length_drop]; omega)) ?_
   refine zy2 ?_
   refine Wa 88 rfl (bsL cInt [_] rfl rfl) ?_
   refine Wd rfl rfl (does_append_clip (lO tG rfl) rfl (lO tG rfl) (lO tG rfl) rfl rfl (by exact ⟨_, rfl⟩) (by exact ⟨rfl, rfl, flatMap_len _ 1 (fun _ => rfl) _, okC_flat _ (fun _ => rfl) _⟩) (by rfl) (by ((simp_all; done))) (by ((simp_all; done)))) ?_
   refine Wa 89 rfl (sq_one cInt _) ?_
   refine zs1 ?_
   show W _ _ _ _ _ _ _
   refine z8 ?_
   refine Wd rfl rfl (does_next rfl rfl rfl (by decide) (by decide)) ?_
   refine zs1 ?_
   refine Ws ?_
   refine Wt rfl rfl ?_
   refine Wj ?_
   refine Wl ?_
   refine zu2 ?_
   refine W_region rfl ?_
   refine zy4 ?_
   refine Wa 85 rfl ((show _ = PV.val (.int .i32 0) from rfl)) ?_
   refine Wv tG rfl rfl rfl (by simp only [List.length_drop]; omega) (iN cInt 1 (fun _ => rfl) 0 (by simp only [List.length_drop]; omega)) ?_
   refine zy2 ?_
   refine Wa 88 rfl (bsL cInt [_] rfl rfl) ?_
   refine Wd rfl rfl (does_append_own (lO tG rfl) rfl (lO tG rfl) (lO tG rfl) rfl rfl rfl rfl (by simp) (by exact ⟨_, rfl⟩) (by exact ⟨rfl, rfl, flatMap_len _ 1 (fun _ => rfl) _, okC_flat _ (fun _ => rfl) _⟩) (by ((simp_all; done))) (by ((simp_all; done)))) ?_
   refine Wa 89 rfl (sq_append cInt) ?_
   refine zs1 ?_
   show W _ _ _ _ _ _ _
   refine z8 ?_
   refine Wd rfl rfl (does_next_end rfl rfl rfl (by decide)) ?_
   refine zs1 ?_
   refine Ws ?_
   refine Wf rfl rfl ?_
   refine W_exit ?_
   refine zp5 ?_
   refine Wc rfl rfl (dC rfl Tryz.func47 rfl rfl ((stk_laid s 1 _ limit hs (by omega) (by simp) hm) _)) ?_
   refine zy5 ?_
   refine zs1 ?_
   refine zR ?_
   rw [qdupS, if_neg h0, if_neg h1]; rfl
 ·have h0 : s.length = 0 := by (try simp only [dnL] at *); omega
  have w1 : IntKind.i64.wrap ((s.length : Int) - 1) = -1 := by ((rw [i64w]; unfold wrap64; (try simp only [dnL] at *); omega))
  iterate 7 refine z6 ?_
  refine zs1 ?_
  refine Wf rfl rfl ?_
  refine Wj ?_
  refine Ws ?_
  refine zu2 ?_
  refine Wf rfl rfl ?_
  refine Wj ?_
  refine Ws ?_
  refine zu5 ?_
  refine Wt rfl (by (simp only [dnL] at *; omega)) ?_
  refine zu4 ?_
  refine zR ?_
  rw [qdupS, if_pos h0]; rfl
def shufNames : List Str := [[68, 85, 80], [68, 82, 79, 80], [83, 87, 65, 80], [79, 86, 69, 82], [78, 73, 80], [84, 85, 67, 75], [82, 79, 84], [45, 82, 79, 84], [50, 68, 85, 80], [50, 68, 82, 79, 80], [50, 83, 87, 65, 80], [50, 79, 86, 69, 82], [63, 68, 85, 80], [80, 73, 67, 75], [82, 79, 76, 76], [68, 69, 80, 84, 72]]
theorem qdup_shuffle (s : List Int) (limit : Int) : qdupS s limit = shuffleS [63, 68, 85, 80] s limit := by
 rw [shuffle_of (tk := 1) (lv := if xat (s.drop (s.length - 1)) 0 = 0 then s.drop (s.length - 1) else [xat (s.drop (s.length - 1)) 0, xat (s.drop (s.length - 1)) 0]) rfl rfl]
 unfold qdupS
 by_cases h0 : s.length = 0
 ·rw [if_pos h0, if_pos (show s.length < 1 by omega)]
 ·rw [if_neg h0, if_neg (show ¬ s.length < 1 by omega)]
  have hx : xat (s.drop (s.length - 1)) 0 = s.getD (s.length - 1) 0 := getD_drop'
  have hd : s.drop (s.length - 1) = [s.getD (s.length - 1) 0] := by
   rw [List.drop_eq_getElem_cons (by omega), show s.length - 1 + 1 = s.length by omega, List.drop_length]
   simp [List.getD, List.getElem?_eq_getElem (show s.length - 1 < s.length by omega)]
  rw [hx, hd]
theorem stk_Shuffle (name : Str) (hn : name ∈ shufNames) (s : List Int) (limit : Int) (hs : s.length ≤ 100000) (hm : -9223372036854775808 ≤ limit ∧ limit ≤ 9223372036854775807) : PureC Tryz.prog 26 [str name, sq cInt s, i64 limit] (tStk (shuffleS name s limit)) := by
 simp only [shufNames, List.mem_cons, List.not_mem_nil, or_false] at hn
 rcases hn with rfl | rfl | rfl | rfl | rfl | rfl | rfl | rfl | rfl | rfl | rfl | rfl | rfl | rfl | rfl | rfl
 ·rw [shuffle_of (tk := 1) (lv := ([97, 97] : Str).map fun c => (s.drop (s.length - 1)).getD (c.toNat - 97) 0) rfl rfl]
  exact stk_word _ s limit 1 [97, 97] hs hm (by decide) (by decide) (by decide) (by decide) rfl (by decide) (by decide) (by decide)
 ·rw [shuffle_of (tk := 1) (lv := ([] : Str).map fun c => (s.drop (s.length - 1)).getD (c.toNat - 97) 0) rfl rfl]
  exact stk_word _ s limit 1 [] hs hm (by decide) (by decide) (by decide) (by decide) rfl (by decide) (by decide) (by decide)
 ·rw [shuffle_of (tk := 2) (lv := ([98, 97] : Str).map fun c => (s.drop (s.length - 2)).getD (c.toNat - 97) 0) rfl rfl]
  exact stk_word _ s limit 2 [98, 97] hs hm (by decide) (by decide) (by decide) (by decide) rfl (by decide) (by decide) (by decide)
 ·rw [shuffle_of (tk := 2) (lv := ([97, 98, 97] : Str).map fun c => (s.drop (s.length - 2)).getD (c.toNat - 97) 0) rfl rfl]
  exact stk_word _ s limit 2 [97, 98, 97] hs hm (by decide) (by decide) (by decide) (by decide) rfl (by decide) (by decide) (by decide)
 ·rw [shuffle_of (tk := 2) (lv := ([98] : Str).map fun c => (s.drop (s.length - 2)).getD (c.toNat - 97) 0) rfl rfl]
  exact stk_word _ s limit 2 [98] hs hm (by decide) (by decide) (by decide) (by decide) rfl (by decide) (by decide) (by decide)
 ·rw [shuffle_of (tk := 2) (lv := ([98, 97, 98] : Str).map fun c => (s.drop (s.length - 2)).getD (c.toNat - 97) 0) rfl rfl]
  exact stk_word _ s limit 2 [98, 97, 98] hs hm (by decide) (by decide) (by decide) (by decide) rfl (by decide) (by decide) (by decide)
 ·rw [shuffle_of (tk := 3) (lv := ([98, 99, 97] : Str).map fun c => (s.drop (s.length - 3)).getD (c.toNat - 97) 0) rfl rfl]
  exact stk_word _ s limit 3 [98, 99, 97] hs hm (by decide) (by decide) (by decide) (by decide) rfl (by decide) (by decide) (by decide)
 ·rw [shuffle_of (tk := 3) (lv := ([99, 97, 98] : Str).map fun c => (s.drop (s.length - 3)).getD (c.toNat - 97) 0) rfl rfl]
  exact stk_word _ s limit 3 [99, 97, 98] hs hm (by decide) (by decide) (by decide) (by decide) rfl (by decide) (by decide) (by decide)
 ·rw [shuffle_of (tk := 2) (lv := ([97, 98, 97, 98] : Str).map fun c => (s.drop (s.length - 2)).getD (c.toNat - 97) 0) rfl rfl]
  exact stk_word _ s limit 2 [97, 98, 97, 98] hs hm (by decide) (by decide) (by decide) (by decide) rfl (by decide) (by decide) (by decide)
 ·rw [shuffle_of (tk := 2) (lv := ([] : Str).map fun c => (s.drop (s.length - 2)).getD (c.toNat - 97) 0) rfl rfl]
  exact stk_word _ s limit 2 [] hs hm (by decide) (by decide) (by decide) (by decide) rfl (by decide) (by decide) (by decide)
 ·rw [shuffle_of (tk := 4) (lv := ([99, 100, 97, 98] : Str).map fun c => (s.drop (s.length - 4)).getD (c.toNat - 97) 0) rfl rfl]
  exact stk_word _ s limit 4 [99, 100, 97, 98] hs hm (by decide) (by decide) (by decide) (by decide) rfl (by decide) (by decide) (by decide)
 ·rw [shuffle_of (tk := 4) (lv := ([97, 98, 99, 100, 97, 98] : Str).map fun c => (s.drop (s.length - 4)).getD (c.toNat - 97) 0) rfl rfl]
  exact stk_word _ s limit 4 [97, 98, 99, 100, 97, 98] hs hm (by decide) (by decide) (by decide) (by decide) rfl (by decide) (by decide) (by decide)
 ·rw [← qdup_shuffle]; exact stk_QDUP s limit hs hm
 ·rw [← pick_shuffle (name := [80, 73, 67, 75]) (roll := false) rfl (fun _ _ => rfl)]; exact stk_PICK s limit hs hm
 ·rw [← pick_shuffle (name := [82, 79, 76, 76]) (roll := true) rfl (fun _ _ => rfl)]; exact stk_ROLL s limit hs hm
 ·exact stk_DEPTH s limit hs hm
end Go.Proofs.YtphgdofmjpdhaaaGreat
namespace Go.Proofs.YtphgdofmjpdhaaaGreat
open Go.RowKit
set_option maxRecDepth 100000
set_option maxHeartbeats 4000000
theorem prim_Does (n : Int) : PureC Tryz.prog 16 [i64 n] (boo (decide (23 ≤ n ∧ n ≤ 129))) := by
 refine pW tG (rs := [.tmp 2]) Tryz.func16 rfl rfl rfl (by simp) (by simp) (fun B => ?_)
 refine zu1 ?_
 refine zp3 ?_
 refine Wb 5 rfl (fun hg1 => ?_) (fun hg1 => ?_)
 ·have h0 : 23 ≤ n := oT hg1
  refine zs4 ?_
  refine zR ?_
  exact congrArg boo (by rw [Bool.eq_iff_iff, decide_eq_true_eq, decide_eq_true_eq]; omega)
 ·have h0 : ¬ 23 ≤ n := oF hg1
  iterate 2 refine z6 ?_
  refine zs2 ?_
  refine zR ?_
  exact congrArg boo (decide_eq_false (by omega)).symm
theorem fd_1 (name : Str) (x : List Int) (hx : XOk 2 x) : PureC Tryz.prog 51 ([sq cInt x] ++ [.row [str name]]) (tLv ([(twoS name (xat x 0) (xat x 1)).1], (twoS name (xat x 0) (xat x 1)).2.2)) := by
 have hl := hx.len
 refine pW tG (rs := [.tmp 3, .tmp 4]) Tryz.func51 rfl rfl rfl (by simp) (by simp) (fun B => ?_)
 refine zu2 ?_
 refine Ws ?_
 refine W_drawU [1, 0, 0, 1, 0, 0, 1, 0, 0, 0, 0, 0, 0, 0, 0] [0, 1, 2, 3, 4, 5, 6, 7, 8, 9, 10, 11, 12, 13, 14] mG rfl (by kernel_rfl) ?_
 refine z5 ?_
 refine z3 ?_
 refine Xi tG rfl rfl rfl rfl (fun _ => rfl) (by omega) (iN cInt 1 (fun _ => rfl) 0 (by (simp only [dnL] at *; omega))) ?_
 refine z5 ?_
 refine z3 ?_
 refine Xi tG rfl rfl rfl rfl (fun _ => rfl) (by omega) (iN cInt 1 (fun _ => rfl) 0 (by (simp only [dnL] at *; omega))) ?_
 refine z5 ?_
 refine Xc rfl rfl rfl rfl (fun _ => dC rfl Tryz.func52 rfl rfl ((alu_Two name _ _ (hx.fit 1)) _)) ?_
 iterate 7 refine z3 ?_
 refine WU_nil ?_
 refine zp2 ?_
 refine Wa 21 rfl (bsL cInt [_] rfl rfl) ?_
 refine zs3 ?_
 refine zR ?_
 rfl
theorem fd_2 (name : Str) (x : List Int) (hx : XOk 1 x) : PureC Tryz.prog 53 ([sq cInt x] ++ [.row [str name]]) (tLv ([(oneS name (xat x 0)).1], 0)) := by
 have hl := hx.len
 refine pW tG (rs := [.tmp 3, .tmp 4]) Tryz.func53 rfl rfl rfl (by simp) (by simp) (fun B => ?_)
 refine zu2 ?_
 refine Ws ?_
 refine W_drawU [1, 0, 0, 1, 0, 0, 0, 0, 0, 0] [0, 1, 2, 3, 4, 5, 6, 7, 8, 9] mG rfl (by kernel_rfl) ?_
 refine z5 ?_
 refine z3 ?_
 refine Xi tG rfl rfl rfl rfl (fun _ => rfl) (by omega) (iN cInt 1 (fun _ => rfl) 0 (by (simp only [dnL] at *; omega))) ?_
 refine z5 ?_
 refine Xc rfl rfl rfl rfl (fun _ => dC rfl Tryz.func54 rfl rfl ((alu_One name _ (hx.fit 0)) _)) ?_
 iterate 5 refine z3 ?_
 refine WU_nil ?_
 refine zp2 ?_
 refine Wa 16 rfl (bsL cInt [_] rfl rfl) ?_
 refine Wc rfl rfl (dC rfl Tryz.func55 rfl rfl ((prim_told _) _)) ?_
 refine zs4 ?_
 refine zR ?_
 rfl
theorem found_two (n : Int) (name : Str) (hn : n ≤ 58) : PureC Tryz.prog 27 [i64 n, str name] (deedP 2 80 [.row [fnP 51 [.row [str name]]]]) := by
 refine pW tG (rs := [.cell 4 75]) Tryz.func27 rfl rfl rfl (by simp) (by simp) (fun B => ?_)
 refine zp1 ?_
 refine WO_freezeP 3 _ rfl rfl rfl ?_
 refine zs1 ?_
 refine Ws ?_
 refine Wl ?_
 refine zu3 ?_
 refine Wt rfl (by exact decide_eq_true hn) ?_
 refine zp1 ?_
 refine Wc rfl rfl (dC rfl Tryz.func50 rfl rfl ((mk_pure 2 51 [.row [str name]] (by simp)) _)) ?_
 refine zs1 ?_
 refine zR ?_
 rfl
theorem found_one (n : Int) (name : Str) (h0 : 58 < n) (hn : n ≤ 72) : PureC Tryz.prog 27 [i64 n, str name] (deedP 1 80 [.row [fnP 53 [.row [str name]]]]) := by
 refine pW tG (rs := [.cell 4 75]) Tryz.func27 rfl rfl rfl (by simp) (by simp) (fun B => ?_)
 refine zp1 ?_
 refine WO_freezeP 3 _ rfl rfl rfl ?_
 refine zs1 ?_
 refine Ws ?_
 refine Wl ?_
 refine zu3 ?_
 refine Wf rfl (by exact decide_eq_false (by omega)) ?_
 refine zu3 ?_
 refine Wt rfl (by exact decide_eq_true hn) ?_
 refine zp1 ?_
 refine Wc rfl rfl (dC rfl Tryz.func50 rfl rfl ((mk_pure 1 53 [.row [str name]] (by simp)) _)) ?_
 refine zs1 ?_
 refine zR ?_
 rfl
def doR (v : VVm) (k : Nat) (r : VVm × List Int × Int) : VVm × Int :=
 if v.d.length < k then (v, -4) else if r.2.2 ≠ 0 then (v, r.2.2) else
 if v.conf.data < ((v.d.length - k + r.2.1.length : Nat) : Int) then (v, -3) else ({ r.1 with d := v.d.take (v.d.length - k) ++ r.2.1 }, 0)
theorem do_bad (v : VVm) (n : Int) (hn : ¬ (23 ≤ n ∧ n ≤ 129)) : PureC Tryz.prog 14 [eVm v, i64 n] (tVm (v, -24)) := by
 refine pW tG (rs := [.cell 4 36, .tmp 5]) Tryz.func14 rfl rfl rfl (by simp) (by simp) (fun B => ?_)
 refine zu3 ?_
 refine Ws ?_
 refine zp1 ?_
 refine Wc rfl rfl (dC rfl Tryz.func16 rfl rfl ((prim_Does n) _)) ?_
 refine zs1 ?_
 refine Wt rfl (by rw [decide_eq_false hn]; rfl) ?_
 refine zu3 ?_
 refine zR ?_
 rfl
theorem names_130 : names.length = 130 := names_len
theorem do_shuffle (v : VVm) (n : Int) (h0 : 23 ≤ n) (h1 : n ≤ 38) (hs : names.getD n.toNat [] ∈ shufNames) (hd : v.d.length ≤ 100000) (hm : Fit64 v.conf.data) :
  PureC Tryz.prog 14 [eVm v, i64 n] (tVm ({ v with d := (shuffleS (names.getD n.toNat []) v.d v.conf.data).1 }, (shuffleS (names.getD n.toNat []) v.d v.conf.data).2.2)) := by
 have hN := names_130
 refine pW tG (rs := [.cell 4 36, .tmp 5]) Tryz.func14 rfl rfl rfl (by simp) (by simp) (fun B => ?_)
 refine zu3 ?_
 refine Ws ?_
 refine zp1 ?_
 refine Wc rfl rfl (dC rfl Tryz.func16 rfl rfl ((prim_Does n) _)) ?_
 refine zs1 ?_
 refine Wf rfl (by rw [decide_eq_true ⟨h0, by omega⟩]; rfl) ?_
 refine Wj ?_
 refine z8 ?_
 refine Wc rfl rfl (dC rfl Tryz.func25 rfl rfl ((vm_Names) _)) ?_
 refine z1 ?_
 refine Wv tG rfl rfl rfl (by omega) (iR cStr 1 (fun _ => rfl) [] (by omega)) ?_
 refine zs2 ?_
 refine zu3 ?_
 refine Ws ?_
 refine zu2 ?_
 refine Wt rfl (by exact decide_eq_true h1) ?_
 refine zp5 ?_
 refine z1 ?_
 refine Wc rfl rfl (dC rfl Tryz.func26 rfl rfl ((stk_Shuffle _ hs _ _ hd hm) _)) ?_
 refine zy5 ?_
 refine zs2 ?_
 refine zu3 ?_
 refine zu4 ?_
 refine zR ?_
 rfl
theorem do_deed (v : VVm) (n : Int) (k : Nat) (f : FuncId) (cap : List PV) (r : VVm × List Int × Int) (h0 : 39 ≤ n) (h1 : n ≤ 129) (hdl : v.d.length ≤ 100000) (hm : Fit64 v.conf.data) (hk : k ≤ 10) (hc : FlatL cap)
  (hf : PureC Tryz.prog 27 [i64 n, str (names.getD n.toNat [])] (deedP k f cap)) (hr : r.2.1.length ≤ 10)
  (hd : k ≤ v.d.length → ∀ (H : List Ob) (i : Nat), H[i]? = some (.cells (cVm v) 36) → Callable Tryz.prog f (.ptr i 0 :: ([sq cInt (v.d.drop (v.d.length - k))] ++ cap)) H (tLv r.2) (H.set i (.cells (cVm r.1) 36))) :
  PureC Tryz.prog 14 [eVm v, i64 n] (tVm (doR v k r)) := by
 have hN := names_130
 have ht : (v.d.take (v.d.length - k)).length = v.d.length - k := by rw [List.length_take]; omega
 refine pW tG (rs := [.cell 4 36, .tmp 5]) Tryz.func14 rfl rfl rfl (by simp) (by simp) (fun B => ?_)
 refine zu3 ?_
 refine Ws ?_
 refine zp1 ?_
 refine Wc rfl rfl (dC rfl Tryz.func16 rfl rfl ((prim_Does n) _)) ?_
 refine zs1 ?_
 refine Wf rfl (by rw [decide_eq_true ⟨by omega, h1⟩]; rfl) ?_
 refine Wj ?_
 refine z8 ?_
 refine Wc rfl rfl (dC rfl Tryz.func25 rfl rfl ((vm_Names) _)) ?_
 refine z1 ?_
 refine Wv tG rfl rfl rfl (by omega) (iR cStr 1 (fun _ => rfl) [] (by omega)) ?_
 refine zs2 ?_
 refine zu3 ?_
 refine Ws ?_
 refine zu2 ?_
 refine Wf rfl (by exact decide_eq_false (by omega)) ?_
 refine Wj ?_
 refine zp2 ?_
 refine Wc rfl rfl (dC rfl Tryz.func27 rfl rfl ((hf) _)) ?_
 refine zs2 ?_
 refine Ws ?_
 refine zp5 ?_
 refine zs1 ?_
 refine Wi rfl (fun hi3 => ?_) (fun hi3 => ?_)
 ·have q0 : v.d.length < k := by (try simp only [dnL] at *); omega
  refine zu3 ?_
  refine zR ?_
  rw [doR, if_pos q0]; rfl
 ·have q0 : ¬ v.d.length < k := by (try simp only [dnL] at *); omega
  have w1 : IntKind.i64.wrap ((v.d.length : Int) - (k : Int)) = ((v.d.length - k : Nat) : Int) := by ((rw [i64w]; unfold wrap64; (try simp only [dnL] at *); omega))
  have w2 : IntKind.i64.wrap (((v.d.length - k : Nat) : Int) + (r.2.1.length : Int)) = ((v.d.length - k + r.2.1.length : Nat) : Int) := by ((rw [i64w]; unfold wrap64; (try simp only [dnL] at *); omega))
  refine Wj ?_
  refine zp5 ?_
  refine z1 ?_
  refine Wa 56 rfl (congrArg (fun z => PV.val (Value.int .i64 z)) w1) ?_
  refine zs1 ?_
  refine Ws ?_
  refine V.W_drawU [0, 10, 0, 4, 0, 0, 0, 9, 0, 0, 0, 0, 0] [0, 1, 2, 3, 4, 5, 6, 7, 8, 9, 10, 11, 12] mG rfl (by kernel_rfl) ?_
  refine V.z3 ?_
  refine V.WU_rd 3 rfl rfl rfl rfl rfl (fun H2 h2 => does_load_ptr (lO tG rfl) rfl rfl h2 rfl) ?_
  refine V.z3 ?_
  refine V.WU_rd 0 rfl rfl rfl rfl rfl (fun H2 h2 => does_load_ptr (lO tG rfl) rfl rfl h2 rfl) ?_
  refine V.z3 ?_
  refine V.z4 ?_ (q := (by (simp_all; done)))
  refine V.Xa 63 rfl (sq_slice cInt 1 (fun _ => rfl) (by omega)) ?_
  refine V.Xa 63 rfl ((show _ = sq cInt (v.d.drop (v.d.length - k)) by rw [List.take_length, Int.toNat_natCast]; rfl)) ?_
  refine V.Xc rfl rfl rfl rfl (fun _ => dC rfl Tryz.func28 rfl rfl ((clone_ints _ (by simp; omega)) _)) ?_
  refine V.WU_wrC 2 rfl rfl rfl rfl (doesCWs rfl rfl (hd (by omega) _ 2 rfl)) rfl ?_
  iterate 5 refine V.z3 ?_
  refine V.WU_nil ?_
  refine Ws ?_
  refine zu2 ?_
  refine Wi rfl (fun hi4 => ?_) (fun hi4 => ?_)
  ·have q1 : r.2.2 ≠ 0 := bne_iff_ne.1 hi4
   refine zu4 ?_
   refine zR ?_
   rw [doR, if_neg q0, if_pos q1]; rfl
  ·have q1 : ¬ r.2.2 ≠ 0 := fun h => h (bne_eq_false_iff_eq.1 hi4)
   refine Wj ?_
   refine Ws ?_
   refine zp4 ?_
   refine Wa 75 rfl (congrArg (fun z => PV.val (Value.int .i64 z)) w2) ?_
   refine zs4 ?_
   refine Wi rfl (fun hi5 => ?_) (fun hi5 => ?_)
   ·have q2 : v.conf.data < ((v.d.length - k + r.2.1.length : Nat) : Int) := oT hi5
    refine zu3 ?_
    refine zR ?_
    rw [doR, if_neg q0, if_neg q1, if_pos q2]; rfl
   ·have q2 : ¬ v.conf.data < ((v.d.length - k + r.2.1.length : Nat) : Int) := oF hi5
    refine Wj ?_
    refine zp3 ?_
    refine z2 ?_ (q := (by (simp_all; done)))
    refine Wa 84 rfl (sq_slice cInt 1 (fun _ => rfl) (by omega)) ?_
    refine Wa 84 rfl ((show _ = sq cInt (v.d.take (v.d.length - k)) by rw [Int.toNat_natCast, List.drop_zero]; rfl)) ?_
    refine zy2 ?_
    refine Wa 86 rfl (bsL cRow [_, _] rfl rfl) ?_
    refine Wc rfl rfl (dC rfl Tryz.func29 rfl rfl ((concat2 _ _ (by rw [ht]; omega) (by omega)) _)) ?_
    refine zs2 ?_
    refine zu3 ?_
    refine zR ?_
    rw [doR, if_neg q0, if_neg q1, if_neg q2]; rfl
end Go.Proofs.YtphgdofmjpdhaaaGreat
