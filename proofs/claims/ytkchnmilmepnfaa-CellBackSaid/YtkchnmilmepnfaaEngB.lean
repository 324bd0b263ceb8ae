/- The engine, part B: code over values without addresses: rules for statements. No condition. -/
import Derived.Test.YtkchnmilmepnfaaEngA
namespace Go.Proofs.Ytkchnmilmepnfaa
open Go.RowKit
set_option linter.unusedVariables false

/-- One slot turned. -/
def upd (i : Nat) (x : PV) (T : Nat → PV) : Nat → PV := fun j => match Nat.beq j i with | true => x | false => T j
def updD (d : Option Tmp) (x : PV) (T : Nat → PV) : Nat → PV := match d with | some i => upd i x T | none => T
theorem upd_same (i : Nat) (x : PV) (T : Nat → PV) : upd i x T i = x := by simp [upd]
theorem upd_other (i j : Nat) (x : PV) (T : Nat → PV) (h : j ≠ i) : upd i x T j = T j := by
  unfold upd
  have : Nat.beq j i = false := by rw [← Bool.not_eq_true, Nat.beq_eq]; exact h
  rw [this]

def RepT (c : Cx) (T : Nat → PV) (a : Act) : Prop := ∀ i, Rep c (T i) (a.tmps.getD i undef)
/-- A state stands for a world and a frame of n slots. -/
structure Good (B : Nat → Nat → Prop) (n : Nat) (T : Nat → PV) (H : List Ob) (σ : Nat → Option Nat) (w : World) (a : Act) : Prop where
  sim : Sim B H σ w
  rep : RepT (cx B H σ w) T a
  size : a.tmps.size = n
  defers : a.defers = []

def Post (B : Nat → Nat → Prop) (n : Nat) (H : List Ob) (σ : Nat → Option Nat) (w : World) (Q : Exit → (Nat → PV) → List Ob → Prop) : Exit → Act → World → Prop :=
  fun e a' w' => ∃ T' H' σ', Q e T' H' ∧ Good B n T' H' σ' w' a' ∧ Step B H σ w H' σ' w'
/-- From each world and frame that a state stands for, the code comes to an exit and a state that are as told. -/
def W (P : Program) (B : Nat → Nat → Prop) (n : Nat) (c : Code) (T : Nat → PV) (H : List Ob) (Q : Exit → (Nat → PV) → List Ob → Prop) : Prop :=
  ∀ σ w a, Good B n T H σ w a → c.wp P (Post B n H σ w Q) a w

def thenQ (K : (Nat → PV) → List Ob → Prop) (Q : Exit → (Nat → PV) → List Ob → Prop) : Exit → (Nat → PV) → List Ob → Prop
  | .normal, T, H => K T H
  | e, T, H => Q e T H
def blockQ (id : Nat) (Q : Exit → (Nat → PV) → List Ob → Prop) : Exit → (Nat → PV) → List Ob → Prop
  | .exit i, T, H => match Nat.beq i id with | true => Q .normal T H | false => Q (.exit i) T H
  | e, T, H => Q e T H

section
variable {P : Program} {B : Nat → Nat → Prop} {n : Nat} {T : Nat → PV} {H : List Ob} {Q : Exit → (Nat → PV) → List Ob → Prop}

theorem post_mono {σ : Nat → Option Nat} {w w1 : World} {H1 : List Ob} {σ1 : Nat → Option Nat} {Q' : Exit → (Nat → PV) → List Ob → Prop} (h : Step B H σ w H1 σ1 w1) (hq : ∀ e T H, Q e T H → Q' e T H) {e : Exit} {a' : Act} {w' : World}
    (k : Post B n H1 σ1 w1 Q e a' w') : Post B n H σ w Q' e a' w' := by
  obtain ⟨T', H', σ', h1, h2, h3⟩ := k
  exact ⟨T', H', σ', hq _ _ _ h1, h2, h.trans h3⟩
theorem W_mono {c : Code} {Q' : Exit → (Nat → PV) → List Ob → Prop} (h : W P B n c T H Q) (hq : ∀ e T H, Q e T H → Q' e T H) : W P B n c T H Q' :=
  fun σ w a g => wp_mono (h σ w a g) fun _ _ _ k => post_mono (Step.refl _ _ _ _) hq k
theorem W_skip (h : Q .normal T H) : W P B n .skip T H Q := fun σ w a g => wp_skip ⟨T, H, σ, h, g, Step.refl _ _ _ _⟩
theorem W_ret (h : Q .ret T H) : W P B n .ret T H Q := fun σ w a g => wp_ret ⟨T, H, σ, h, g, Step.refl _ _ _ _⟩
theorem W_exit {id : Nat} (h : Q (.exit id) T H) : W P B n (.exit id) T H Q := fun σ w a g => wp_exit ⟨T, H, σ, h, g, Step.refl _ _ _ _⟩
theorem W_seq {x y : Code} (h : W P B n x T H (thenQ (fun T' H' => W P B n y T' H' Q) Q)) : W P B n (x.seq y) T H Q := by
  intro σ w a g
  refine wp_seq (wp_mono (h σ w a g) ?_)
  rintro e a' w' ⟨T', H', σ', h1, h2, h3⟩
  cases e with
  | normal => exact wp_mono (h1 σ' w' a' h2) fun _ _ _ k => post_mono h3 (fun _ _ _ h => h) k
  | exit id => exact ⟨T', H', σ', h1, h2, h3⟩
  | goto l => exact ⟨T', H', σ', h1, h2, h3⟩
  | ret => exact ⟨T', H', σ', h1, h2, h3⟩
  | panic c => exact ⟨T', H', σ', h1, h2, h3⟩
  | outgrown => exact ⟨T', H', σ', h1, h2, h3⟩
theorem W_block {id : Nat} {c : Code} (h : W P B n c T H (blockQ id Q)) : W P B n (.block id c) T H Q := by
  intro σ w a g
  refine wp_block (wp_mono (h σ w a g) ?_)
  rintro e a' w' ⟨T', H', σ', h1, h2, h3⟩
  cases e with
  | exit i =>
    simp only [blockQ] at h1
    simp only [Exit.inBlock]
    by_cases hi : i = id
    · subst hi
      rw [show Nat.beq i i = true from Nat.beq_refl i] at h1
      rw [if_pos rfl]
      exact ⟨T', H', σ', h1, h2, h3⟩
    · rw [show Nat.beq i id = false from by rw [← Bool.not_eq_true, Nat.beq_eq]; exact hi] at h1
      rw [if_neg hi]
      exact ⟨T', H', σ', h1, h2, h3⟩
  | normal => exact ⟨T', H', σ', h1, h2, h3⟩
  | goto l => exact ⟨T', H', σ', h1, h2, h3⟩
  | ret => exact ⟨T', H', σ', h1, h2, h3⟩
  | panic c => exact ⟨T', H', σ', h1, h2, h3⟩
  | outgrown => exact ⟨T', H', σ', h1, h2, h3⟩

/-- A constant, as a value without addresses. -/
def constPV : Value → PV
  | .slice none 0 0 => .seq 0 [] .clip
  | .agg cs => .agg (cs.toList.map fun | .slice none 0 0 => .seq 0 [] .clip | v => .val v)
  | v => .val v
def opv (T : Nat → PV) : Operand → PV
  | .tmp t => T t
  | .const v => constPV v
  | .global g => .val (.pointer (some ⟨g, 0, none⟩))
  | .func f => .fn (.func f) [] []
theorem rep_val (c : Cx) (v : Value) : Rep c (.val v) v := by unfold Rep; rfl
theorem rep_nil (c : Cx) : Rep c (.seq 0 [] .clip) (.slice none 0 0) := by
  unfold Rep
  exact ⟨none, 0, [], rfl, Nat.le_refl _, fun _ => ⟨rfl, rfl, rfl⟩, repL_nil.2 rfl, (fun b h => by cases h), rfl⟩
theorem rep_const (c : Cx) (v : Value) : Rep c (constPV v) v := by
  unfold constPV
  split
  · exact rep_nil c
  · rename_i cs
    unfold Rep
    refine ⟨cs.toList, rfl, ?_⟩
    generalize cs.toList = l
    induction l with
    | nil => exact repL_nil.2 rfl
    | cons x l ih =>
      refine repL_cons.2 ⟨?_, ih⟩
      dsimp only
      split
      · exact rep_nil c
      · exact rep_val c _
  · exact rep_val c _
theorem rep_opv {c : Cx} {a : Act} (h : RepT c T a) (x : Operand) : Rep c (opv T x) (a.eval x) := by
  cases x with
  | tmp t => exact h t
  | const v => exact rep_const c v
  | global g => exact rep_val c _
  | func f => unfold opv Rep; exact ⟨[], [], rfl, repL_nil.2 rfl, repL_nil.2 rfl⟩

theorem W_cond {c : Operand} {x y : Code} {t : Bool} (hc : opv T c = .val (.bool t)) (h1 : t = true → W P B n x T H Q) (h2 : t = false → W P B n y T H Q) : W P B n (.cond c x y) T H Q := by
  intro σ w a g
  have he := rep_opv g.rep c
  rw [hc] at he
  unfold Rep at he
  cases t with
  | true => exact wp_cond he (h1 rfl σ w a g)
  | false => exact wp_cond he (h2 rfl σ w a g)

theorem W_as {c : Code} (d : Nat) {x y : PV} (hT : T d = x) (hxy : x = y) (h1 : W P B n c (upd d y T) H Q) : W P B n c T H Q := by
  have e : upd d y T = T := by
    funext i
    by_cases hi : i = d
    · subst hi; rw [upd_same, hT, hxy]
    · rw [upd_other _ _ _ _ hi]
  rwa [e] at h1
theorem W_cond_true {c : Operand} {x y : Code} {t : Bool} (hc : opv T c = .val (.bool t)) (ht : t = true) (h1 : W P B n x T H Q) : W P B n (.cond c x y) T H Q := W_cond hc (fun _ => h1) (fun h => by rw [ht] at h; cases h)
theorem W_cond_false {c : Operand} {x y : Code} {t : Bool} (hc : opv T c = .val (.bool t)) (ht : t = false) (h1 : W P B n y T H Q) : W P B n (.cond c x y) T H Q := W_cond hc (fun h => by rw [ht] at h; cases h) (fun _ => h1)
/-- What is known less. -/
theorem W_weaken {c : Code} {T' : Nat → PV} (h : ∀ i, T' i = T i ∨ T' i = .any) (k : W P B n c T' H Q) : W P B n c T H Q := by
  intro σ w a g
  refine k σ w a ⟨g.sim, fun i => ?_, g.size, g.defers⟩
  rcases h i with h | h
  · rw [h]; exact g.rep i
  · rw [h]; unfold Rep; trivial
end

/-- A loop, by an index that each round lowers. -/
theorem wp_loop_ix {P : Program} {Q : Exit → Act → World → Prop} {c : Code} (I : Nat → Act → World → Prop)
    (round : ∀ m a w, I m a w → c.wp P (Exit.then (fun a' w' => ∃ m', m' < m ∧ I m' a' w') Q) a w) : ∀ m a w, I m a w → (Code.loop c).wp P Q a w := by
  have key : ∀ (m : Nat) (a : Act) (w : World), I m a w → ∀ (b : Frame) (k : List Item) (cs : List Frame),
      ∃ e a' w', Q e a' w' ∧ Arrives P (lone (b.at a (.code c :: .inLoop c :: k)) cs w) b k cs e a' w' := by
    intro m
    induction m using Nat.strongRecOn with
    | _ m ih =>
      intro a w hI b k cs
      obtain ⟨e, a1, w1, hq, harr⟩ := round m a w hI b (.inLoop c :: k) cs
      cases e with
      | normal =>
        obtain ⟨m', hlt, hI'⟩ := hq
        obtain ⟨e2, a2, w2, hq2, harr2⟩ := ih m' hlt a1 w1 hI' b k cs
        exact ⟨e2, a2, w2, hq2, .of_steps (Steps.trans harr (.one step_inLoop)) harr2⟩
      | exit id => exact ⟨_, a1, w1, hq, .pass (x := .inLoop c) rfl (fun _ _ => .inl (by simp)) harr⟩
      | goto l => exact ⟨_, a1, w1, hq, .pass (x := .inLoop c) rfl (fun _ _ => .inl (by simp)) harr⟩
      | ret => exact ⟨_, a1, w1, hq, .pass (x := .inLoop c) rfl (fun _ _ => .inl (by simp)) harr⟩
      | panic ch => exact ⟨_, a1, w1, hq, .pass (x := .inLoop c) rfl (fun _ _ => .inl (by simp)) harr⟩
      | outgrown => exact ⟨_, a1, w1, hq, .pass (x := .inLoop c) rfl (fun _ _ => .inl (by simp)) harr⟩
  intro m a w hI b k cs
  obtain ⟨e, a', w', hq, harr⟩ := key m a w hI b k cs
  exact ⟨e, a', w', hq, .of_steps (.one step_loop) harr⟩

section
variable {P : Program} {B : Nat → Nat → Prop} {n : Nat} {T : Nat → PV} {H : List Ob} {Q : Exit → (Nat → PV) → List Ob → Prop}
theorem W_loop {c : Code} (I : Nat → (Nat → PV) → List Ob → Prop) (m : Nat) (h0 : I m T H)
    (round : ∀ m T H, I m T H → W P B n c T H (thenQ (fun T' H' => ∃ m', m' < m ∧ I m' T' H') Q)) : W P B n (.loop c) T H Q := by
  intro σ w a g
  refine wp_loop_ix (fun m a' w' => ∃ T' H' σ', I m T' H' ∧ Good B n T' H' σ' w' a' ∧ Step B H σ w H' σ' w') ?_ m a w ⟨T, H, σ, h0, g, Step.refl _ _ _ _⟩
  rintro m a' w' ⟨T', H', σ', h1, h2, h3⟩
  refine wp_mono (round m T' H' h1 σ' w' a' h2) ?_
  rintro e a2 w2 ⟨T2, H2, σ2, k1, k2, k3⟩
  cases e with
  | normal => obtain ⟨m', hlt, hI⟩ := k1; exact ⟨m', hlt, T2, H2, σ2, hI, k2, h3.trans k3⟩
  | exit id => exact ⟨T2, H2, σ2, k1, k2, h3.trans k3⟩
  | goto l => exact ⟨T2, H2, σ2, k1, k2, h3.trans k3⟩
  | ret => exact ⟨T2, H2, σ2, k1, k2, h3.trans k3⟩
  | panic c => exact ⟨T2, H2, σ2, k1, k2, h3.trans k3⟩
  | outgrown => exact ⟨T2, H2, σ2, k1, k2, h3.trans k3⟩
end

/-- Operations one behind the other. -/
def wpL (P : Program) (all : Array Oper) (Q : Exit → Act → World → Prop) : List Oper → Act → World → Prop
  | [], a, w => Q .normal a w
  | o :: rest, a, w => if Region.wanted o (yielded all a.tmps) then o.wp P a w (wpL P all Q rest) Q else wpL P all Q rest (a.put o.dst undef) w
theorem wpOps_of_wpL {P : Program} {all : Array Oper} {Q : Exit → Act → World → Prop} : ∀ (l : List Oper) (k : Nat) (a : Act) (w : World), (∀ j, l[j]? = all[k + j]?) → wpL P all Q l a w → wpOps P all Q (List.range' k l.length) a w
  | [], k, a, w, _, h => by simpa [wpOps, wpL] using h
  | o :: l, k, a, w, hl, h => by
    have h0 : all[k]? = some o := by simpa using (hl 0).symm
    have hr : List.range' k (o :: l).length = k :: List.range' (k + 1) l.length := by simp [List.range'_succ]
    have hn : ∀ j, l[j]? = all[k + 1 + j]? := fun j => by have := hl (j + 1); simpa [Nat.add_assoc, Nat.add_comm 1 j] using this
    rw [hr]
    simp only [wpOps, h0]
    simp only [wpL] at h
    split
    · rename_i hw
      rw [if_pos hw] at h
      exact .inl (Oper.wp_mono (fun a w h => wpOps_of_wpL l (k + 1) a w hn h) h)
    · rename_i hw
      rw [if_neg hw] at h
      exact wpOps_of_wpL l (k + 1) _ w hn h
theorem wp_region_L {P : Program} {id : Nat} {l : List Oper} {Q : Exit → Act → World → Prop} {a : Act} {w : World} (h : wpL P l.toArray Q l a w) : (Code.region id l.toArray false).wp P Q a w := by
  refine wp_region ?_
  have := wpOps_of_wpL (all := l.toArray) l 0 a w (fun j => by simp) h
  rwa [List.range_eq_range', List.size_toArray]

/-- All slots that a region writes are there. -/
def dstsOk (n : Nat) (all : Array Oper) : Bool := all.toList.all fun o => match o.dst with | some d => Nat.blt d n | none => true
theorem dstsOk_spec {n : Nat} {all : Array Oper} (h : dstsOk n all = true) : ∀ (i d : Nat), (all[i]?).bind (·.dst) = some d → Nat.blt d n = true := by
  intro i d hd
  unfold dstsOk at h
  rw [List.all_eq_true] at h
  cases ho : all[i]? with
  | none => rw [ho] at hd; cases hd
  | some o =>
    rw [ho] at hd
    simp only [Option.bind_some] at hd
    have hm : o ∈ all.toList := by rw [Array.mem_toList_iff]; exact Array.mem_of_getElem? ho
    have := h o hm
    rw [hd] at this
    exact this

def dOk (n : Nat) : Option Tmp → Bool
  | some d => Nat.blt d n
  | none => true
def nfD (n : Nat) : Option Tmp → Option (Option Tmp)
  | some d => match Nat.blt d n with
    | true => some (some d)
    | false => none
  | none => some none
theorem nfD_eq {n : Nat} {x d : Option Tmp} (h : nfD n x = some d) : d = x ∧ dOk n x = true := by
  cases x with
  | none => injection h with h; exact ⟨h.symm, rfl⟩
  | some i =>
    simp only [nfD] at h
    split at h
    · rename_i hi; injection h with h; exact ⟨h.symm, hi⟩
    · cases h
theorem dOk_spec {n : Nat} {d : Option Tmp} (h : dOk n d = true) : ∀ i, d = some i → Nat.blt i n = true := by rintro i rfl; exact h

/-- Operations over values without addresses. -/
def WO (P : Program) (B : Nat → Nat → Prop) (n : Nat) (all : Array Oper) (l : List Oper) (T : Nat → PV) (H : List Ob) (K : (Nat → PV) → List Ob → Prop) : Prop :=
  dstsOk n all = true → ∀ σ w a, Good B n T H σ w a → wpL P all (Post B n H σ w (thenQ K fun _ _ _ => False)) l a w

theorem wpL_mono {P : Program} {all : Array Oper} {Q Q' : Exit → Act → World → Prop} (hq : ∀ e a w, Q e a w → Q' e a w) : ∀ (l : List Oper) (a : Act) (w : World), wpL P all Q l a w → wpL P all Q' l a w
  | [], a, w, h => hq _ _ _ h
  | o :: l, a, w, h => by
    simp only [wpL] at h ⊢
    split
    · rename_i hw
      rw [if_pos hw] at h
      unfold Oper.wp at h ⊢
      generalize (execOp a.eval o).run P w = r at h ⊢
      cases r with
      | ok x w' =>
        cases x <;> simp only [Oper.upon] at h ⊢
        case value v => exact wpL_mono hq l _ _ h
        case skip => exact wpL_mono hq l _ _ h
        case defer d => exact wpL_mono hq l _ _ h
        case enter f args =>
          refine Calls.mono h fun e w' k => ?_
          cases e with
          | returned v => exact wpL_mono hq l _ _ k
          | panicked c => exact hq _ _ _ k
          | outgrown => obtain ⟨a0, w0, k⟩ := k; exact ⟨a0, w0, hq _ _ _ k⟩
        case row r args => exact Rows.mono h fun v w' k => wpL_mono hq l _ _ k
      | halt x w' => cases x <;> simp only [Oper.upon] at h ⊢; exact hq _ _ _ h
    · rename_i hw
      rw [if_neg hw] at h
      exact wpL_mono hq l _ _ h

section
variable {P : Program} {B : Nat → Nat → Prop} {n : Nat} {T : Nat → PV} {H : List Ob} {Q : Exit → (Nat → PV) → List Ob → Prop}
theorem W_region {id : Nat} {l : List Oper} (hall : dstsOk n l.toArray = true) (h : WO P B n l.toArray l T H (fun T' H' => Q .normal T' H')) : W P B n (.region id l.toArray false) T H Q := by
  intro σ w a g
  refine wp_region_L (wpL_mono ?_ _ _ _ (h hall σ w a g))
  rintro e a' w' ⟨T', H', σ', h1, h2, h3⟩
  cases e <;> first | exact ⟨T', H', σ', h1, h2, h3⟩ | exact False.elim h1

variable {all : Array Oper} {K : (Nat → PV) → List Ob → Prop}
theorem WO_nil (h : K T H) : WO P B n all [] T H K := fun _ σ w a g => ⟨T, H, σ, h, g, Step.refl _ _ _ _⟩

/-- Whether an operation is wanted. -/
def wantedA (all : Array Oper) (T : Nat → PV) (o : Oper) : Option Bool :=
  match o.guard with
  | none => some true
  | some (g, b) => match (all[g]?).bind (·.dst) with
    | some d => match T d with
      | .val (.bool x) => match x, b with
        | true, true => some true
        | false, false => some true
        | true, false => some false
        | false, true => some false
      | .val (.tuple _) => some false
      | _ => none
    | none => none
theorem wantedA_spec {c : Cx} {a : Act} {o : Oper} {q : Bool} (h : ∀ (g : Nat) (b : Bool) (d : Nat), o.guard = some (g, b) → (all[g]?).bind (·.dst) = some d → d < a.tmps.size ∧ Rep c (T d) (a.tmps.getD d undef)) (k : wantedA all T o = some q) :
    Region.wanted o (yielded all a.tmps) = q := by
  unfold wantedA at k
  unfold Region.wanted
  split at k
  · rename_i hg; rw [hg]; injection k
  · rename_i g b hg
    rw [hg]
    simp only
    split at k
    · rename_i d hd
      obtain ⟨h0, h1⟩ := h g b d hg hd
      have h2 : a.tmps[d]? = some (a.tmps.getD d undef) := by simp [Array.getElem?_eq_getElem h0, Array.getD, h0]
      split at k
      · rename_i x hx
        rw [hx] at h1
        unfold Rep at h1
        have hy : yielded all a.tmps g = some x := by unfold yielded; rw [hd]; simp only [Option.bind_some]; rw [h2, h1]
        rw [hy]
        cases x <;> cases b <;> simp at k <;> subst k <;> rfl
      · rename_i x hx
        rw [hx] at h1
        unfold Rep at h1
        have hy : yielded all a.tmps g = none := by unfold yielded; rw [hd]; simp only [Option.bind_some]; rw [h2, h1]
        rw [hy]
        cases k
        rfl
      · cases k
    · cases k

/-- What an operation does, in each world that the state stands for. -/
def Does (P : Program) (B : Nat → Nat → Prop) (o : Oper) (T : Nat → PV) (H : List Ob) (x : PV) (H' : List Ob) : Prop :=
  ∀ (σ : Nat → Option Nat) (w : World) (a : Act), Sim B H σ w → (∀ y ∈ o.op.operands.toList, Rep (cx B H σ w) (opv T y) (a.eval y)) →
    ∃ (v : Value) (w' : World) (σ' : Nat → Option Nat), ((execOp a.eval o).run P w = .ok (.value v) w' ∨ (execOp a.eval o).run P w = .ok .skip w' ∧ v = undef) ∧ Rep (cx B H' σ' w') x v ∧ Sim B H' σ' w' ∧ Step B H σ w H' σ' w'
/-- The same of a call. -/
def DoesC (P : Program) (B : Nat → Nat → Prop) (o : Oper) (T : Nat → PV) (H : List Ob) (x : PV) (H' : List Ob) : Prop :=
  ∀ (σ : Nat → Option Nat) (w : World) (a : Act), Sim B H σ w → (∀ y ∈ o.op.operands.toList, Rep (cx B H σ w) (opv T y) (a.eval y)) →
    ∃ (f : FuncId) (args : Array Value), (execOp a.eval o).run P w = .ok (.enter f args) w ∧ Calls P f args w fun e w' => ∃ v σ', e = .returned v ∧ Rep (cx B H' σ' w') x v ∧ Sim B H' σ' w' ∧ Step B H σ w H' σ' w'

theorem good_put {σ : Nat → Option Nat} {w : World} {a : Act} {H' : List Ob} {σ' : Nat → Option Nat} {w' : World} {x : PV} {v : Value} {d : Option Tmp} (hd : ∀ i, d = some i → Nat.blt i n = true) (g : Good B n T H σ w a) (h1 : Rep (cx B H' σ' w') x v) (h2 : Sim B H' σ' w') (h3 : Step B H σ w H' σ' w') :
    Good B n (updD d x T) H' σ' w' (a.put d v) := by
  cases d with
  | none => exact ⟨h2, fun i => (g.rep i).mono h3.le, g.size, g.defers⟩
  | some d =>
    have hlt : d < n := by have := hd d rfl; simpa [Nat.blt_eq] using this
    refine ⟨h2, fun i => ?_, by simp [Act.put, g.size], g.defers⟩
    by_cases hi : i = d
    · subst hi
      show Rep _ (upd i x T i) _
      rw [upd_same]
      have : (a.put (some i) v).tmps.getD i undef = v := by simp [Act.put, Array.getD, g.size, hlt]
      rw [this]; exact h1
    · show Rep _ (upd d x T i) _
      rw [upd_other _ _ _ _ hi]
      have : (a.put (some d) v).tmps.getD i undef = a.tmps.getD i undef := by simp [Act.put, Array.getD_eq_getD_getElem?, Array.getElem?_setIfInBounds_ne (Ne.symm hi)]
      rw [this]; exact (g.rep i).mono h3.le

theorem guard_ok (hall : ∀ (i d : Nat), (all[i]?).bind (·.dst) = some d → Nat.blt d n = true) {σ : Nat → Option Nat} {w : World} {a : Act} (g : Good B n T H σ w a) {o : Oper} {q : Bool} (k : wantedA all T o = some q) : Region.wanted o (yielded all a.tmps) = q :=
  wantedA_spec (c := cx B H σ w) (fun i b d _ hd => ⟨by have := hall i d hd; rw [g.size]; simpa [Nat.blt_eq] using this, g.rep d⟩) k

theorem WO_does {o : Oper} {l : List Oper} {x : PV} {H' : List Ob} {d : Option Tmp} (hd : nfD n o.dst = some d) (hw : wantedA all T o = some true) (h : Does P B o T H x H') (k : WO P B n all l (updD d x T) H' K) : WO P B n all (o :: l) T H K := by
  obtain ⟨rfl, hd0⟩ := nfD_eq hd
  intro hall σ w a g
  obtain ⟨v, w', σ', h1, h2, h3, h4⟩ := h σ w a g.sim (fun y _ => rep_opv g.rep y)
  have g' := good_put (dOk_spec hd0) g h2 h3 h4
  have k' := wpL_mono (fun _ _ _ h => post_mono h4 (fun _ _ _ h => h) h) _ _ _ (k hall σ' w' _ g')
  simp only [wpL]
  rw [if_pos (guard_ok (dstsOk_spec hall) g hw)]
  unfold Oper.wp
  rcases h1 with h1 | ⟨h1, rfl⟩
  · rw [h1]; exact k'
  · rw [h1]; exact k'
theorem WO_call {o : Oper} {l : List Oper} {x : PV} {H' : List Ob} {d : Option Tmp} (hd : nfD n o.dst = some d) (hw : wantedA all T o = some true) (h : DoesC P B o T H x H') (k : WO P B n all l (updD d x T) H' K) : WO P B n all (o :: l) T H K := by
  obtain ⟨rfl, hd0⟩ := nfD_eq hd
  intro hall σ w a g
  obtain ⟨f, args, h1, hc⟩ := h σ w a g.sim (fun y _ => rep_opv g.rep y)
  simp only [wpL]
  rw [if_pos (guard_ok (dstsOk_spec hall) g hw)]
  unfold Oper.wp
  rw [h1]
  refine Calls.mono hc ?_
  rintro e w' ⟨v, σ', rfl, h2, h3, h4⟩
  exact wpL_mono (fun _ _ _ h => post_mono h4 (fun _ _ _ h => h) h) _ _ _ (k hall σ' w' _ (good_put (dOk_spec hd0) g h2 h3 h4))
theorem WO_skip {o : Oper} {l : List Oper} {d : Option Tmp} (hd : nfD n o.dst = some d) (hw : wantedA all T o = some false) (k : WO P B n all l (updD d (.val undef) T) H K) : WO P B n all (o :: l) T H K := by
  obtain ⟨rfl, hd0⟩ := nfD_eq hd
  intro hall σ w a g
  simp only [wpL]
  rw [if_neg (by rw [guard_ok (dstsOk_spec hall) g hw]; simp)]
  exact k hall σ w _ (good_put (dOk_spec hd0) g (rep_val _ _) g.sim (Step.refl _ _ _ _))
/-- A slot that holds a Boolean: both ways. -/
theorem WO_split {l : List Oper} (d : Nat) {b : Bool} (hT : T d = .val (.bool b)) (h1 : b = true → WO P B n all l (upd d (.val (.bool true)) T) H K) (h2 : b = false → WO P B n all l (upd d (.val (.bool false)) T) H K) : WO P B n all l T H K := by
  have e : ∀ q, b = q → upd d (.val (.bool q)) T = T := by
    rintro q rfl
    funext i
    by_cases hi : i = d
    · subst hi; rw [upd_same, hT]
    · rw [upd_other _ _ _ _ hi]
  cases hb : b with
  | true => have := h1 hb; rwa [e true hb] at this
  | false => have := h2 hb; rwa [e false hb] at this
theorem WO_true {l : List Oper} (d : Nat) {b : Bool} (hT : T d = .val (.bool b)) (hb : b = true) (h1 : WO P B n all l (upd d (.val (.bool true)) T) H K) : WO P B n all l T H K :=
  WO_split d hT (fun _ => h1) (fun h => by rw [hb] at h; cases h)
theorem WO_false {l : List Oper} (d : Nat) {b : Bool} (hT : T d = .val (.bool b)) (hb : b = false) (h1 : WO P B n all l (upd d (.val (.bool false)) T) H K) : WO P B n all l T H K :=
  WO_split d hT (fun h => by rw [hb] at h; cases h) (fun _ => h1)
/-- A slot's value in other words. -/
theorem WO_as {l : List Oper} (d : Nat) {x y : PV} (hT : T d = x) (hxy : x = y) (h1 : WO P B n all l (upd d y T) H K) : WO P B n all l T H K := by
  have e : upd d y T = T := by
    funext i
    by_cases hi : i = d
    · subst hi; rw [upd_same, hT, hxy]
    · rw [upd_other _ _ _ _ hi]
  rwa [e] at h1
theorem WO_weaken {l : List Oper} {T' : Nat → PV} (h : ∀ i, T' i = T i ∨ T' i = .any) (k : WO P B n all l T' H K) : WO P B n all l T H K := by
  intro hall σ w a g
  refine k hall σ w a ⟨g.sim, fun i => ?_, g.size, g.defers⟩
  rcases h i with h | h
  · rw [h]; exact g.rep i
  · rw [h]; unfold Rep; trivial
end
end Go.Proofs.Ytkchnmilmepnfaa
