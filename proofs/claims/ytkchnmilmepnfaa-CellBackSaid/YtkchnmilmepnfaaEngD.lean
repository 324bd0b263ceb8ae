/- The engine, part D: what the operations do over values without addresses: moves, numbers, fields, variables. No condition. -/
import Derived.Test.YtkchnmilmepnfaaEngC
import Derived.WalkLawsBesides
namespace Go.Proofs.Ytkchnmilmepnfaa
open Go.RowKit
set_option linter.unusedVariables false

/-- What is known of a type. -/
inductive Sh where
  | other
  | bool
  | int (k : IntKind)
  | str
  | struct (fs : List (Nat × Nat × Bool))
  | slice (e : Nat)
  | array (n e : Nat)
structure TD where
  size : Nat
  bytes : Nat
  zero : List PV
  sh : Sh
def TD.agg (d : TD) : Bool := match d.sh with
  | .struct _ => true
  | .array _ _ => true
  | _ => false
def zCell : PV → Value → Bool
  | .val (.int k n), .int k' n' => decide (k = k') && decide (n = n')
  | .val (.bool b), .bool b' => b == b'
  | .val (.string s), .string s' => decide (s.data.toList = s'.data.toList)
  | .val (.pointer none), .pointer none => true
  | .val (.map none), .map none => true
  | .val .nilFunc, .nilFunc => true
  | .val .nilIface, .nilIface => true
  | .seq 0 [] .clip, .slice none 0 0 => true
  | _, _ => false
def zCells : List PV → List Value → Bool
  | [], [] => true
  | x :: xs, v :: vs => zCell x v && zCells xs vs
  | _, _ => false
theorem zCell_rep (c : Cx) {x : PV} {v : Value} (h : zCell x v = true) : Rep c x v := by
  unfold zCell at h
  split at h
  · simp at h; obtain ⟨rfl, rfl⟩ := h; exact rep_val c _
  · simp at h; subst h; exact rep_val c _
  · rename_i s s'
    have e : s.data.toList = s'.data.toList := of_decide_eq_true h
    have e' : s = s' := by
      obtain ⟨⟨l⟩⟩ := s
      obtain ⟨⟨l'⟩⟩ := s'
      simp at e
      rw [e]
    subst e'; exact rep_val c _
  · exact rep_val c _
  · exact rep_val c _
  · exact rep_val c _
  · exact rep_val c _
  · exact rep_nil c
  · cases h
theorem zCells_rep (c : Cx) : ∀ {xs : List PV} {vs : List Value}, zCells xs vs = true → RepL c xs vs
  | [], [], _ => repL_nil.2 rfl
  | x :: xs, v :: vs, h => by simp only [zCells, Bool.and_eq_true] at h; exact repL_cons.2 ⟨zCell_rep c h.1, zCells_rep c h.2⟩
  | [], v :: vs, h => by cases h
  | x :: xs, [], h => by cases h

def aggB (P : Program) (t : TypeId) : Option Bool := match P.underlying t with
  | some (.struct _) => some true
  | some (.array _ _) => some true
  | some _ => some false
  | none => none
def fieldOk (P : Program) : Field × (Nat × Nat × Bool) → Bool
  | (f, (o, s, g)) => decide (f.offset = o) && decide (s ≠ 0) && (match P.info? f.type with | some i => decide (i.size = s) | none => false) && (match aggB P f.type with | some b => b == g | none => false)
def shOk (P : Program) : TypeDesc → Sh → Bool
  | .struct F, .struct fs => decide (F.size = fs.length) && (F.toList.zip fs).all (fieldOk P)
  | .slice e, .slice e' => decide (e = e')
  | .array n e, .array n' e' => decide (n = n') && decide (e = e')
  | .int k, .int k' => decide (k = k')
  | .string, .str => true
  | .bool, .bool => true
  | .struct _, _ => false
  | .array _ _, _ => false
  | _, .other => true
  | _, _ => false
def tyOk (P : Program) (t : TypeId) (d : TD) : Bool :=
  (match P.info? t with
    | some i => decide (i.size = d.size) && decide (i.bytes = d.bytes ∧ d.zero.length = d.size) && (match i.zero with | some z => zCells d.zero z.cells.toList | none => false)
    | none => false) &&
  (match P.underlying t with
    | some u => shOk P u d.sh
    | none => false)

structure TyFacts (P : Program) (t : TypeId) (d : TD) : Prop where
  info : ∃ i z, P.info? t = some i ∧ i.size = d.size ∧ i.bytes = d.bytes ∧ i.zero = some z ∧ ∀ c, RepL c d.zero z.cells.toList
  zlen : d.zero.length = d.size
  under : ∃ u, P.underlying t = some u ∧ shOk P u d.sh = true
theorem tyOk_spec {P : Program} {t : TypeId} {d : TD} (h : tyOk P t d = true) : TyFacts P t d := by
  unfold tyOk at h
  simp only [Bool.and_eq_true] at h
  obtain ⟨h1, h2⟩ := h
  cases hi : P.info? t with
  | none => rw [hi] at h1; cases h1
  | some i =>
  rw [hi] at h1
  simp only [Bool.and_eq_true, decide_eq_true_eq] at h1
  obtain ⟨⟨h3, h4, h4'⟩, h5⟩ := h1
  refine ⟨?_, h4', ?_⟩
  · cases hz : i.zero with
    | none => rw [hz] at h5; cases h5
    | some z => rw [hz] at h5; exact ⟨i, z, hi, h3, h4, hz, fun c => zCells_rep c h5⟩
  · cases hu : P.underlying t with
    | none => rw [hu] at h2; cases h2
    | some u => rw [hu] at h2; exact ⟨u, rfl, h2⟩
section
variable {P : Program} {t : TypeId} {d : TD}
theorem TyFacts.sizeOf (f : TyFacts P t d) (w : World) : (sizeOf t).run P w = .ok d.size w := by
  obtain ⟨i, z, h1, h2, _⟩ := f.info
  simp [Go.sizeOf, typeInfo, h1, h2]
theorem TyFacts.isAgg (f : TyFacts P t d) (w : World) : (isAgg t).run P w = .ok d.agg w := by
  obtain ⟨u, h1, h2⟩ := f.under
  unfold Go.isAgg
  simp only [Sem.run_bind, run_underlying h1, Result.andThen_ok]
  unfold TD.agg
  cases u <;> cases hs : d.sh <;> rw [hs] at h2 <;> first | (cases h2; done) | rfl
theorem TyFacts.struct (f : TyFacts P t d) {fs : List (Nat × Nat × Bool)} (h : d.sh = .struct fs) : ∃ F : Array Field, P.underlying t = some (.struct F) ∧ ∀ (i o s : Nat) (g : Bool), fs[i]? = some (o, s, g) → ∃ x : Field, F[i]? = some x ∧ x.offset = o ∧ s ≠ 0 ∧ (∀ w, (Go.sizeOf x.type).run P w = .ok s w) ∧ ∀ w, (Go.isAgg x.type).run P w = .ok g w := by
  obtain ⟨u, h1, h2⟩ := f.under
  rw [h] at h2
  cases u with
  | struct F =>
    refine ⟨F, h1, fun i o s g hi => ?_⟩
    simp only [shOk, Bool.and_eq_true, decide_eq_true_eq] at h2
    obtain ⟨h3, h4⟩ := h2
    have hlt : i < F.size := by rw [h3]; exact lt_of_get hi
    refine ⟨F[i], by rw [Array.getElem?_eq_getElem hlt], ?_⟩
    rw [List.all_eq_true] at h4
    have h5 := h4 (F[i], (o, s, g)) (by
      rw [List.mem_iff_getElem?]
      refine ⟨i, ?_⟩
      rw [List.getElem?_zip_eq_some]
      exact ⟨by simp [hlt], hi⟩)
    simp only [fieldOk, Bool.and_eq_true, decide_eq_true_eq] at h5
    obtain ⟨⟨⟨h6, h7⟩, h8⟩, h9⟩ := h5
    refine ⟨h6, h7, fun w => ?_, fun w => ?_⟩
    · cases hi : P.info? F[i].type with
      | none => rw [hi] at h8; cases h8
      | some x => rw [hi] at h8; simp at h8; simp [Go.sizeOf, typeInfo, hi, h8]
    · unfold aggB at h9
      unfold Go.isAgg
      cases hu : P.underlying F[i].type with
      | none => rw [hu] at h9; cases h9
      | some u =>
        rw [hu] at h9
        simp only [Sem.run_bind, run_underlying hu, Result.andThen_ok]
        cases u <;> simp at h9 <;> subst h9 <;> rfl
  | _ => cases h2
theorem TyFacts.slice (f : TyFacts P t d) {e : Nat} (h : d.sh = .slice e) : P.underlying t = some (.slice e) := by
  obtain ⟨u, h1, h2⟩ := f.under
  rw [h] at h2
  cases u <;> first | (cases h2; done) | (simp [shOk] at h2; subst h2; exact h1)
theorem TyFacts.array (f : TyFacts P t d) {n e : Nat} (h : d.sh = .array n e) : P.underlying t = some (.array n e) := by
  obtain ⟨u, h1, h2⟩ := f.under
  rw [h] at h2
  cases u <;> first | (cases h2; done) | (simp [shOk] at h2; obtain ⟨rfl, rfl⟩ := h2; exact h1)
theorem TyFacts.int (f : TyFacts P t d) {k : IntKind} (h : d.sh = .int k) : P.underlying t = some (.int k) := by
  obtain ⟨u, h1, h2⟩ := f.under
  rw [h] at h2
  cases u <;> first | (cases h2; done) | (simp [shOk] at h2; subst h2; exact h1)
theorem TyFacts.bool (f : TyFacts P t d) (h : d.sh = .bool) : P.underlying t = some .bool := by
  obtain ⟨u, h1, h2⟩ := f.under
  rw [h] at h2
  cases u <;> first | (cases h2; done) | exact h1
theorem TyFacts.str (f : TyFacts P t d) (h : d.sh = .str) : P.underlying t = some .string := by
  obtain ⟨u, h1, h2⟩ := f.under
  rw [h] at h2
  cases u <;> first | (cases h2; done) | exact h1
end

/-- A computation that asks nothing of the world. -/
def pureOf {α : Type} : Sem α → Option α
  | .pure a => some a
  | _ => none
theorem pureOf_run {α : Type} {s : Sem α} {x : α} (h : pureOf s = some x) (P : Program) (w : World) : s.run P w = .ok x w := by
  cases s <;> simp [pureOf] at h
  subst h; rfl
def binA (op : BinOp) (t : TypeId) (x y : Operand) (u v : Value) : Option Value := match pureOf (eqGuard op t x y u v) with
  | some _ => pureOf (binOp op t u v)
  | none => none

/-- What a variable of a type reads as, from a cell on. -/
def loadPV (d : TD) (xs : List PV) (off : Nat) : Option PV := match d.agg with
  | true => match Nat.ble (off + d.size) xs.length with
    | true => some (.agg ((xs.drop off).take d.size))
    | false => none
  | false => xs[off]?
/-- The cells of a value. -/
def cellsPV : PV → Option (List PV)
  | .agg cs => some cs
  | .any => none
  | .tup _ => none
  | .val (.agg _) => none
  | .val (.tuple _) => none
  | x => some [x]
def okC : PV → Bool
  | .val v => v.oneCell'
  | .any => false
  | .agg _ => false
  | .tup _ => false
  | _ => true
theorem cellsPV_rep {c : Cx} {x : PV} {xs : List PV} {v : Value} (h : cellsPV x = some xs) (k : Rep c x v) : RepL c xs v.cells.toList := by
  have one : ∀ {x : PV}, Rep c x v → v.cells = #[v] → RepL c [x] v.cells.toList := fun hx e => by rw [e]; exact repL_cons.2 ⟨hx, repL_nil.2 rfl⟩
  cases x with
  | agg cs => injection h with h; subst h; unfold Rep at k; obtain ⟨vs, rfl, k⟩ := k; simpa [Value.cells] using k
  | any => cases h
  | tup cs => cases h
  | val u =>
    have k' := k
    unfold Rep at k
    subst k
    cases v <;> first | (cases h; done) | (injection h with h; subst h; exact one k' rfl)
  | ptr i off => injection h with h; subst h; have k' := k; unfold Rep at k; obtain ⟨_, b, _, rfl⟩ := k; exact one k' rfl
  | seq n ys s => injection h with h; subst h; have k' := k; unfold Rep at k; obtain ⟨a, cap, vs, rfl, _⟩ := k; exact one k' rfl
  | row ys => injection h with h; subst h; have k' := k; unfold Rep at k; obtain ⟨b, vs, rfl, _⟩ := k; exact one k' rfl
  | arr i off n cap => injection h with h; subst h; have k' := k; unfold Rep at k; obtain ⟨_, b, _, rfl⟩ := k; exact one k' rfl
  | fn f a b => injection h with h; subst h; have k' := k; unfold Rep at k; obtain ⟨_, _, rfl, _⟩ := k; exact one k' rfl
  | mapv i => injection h with h; subst h; have k' := k; unfold Rep at k; obtain ⟨_, b, _, rfl⟩ := k; exact one k' rfl
theorem okC_rep {c : Cx} {x : PV} {v : Value} (h : okC x = true) (k : Rep c x v) : v.oneCell' = true := by
  cases x with
  | val u => unfold Rep at k; subst k; exact h
  | any => cases h
  | agg cs => cases h
  | tup cs => cases h
  | ptr i off => unfold Rep at k; obtain ⟨_, b, _, rfl⟩ := k; rfl
  | seq n ys s => unfold Rep at k; obtain ⟨a, cap, vs, rfl, _⟩ := k; rfl
  | row ys => unfold Rep at k; obtain ⟨b, vs, rfl, _⟩ := k; rfl
  | arr i off n cap => unfold Rep at k; obtain ⟨_, b, _, rfl⟩ := k; rfl
  | fn f a b => unfold Rep at k; obtain ⟨_, _, rfl, _⟩ := k; rfl
  | mapv i => unfold Rep at k; obtain ⟨_, b, _, rfl⟩ := k; rfl
theorem okC_repL {c : Cx} : ∀ {xs : List PV} {vs : List Value}, xs.all okC = true → RepL c xs vs → ∀ v ∈ vs, v.oneCell' = true
  | [], vs, _, h, v, hv => by rw [repL_nil] at h; subst h; cases hv
  | x :: xs, [], _, h, v, hv => by cases hv
  | x :: xs, u :: us, ho, h, v, hv => by
    rw [repL_cons] at h
    simp only [List.all_cons, Bool.and_eq_true] at ho
    cases hv with
    | head => exact okC_rep ho.1 h.1
    | tail _ hv => exact okC_repL ho.2 h.2 v hv

theorem cell_of_heap {w : World} {b : Nat} {vs : List Value} {e : TypeId} {fr : Nat × Nat} (h : w.heap[b]? = some (Obj.cells vs.toArray e fr)) (j : Nat) : w.cell? ⟨b, j, none⟩ = vs[j]? := by
  simp [World.cell?, h]

section
variable {P : Program} {B : Nat → Nat → Prop} {o : Oper} {T : Nat → PV} {H : List Ob}
theorem does_pure {x : PV} (h : ∀ (σ : Nat → Option Nat) (w : World) (a : Act), Sim B H σ w → (∀ y ∈ o.op.operands.toList, Rep (cx B H σ w) (opv T y) (a.eval y)) → ∃ v, (execOp a.eval o).run P w = .ok (.value v) w ∧ Rep (cx B H σ w) x v) : Does P B o T H x H := by
  intro σ w a s ho
  obtain ⟨v, h1, h2⟩ := h σ w a s ho
  exact ⟨v, w, σ, .inl h1, h2, s, Step.refl _ _ _ _⟩

theorem run_loadVar_row {w : World} {b off : Nat} {t : TypeId} {d : TD} (f : TyFacts P t d) {c : Cx} {xs : List PV} {vs : List Value} (hr : RepL c xs vs) (hc : ∀ (j : Nat) u, vs[j]? = some u → w.cell? ⟨b, off + j, none⟩ = some u) {k : Nat} {x : PV} (hx : loadPV d xs k = some x) :
    ∃ v, (loadVar t ⟨b, off + k, none⟩).run P w = .ok v w ∧ Rep c x v := by
  unfold loadPV at hx
  unfold loadVar
  simp only [Sem.run_bind, f.isAgg, Result.andThen_ok]
  cases ha : d.agg with
  | true =>
    rw [ha] at hx
    simp only at hx
    split at hx
    · rename_i hle
      rw [Nat.ble_eq] at hle
      injection hx with hx; subst hx
      have hlen : ((vs.drop k).take d.size).length = d.size := by rw [List.length_take, List.length_drop, RepL.length hr]; omega
      have hl := run_loadCells_list (P := P) w ⟨b, off + k, none⟩ ((vs.drop k).take d.size) (fun j v hj => by
        rw [List.getElem?_take] at hj
        split at hj
        · rw [List.getElem?_drop] at hj
          rw [Addr.add_lit, Nat.add_assoc]; exact hc _ _ hj
        · cases hj)
      rw [hlen] at hl
      refine ⟨.agg ((vs.drop k).take d.size).toArray, ?_, ?_⟩
      · simp [f.sizeOf, hl]
      · unfold Rep; exact ⟨_, rfl, (hr.drop k).take d.size⟩
    · cases hx
  | false =>
    rw [ha] at hx
    obtain ⟨u, hu, hru⟩ := hr.get hx
    refine ⟨u, ?_, hru⟩
    have := hc k u hu
    simp [this]

theorem mem_op {x : Operand} {l : List Operand} (h : o.op.operands.toList = l) (hx : x ∈ l) : x ∈ o.op.operands.toList := by rw [h]; exact hx

theorem does_move {x : Operand} (ho : o.op = .move x) : Does P B o T H (opv T x) H :=
  does_pure fun σ w a s h => ⟨a.eval x, by simp [execOp, ho], h x (by simp [ho, Op.operands])⟩
theorem does_assign {x : Operand} (ho : o.op = .assign x) : Does P B o T H (opv T x) H :=
  does_pure fun σ w a s h => ⟨a.eval x, by simp [execOp, ho], h x (by simp [ho, Op.operands])⟩
theorem does_pick {c x y : Operand} {b : Bool} (ho : o.op = .pick c x y) (hc : opv T c = .val (.bool b)) : Does P B o T H (if b then opv T x else opv T y) H :=
  does_pure fun σ w a s h => by
    have h1 := h c (by simp [ho, Op.operands])
    have h2 := h x (by simp [ho, Op.operands])
    have h3 := h y (by simp [ho, Op.operands])
    rw [hc] at h1
    unfold Rep at h1
    cases b with
    | true => exact ⟨a.eval x, by simp [execOp, ho, h1, asBool], h2⟩
    | false => exact ⟨a.eval y, by simp [execOp, ho, h1, asBool], h3⟩
theorem does_bin {op : BinOp} {t yt : TypeId} {x y : Operand} {u v r : Value} (ho : o.op = .binOp op t x y yt) (hx : opv T x = .val u) (hy : opv T y = .val v) (hr : binA op t x y u v = some r) : Does P B o T H (.val r) H :=
  does_pure fun σ w a s h => by
    have h1 := h x (by simp [ho, Op.operands])
    have h2 := h y (by simp [ho, Op.operands])
    rw [hx] at h1
    rw [hy] at h2
    unfold Rep at h1 h2
    unfold binA at hr
    split at hr
    · rename_i z hz
      refine ⟨r, ?_, rep_val _ _⟩
      have e1 := pureOf_run hz P w
      have e2 := pureOf_run hr P w
      simp [execOp, ho, h1, h2, e1, e2]
    · cases hr
theorem does_un {op : UnOp} {t : TypeId} {x : Operand} {u r : Value} (ho : o.op = .unOp op t x) (hx : opv T x = .val u) (hr : pureOf (Op.unary op u) = some r) : Does P B o T H (.val r) H :=
  does_pure fun σ w a s h => by
    have h1 := h x (by simp [ho, Op.operands])
    rw [hx] at h1
    unfold Rep at h1
    exact ⟨r, by simp [execOp, ho, h1, pureOf_run hr P w], rep_val _ _⟩
theorem does_extract {x : Operand} {i : Nat} {cs : List PV} {r : PV} (ho : o.op = .extract x i) (hx : opv T x = .tup cs) (hr : cs[i]? = some r) : Does P B o T H r H :=
  does_pure fun σ w a s h => by
    have h1 := h x (by simp [ho, Op.operands])
    rw [hx] at h1
    unfold Rep at h1
    obtain ⟨vs, h1, h2⟩ := h1
    obtain ⟨u, hu, hru⟩ := h2.get hr
    exact ⟨u, by simp [execOp, ho, h1, Instr.extract, hu], hru⟩
theorem does_nilCheck_ptr {x : Operand} {i off : Nat} (ho : o.op = .nilCheck x) (hx : opv T x = .ptr i off) : Does P B o T H (.ptr i off) H :=
  does_pure fun σ w a s h => by
    have h1 := h x (by simp [ho, Op.operands])
    rw [hx] at h1
    have h1' := h1
    unfold Rep at h1
    obtain ⟨_, b, _, h1⟩ := h1
    exact ⟨a.eval x, by simp [execOp, ho, h1], h1'⟩
theorem does_nilCheck_row {x : Operand} {xs : List PV} (ho : o.op = .nilCheck x) (hx : opv T x = .row xs) : Does P B o T H (.row xs) H :=
  does_pure fun σ w a s h => by
    have h1 := h x (by simp [ho, Op.operands])
    rw [hx] at h1
    have h1' := h1
    unfold Rep at h1
    obtain ⟨b, vs, h1, _⟩ := h1
    exact ⟨a.eval x, by simp [execOp, ho, h1], h1'⟩
theorem does_load_ptr {t : TypeId} {d : TD} {x : Operand} {i off : Nat} {xs : List PV} {e : TypeId} {r : PV} (f : TyFacts P t d) (ho : o.op = .load t x) (hx : opv T x = .ptr i off) (hi : H[i]? = some (.cells xs e)) (hr : loadPV d xs off = some r) : Does P B o T H r H :=
  does_pure fun σ w a s h => by
    have h1 := h x (by simp [ho, Op.operands])
    rw [hx] at h1
    unfold Rep at h1
    obtain ⟨_, b, hb, h1⟩ := h1
    obtain ⟨b', vs, hb', hv, hrl⟩ := s.holds i _ hi
    simp only [cx] at hb hb' hv
    rw [hb] at hb'
    cases hb'
    obtain ⟨v, h2, h3⟩ := run_loadVar_row (P := P) (w := w) (b := b) (off := 0) f hrl (fun j u hj => by rw [Nat.zero_add, cell_of_heap hv]; exact hj) hr
    rw [Nat.zero_add] at h2
    exact ⟨v, by simp [execOp, ho, h1, Instr.loadAt, Instr.sureAddr, h2], h3⟩
theorem does_load_row {t : TypeId} {d : TD} {x : Operand} {xs : List PV} {r : PV} (f : TyFacts P t d) (ho : o.op = .load t x) (hx : opv T x = .row xs) (hr : loadPV d xs 0 = some r) : Does P B o T H r H :=
  does_pure fun σ w a s h => by
    have h1 := h x (by simp [ho, Op.operands])
    rw [hx] at h1
    unfold Rep at h1
    obtain ⟨b, vs, h1, hrl, hs, hl⟩ := h1
    obtain ⟨v, h2, h3⟩ := run_loadVar_row (P := P) (w := w) (b := b.block) (off := b.off) f hrl (fun j u hj => (hl j u hj).1) hr
    have hb : b = ⟨b.block, b.off + 0, none⟩ := by cases b; simp only at hs; subst hs; rfl
    rw [← hb] at h2
    exact ⟨v, by simp [execOp, ho, h1, Instr.loadAt, Instr.sureAddr, h2], h3⟩
theorem run_fieldPlace {s : TypeId} {d : TD} (f : TyFacts P s d) {fs : List (Nat × Nat × Bool)} (hs : d.sh = .struct fs) {k off z : Nat} {g : Bool} (hk : fs[k]? = some (off, z, g)) (b i : Nat) (w : World) :
    (Instr.fieldAt s (.pointer (some ⟨b, i, none⟩)) k).run P w = .ok (.pointer (some ⟨b, i + off, none⟩)) w := by
  obtain ⟨F, h1, h2⟩ := f.struct hs
  obtain ⟨x, h3, h4, h5, h6, _⟩ := h2 k off z g hk
  unfold Instr.fieldAt
  simp [run_underlying h1, h3, Instr.sureAddr, fieldPlace, h6, h5, h4, Addr.add_lit]
theorem does_fieldAddr_ptr {s : TypeId} {d : TD} {x : Operand} {k i off fo z : Nat} {g : Bool} {fs : List (Nat × Nat × Bool)} (f : TyFacts P s d) (ho : o.op = .fieldAddr s x k) (hs : d.sh = .struct fs) (hk : fs[k]? = some (fo, z, g)) (hx : opv T x = .ptr i off) : Does P B o T H (.ptr i (off + fo)) H :=
  does_pure fun σ w a s' h => by
    have h1 := h x (by simp [ho, Op.operands])
    rw [hx] at h1
    unfold Rep at h1
    obtain ⟨hi, b, hb, h1⟩ := h1
    refine ⟨.pointer (some ⟨b, off + fo, none⟩), ?_, ?_⟩
    · simp [execOp, ho, h1, run_fieldPlace f hs hk]
    · unfold Rep; exact ⟨hi, b, hb, rfl⟩
theorem does_fieldAddr_row {s : TypeId} {d : TD} {x : Operand} {k fo z : Nat} {g : Bool} {xs : List PV} {fs : List (Nat × Nat × Bool)} (f : TyFacts P s d) (ho : o.op = .fieldAddr s x k) (hs : d.sh = .struct fs) (hk : fs[k]? = some (fo, z, g)) (hx : opv T x = .row xs) : Does P B o T H (.row (xs.drop fo)) H :=
  does_pure fun σ w a s' h => by
    have h1 := h x (by simp [ho, Op.operands])
    rw [hx] at h1
    unfold Rep at h1
    obtain ⟨b, vs, h1, hrl, hl⟩ := h1
    have hb : b = ⟨b.block, b.off, none⟩ := by cases b; simp only [Lies] at hl; cases hl.1; rfl
    refine ⟨.pointer (some ⟨b.block, b.off + fo, none⟩), ?_, ?_⟩
    · rw [hb] at h1
      simp [execOp, ho, h1, run_fieldPlace f hs hk]
    · unfold Rep; exact ⟨_, vs.drop fo, rfl, hrl.drop fo, hl.drop fo⟩
def fieldPV (cs : List PV) (fo z : Nat) : Bool → Option PV
  | true => match Nat.ble (fo + z) cs.length with
    | true => some (.agg ((cs.drop fo).take z))
    | false => none
  | false => cs[fo]?
theorem does_field {s : TypeId} {d : TD} {x : Operand} {k fo z : Nat} {g : Bool} {cs : List PV} {r : PV} {fs : List (Nat × Nat × Bool)} (f : TyFacts P s d) (ho : o.op = .field s x k) (hs : d.sh = .struct fs) (hk : fs[k]? = some (fo, z, g)) (hx : opv T x = .agg cs) (hr : fieldPV cs fo z g = some r) : Does P B o T H r H :=
  does_pure fun σ w a s' h => by
    have h1 := h x (by simp [ho, Op.operands])
    rw [hx] at h1
    unfold Rep at h1
    obtain ⟨vs, h1, hrl⟩ := h1
    obtain ⟨F, h3, h4⟩ := f.struct hs
    obtain ⟨y, h5, h6, h7, h8, h9⟩ := h4 k fo z g hk
    cases g with
    | true =>
      simp only [fieldPV] at hr
      split at hr
      · rename_i hle
        injection hr with hr; subst hr
        refine ⟨.agg ((vs.drop fo).take z).toArray, ?_, by unfold Rep; exact ⟨_, rfl, (hrl.drop fo).take z⟩⟩
        simp [execOp, ho, h1, Instr.field, run_underlying h3, h5, asAgg, part, h9, h8, h6]
      · cases hr
    | false =>
      simp only [fieldPV] at hr
      obtain ⟨u, hu, hru⟩ := hrl.get hr
      refine ⟨u, ?_, hru⟩
      simp [execOp, ho, h1, Instr.field, run_underlying h3, h5, asAgg, part, h9, h6, hu]

/-- Cells put in the place of others. -/
def splice (xs : List PV) (off : Nat) (ys : List PV) : List PV := xs.take off ++ ys ++ xs.drop (off + ys.length)
theorem does_store {t : TypeId} {d : TD} {x y : Operand} {i off : Nat} {xs ys : List PV} {e : TypeId} (f : TyFacts P t d) (ho : o.op = .store t x y) (hx : opv T x = .ptr i off) (hi : H[i]? = some (.cells xs e)) (hy : cellsPV (opv T y) = some ys) (hl : Nat.beq ys.length d.size = true) (hok : ys.all okC = true)
    (hle : Nat.ble (off + ys.length) xs.length = true) : Does P B o T H (.val undef) (H.set i (.cells (splice xs off ys) e)) := by
  intro σ w a s h
  have h1 := h x (by simp [ho, Op.operands])
  have h2 := h y (by simp [ho, Op.operands])
  rw [hx] at h1
  unfold Rep at h1
  obtain ⟨_, b, hb, h1⟩ := h1
  obtain ⟨b', vs, hb', hv, hrl⟩ := s.holds i _ hi
  simp only [cx] at hb hb' hv
  rw [hb] at hb'
  cases hb'
  have h3 := cellsPV_rep hy h2
  have h4 := okC_repL hok h3
  rw [Nat.beq_eq] at hl
  rw [Nat.ble_eq] at hle
  have hlen : (a.eval y).cells.toList.length = d.size := by rw [RepL.length h3]; exact hl
  have hvl := RepL.length hrl
  have hst := run_storeCells_at P b off e (a.eval y).cells.toList 0 vs.toArray w hv (by rw [Nat.add_zero, hlen, List.size_toArray, hvl]; omega) h4
  simp only [Nat.add_zero] at hst
  obtain ⟨s', st⟩ := set_cells s (ys := splice xs off ys) hi hb hv (us := vs.take off ++ (a.eval y).cells.toList ++ vs.drop (off + (a.eval y).cells.toList.length)) (by
    simp only [List.length_append, List.length_take, List.length_drop]; rw [hlen]; omega) (by
    unfold splice
    have e1 : (a.eval y).cells.toList.length = ys.length := RepL.length h3
    rw [e1]
    exact ((hrl.take off).append h3).append (hrl.drop _))
  refine ⟨undef, _, σ, .inr ⟨?_, rfl⟩, rep_val _ _, s', st⟩
  have hsz : (a.eval y).cells.size = d.size := by rw [← hlen, Array.length_toList]
  simp [execOp, ho, h1, Instr.storeAt, Instr.sureAddr, storeVar, f.sizeOf, hsz, hst]
theorem does_box {t : TypeId} {x : Operand} {xs : List PV} (ho : o.op = .box t x) (hx : cellsPV (opv T x) = some xs) : Does P B o T H (.ptr H.length 0) (H ++ [.cells xs t]) := by
  intro σ w a s h
  have h1 := cellsPV_rep hx (h x (by simp [ho, Op.operands]))
  obtain ⟨s', st⟩ := name_cells s xs _ t h1
  refine ⟨.pointer (some ⟨w.heap.size, 0, none⟩), _, _, .inl ?_, ?_, s', st⟩
  · simp [execOp, ho, Instr.box, newVar, newRow]
  · unfold Rep; exact ⟨by simp [cx], w.heap.size, by simp [cx, ext_new], rfl⟩
theorem does_alloc {t : TypeId} {d : TD} (f : TyFacts P t d) (ho : o.op = .alloc t) : Does P B o T H (.ptr H.length 0) (H ++ [.cells d.zero t]) := by
  intro σ w a s h
  obtain ⟨i, z, h1, h2, h3, h4, h5⟩ := f.info
  obtain ⟨s', st⟩ := name_cells s d.zero _ t (h5 _)
  refine ⟨.pointer (some ⟨w.heap.size, 0, none⟩), _, _, .inl ?_, ?_, s', st⟩
  · simp [execOp, ho, Instr.alloc, newVar, newRow, zeroValue, typeInfo, h1, h4]
  · unfold Rep; exact ⟨by simp [cx], w.heap.size, by simp [cx, ext_new], rfl⟩
theorem does_makeFunc {fn : Fn} {first cap : Array Operand} (ho : o.op = .makeFunc fn first cap) : Does P B o T H (.fn fn (first.toList.map (opv T)) (cap.toList.map (opv T))) H :=
  does_pure fun σ w a s h => by
    have key : ∀ l : List Operand, (∀ y ∈ l, y ∈ o.op.operands.toList) → RepL (cx B H σ w) (l.map (opv T)) (l.map a.eval) := by
      intro l
      induction l with
      | nil => intro _; exact repL_nil.2 rfl
      | cons y l ih => intro hl; exact repL_cons.2 ⟨h y (hl y (by simp)), ih (fun z hz => hl z (by simp [hz]))⟩
    refine ⟨.func fn (first.map a.eval) (cap.map a.eval), by simp [execOp, ho, Instr.makeFunc], ?_⟩
    unfold Rep
    refine ⟨first.toList.map a.eval, cap.toList.map a.eval, (by rw [← Array.toList_map, ← Array.toList_map]), key _ (fun y hy => ?_), key _ (fun y hy => ?_)⟩
    · rw [ho]; simp [Op.operands]; exact .inl (by simpa using hy)
    · rw [ho]; simp [Op.operands]; exact .inr (by simpa using hy)
end
end Go.Proofs.Ytkchnmilmepnfaa
